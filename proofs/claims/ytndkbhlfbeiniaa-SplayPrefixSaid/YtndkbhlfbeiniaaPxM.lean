/-
  SplayPrefix returns true, whatever it is given, and writes nothing that was there.
-/
import Derived.Test.YtndkbhlfbeiniaaM7
namespace Go.Proofs.Ytndkbhlfbeiniaa
open Go Go.Hp Go.Sp
set_option linter.all false
set_option maxRecDepth 100000
set_option maxHeartbeats 1600000

def Away (H0 : Heap) (T : Nat → Prop) (B : Option Nat) (b : Nat) : Prop := H0.size ≤ b ∧ ¬ T b ∧ B ≠ some b
theorem prefLoop {H0 H : Heap} {e : Env} {Q : HX → Env → Heap → Prop} {f b : Nat} {T : Nat → Prop} {S : Sq} {B : Option Nat} {v : Value} {all : List Nat} {a : Option Addr} {len cap : Nat} {zs : Nat → Int} (hin : InInts H0 a len zs) (hl : len ≤ 9223372036854775807)
    (hM : RM H0 H f T S B v all) (hr : S.rows = [all]) (hne : all ≠ []) (hW : Blk H b (aggCells (aggOf S.it all))) (hb : Away H0 T B b) (e2 : e 2 = .slice a len cap) (e8 : e 8 = .pointer (some ⟨f, 0, none⟩)) (e9 : e 9 = v) (e10 : e 10 = .pointer (some ⟨b, 0, none⟩)) (e12 : e 12 = .int .i64 0)
    (hQ : ∀ e' H' S', e' 8 = .pointer (some ⟨f, 0, none⟩) → e' 9 = v → e' 11 = e 11 → RM H0 H' f T S' B v all → S'.rows = [all] → Q .normal e' H') :
    codeX Try.prog [14] (loopAt Try.f5.body 0) (blockQ 0 Q) e H := by
  obtain ⟨g, c, rfl, rfl, hc⟩ := hM.open hne
  have hpos := List.length_pos_iff.2 hne
  have hlen : all.length ≤ 4096 := by have := hM.fo.len; rw [hr] at this; simpa using this
  have hnd : all.Nodup := by have := hM.fo.nodup; rw [hr] at this; simpa using this
  have hmay : ∀ x ∈ all, May (S.it x) := fun x hx => hM.fo.may (by rw [hr]; simpa using hx)
  obtain ⟨n, hn⟩ : ∃ n, n = all.length := ⟨_, rfl⟩
  rw [← hn] at hpos hlen hM hc e9 hQ
  refine x_loop (fun m e' H' => ∃ (i : Nat) (S' : Sq), e' 12 = .int .i64 (i : Nat) ∧ RM H0 H' f T S' (some g) (.slice (some ⟨g, 0, none⟩) n c) all ∧ S'.rows = [all] ∧ S'.it = S.it ∧ Blk H' b (aggCells (aggOf S.it all)) ∧ i ≤ 40 ∧ i ≤ len ∧ m = 40 - i) 40 ⟨0, S, e12, hM, hr, rfl, hW, by omega, by omega, rfl⟩ ?_
  rintro m e1 H1 ⟨i, S1, i12, hM1, hr1, hit1, hW1, hi40, hil, rfl⟩ hoff
  have i2 := (hoff 2 rfl).trans e2
  have i8 := (hoff 8 rfl).trans e8
  have i9 := (hoff 9 rfl).trans e9
  have i10 := (hoff 10 rfl).trans e10
  have i11 := (hoff 11 rfl)
  clear hoff e2 e8 e9 e10 e12
  by_cases hgo : i < len ∧ i < 40
  · have t1 : (i < len) = True := by simp [hgo.1]
    have t2 : ((i : Int) < 40) = True := by simp; omega
    have hx : all ∈ S1.rows := by rw [hr1]; exact .head _
    obtain ⟨p, rfl, cz, hz1, hz2⟩ := (hin.frame hM1.fr) i hgo.1
    obtain ⟨r0, r1⟩ := pickN_range (zs i) (n := (n : Int)) (by omega)
    obtain ⟨k, ek⟩ := Int.eq_ofNat_of_zero_le r0
    have hk : k < n := by omega
    obtain ⟨x, hxk⟩ : ∃ x, all[k]? = some x := ⟨_, List.getElem?_eq_getElem (by omega)⟩
    have cx := hM1.cell hxk
    have ew : IntKind.i64.wrap ((i : Int) + 1) = ((i + 1 : Nat) : Int) := by rw [wrap_i64] <;> omega
    repeat' (first
      | (with_reducible first | refine seq_normal ?_ | (refine hK _ _ ?_; clear hK K) | refine x_seq (fun K hK => ?_) | refine x_nil ?_ | refine x_block ?_ | refine x_skip ?_ | refine x_exit ?_ | refine x_ret ?_ | refine x_label ?_ | refine x_scope ?_ | (refine seq_ret ?_; clear hK K) | (refine seq_exit ?_; clear hK K) | refine block_normal ?_ | refine block_ret ?_ | refine block_exit ?_ | refine loop_exit ?_ | refine loop_ret ?_)
      | ((with_reducible refine x_reg_lit ?hq ?_); case hq => rfl)
      | ((first | (with_reducible first | refine x_op (fun K hK => ?_) | refine end_ret ?_ | refine end_normal ?_) | ((with_reducible refine x_guard_yes ?hy (fun K hK => ?_)); case hy => rfl)); simp only [go_sem, Int.cast_ofNat_Int, Nat.reduceEqDiff, Nat.reduceAdd, Nat.reduceMul, Nat.reduceLeDiff, Nat.reduceLT, Int.reduceLT, Int.reduceLE, Int.reduceEq, Int.reduceNeg, Int.reduceToNat, Nat.reducePow, reduceIte, reduceCtorEq, i2, i8, i9, i12, t1, t2, cz])
      | ((with_reducible first | refine x_guard_no ?hy ?_ | refine x_cond_true ?hy ?_); case hy => rfl)
      | ((with_reducible first | refine x_guard_none ?hy ?_ | refine x_cond_false ?hy ?_); case hy => rfl)
      | ((with_reducible refine block_exit_ne ?hy ?_); case hy => decide))
    refine Pkisthmuslaw03.pick_ok hz1 hz2 (by omega) ?_
    rw [ek]
    by_cases hk0 : k = 0
    · have z1 : ((k : Int) == 0) = true := by simp [hk0]
      repeat' (first
        | (with_reducible first | refine seq_normal ?_ | (refine hK _ _ ?_; clear hK K) | refine x_seq (fun K hK => ?_) | refine x_nil ?_ | refine x_block ?_ | refine x_skip ?_ | refine x_exit ?_ | refine x_ret ?_ | refine x_label ?_ | refine x_scope ?_ | (refine seq_ret ?_; clear hK K) | (refine seq_exit ?_; clear hK K) | refine block_normal ?_ | refine block_ret ?_ | refine block_exit ?_ | refine loop_exit ?_ | refine loop_ret ?_)
        | ((with_reducible refine x_reg_lit ?hq ?_); case hq => rfl)
        | ((first | (with_reducible first | refine x_op (fun K hK => ?_) | refine end_ret ?_ | refine end_normal ?_) | ((with_reducible refine x_guard_yes ?hy (fun K hK => ?_)); case hy => rfl)); simp only [go_sem, Int.cast_ofNat_Int, Nat.reduceEqDiff, Nat.reduceAdd, Nat.reduceMul, Nat.reduceLeDiff, Nat.reduceLT, Int.reduceLT, Int.reduceLE, Int.reduceEq, Int.reduceNeg, Int.reduceToNat, Nat.reducePow, reduceIte, reduceCtorEq, i2, i8, i9, i12, z1, ew])
        | ((with_reducible first | refine x_guard_no ?hy ?_ | refine x_cond_true ?hy ?_); case hy => rfl)
        | ((with_reducible first | refine x_guard_none ?hy ?_ | refine x_cond_false ?hy ?_); case hy => rfl)
        | ((with_reducible refine block_exit_ne ?hy ?_); case hy => decide))
      exact loop_normal (m' := 40 - (i + 1)) (by omega) ⟨i + 1, S1, rfl, hM1, hr1, hit1, hW1, by omega, by omega, rfl⟩
    · have hsp := split_at' hxk
      have htne : all.take k ≠ [] := by
        intro h
        have := congrArg List.length h
        rw [List.length_take, List.length_nil] at this
        omega
      have z1 : ((k : Int) == 0) = false := by simp [hk0]
      have ewk : IntKind.i64.wrap ((k : Int) - 1) = ((k - 1 : Nat) : Int) := by rw [wrap_i64] <;> omega
      have ewn : IntKind.i64.wrap ((n : Int) - 1) = ((n - 1 : Nat) : Int) := by rw [wrap_i64] <;> omega
      have hk1 : k - 1 < n := by omega
      have hn1 : n - 1 < n := by omega
      have t5 : (0 < n) = True := by simp; omega
      have t6 : ((0 : Int) < (n : Int)) = True := by simp; omega
      obtain ⟨y, hy⟩ : ∃ y, all[k - 1]? = some y := ⟨_, List.getElem?_eq_getElem (by omega)⟩
      obtain ⟨z, hz⟩ : ∃ z, all[n - 1]? = some z := ⟨_, List.getElem?_eq_getElem (by omega)⟩
      obtain ⟨w, hw⟩ : ∃ w, all[0]? = some w := ⟨_, List.getElem?_eq_getElem (by omega)⟩
      have hytake : y ∈ all.take k := List.mem_of_getElem? (i := k - 1) (by rw [List.getElem?_take_of_lt (by omega)]; exact hy)
      have hwtake : w ∈ all.take k := List.mem_of_getElem? (i := 0) (by rw [List.getElem?_take_of_lt (by omega)]; exact hw)
      have hdrop : all.drop k = x :: all.drop (k + 1) := by
        have hlt := (List.getElem?_eq_some_iff.1 hxk).1
        have e := (List.getElem?_eq_some_iff.1 hxk).2
        rw [List.drop_eq_getElem_cons hlt, e]
      have hzdrop : z ∈ x :: all.drop (k + 1) := by
        rw [← hdrop]
        exact List.mem_of_getElem? (i := n - 1 - k) (by rw [List.getElem?_drop, show k + (n - 1 - k) = n - 1 by omega]; exact hz)
      repeat' (first
        | (with_reducible first | refine seq_normal ?_ | (refine hK _ _ ?_; clear hK K) | refine x_seq (fun K hK => ?_) | refine x_nil ?_ | refine x_block ?_ | refine x_skip ?_ | refine x_exit ?_ | refine x_ret ?_ | refine x_label ?_ | refine x_scope ?_ | (refine seq_ret ?_; clear hK K) | (refine seq_exit ?_; clear hK K) | refine block_normal ?_ | refine block_ret ?_ | refine block_exit ?_ | refine loop_exit ?_ | refine loop_ret ?_)
        | ((with_reducible refine x_reg_lit ?hq ?_); case hq => rfl)
        | ((first | (with_reducible first | refine x_op (fun K hK => ?_) | refine end_ret ?_ | refine end_normal ?_) | ((with_reducible refine x_guard_yes ?hy (fun K hK => ?_)); case hy => rfl)); simp only [go_sem, Int.cast_ofNat_Int, Nat.reduceEqDiff, Nat.reduceAdd, Nat.reduceMul, Nat.reduceLeDiff, Nat.reduceLT, Int.reduceLT, Int.reduceLE, Int.reduceEq, Int.reduceNeg, Int.reduceToNat, Nat.reducePow, reduceIte, reduceCtorEq, i2, i8, i9, i12, z1, hk, cx])
        | ((with_reducible first | refine x_guard_no ?hy ?_ | refine x_cond_true ?hy ?_); case hy => rfl)
        | ((with_reducible first | refine x_guard_none ?hy ?_ | refine x_cond_false ?hy ?_); case hy => rfl)
        | ((with_reducible refine block_exit_ne ?hy ?_); case hy => decide))
      refine m_split (k := x) (l := all.take k) (r := all.drop (k + 1)) (R := []) hM1.fo (by rw [hr1, ← hsp]) htne ?_
      intro H2 hF2 hf2
      have hM2 := hM1.op hF2 hf2
      have hW2 := hW1.frame hf2 hb.2.1
      have cw := hM2.cell hw
      repeat' (first
        | (with_reducible first | refine seq_normal ?_ | (refine hK _ _ ?_; clear hK K) | refine x_seq (fun K hK => ?_) | refine x_nil ?_ | refine x_block ?_ | refine x_skip ?_ | refine x_exit ?_ | refine x_ret ?_ | refine x_label ?_ | refine x_scope ?_ | (refine seq_ret ?_; clear hK K) | (refine seq_exit ?_; clear hK K) | refine block_normal ?_ | refine block_ret ?_ | refine block_exit ?_ | refine loop_exit ?_ | refine loop_ret ?_)
        | ((with_reducible refine x_reg_lit ?hq ?_); case hq => rfl)
        | ((first | (with_reducible first | refine x_op (fun K hK => ?_) | refine end_ret ?_ | refine end_normal ?_) | ((with_reducible refine x_guard_yes ?hy (fun K hK => ?_)); case hy => rfl)); simp only [go_sem, Int.cast_ofNat_Int, Nat.reduceEqDiff, Nat.reduceAdd, Nat.reduceMul, Nat.reduceLeDiff, Nat.reduceLT, Int.reduceLT, Int.reduceLE, Int.reduceEq, Int.reduceNeg, Int.reduceToNat, Nat.reducePow, reduceIte, reduceCtorEq, i8, i9, t5, t6, cw])
        | ((with_reducible first | refine x_guard_no ?hy ?_ | refine x_cond_true ?hy ?_); case hy => rfl)
        | ((with_reducible first | refine x_guard_none ?hy ?_ | refine x_cond_false ?hy ?_); case hy => rfl)
        | ((with_reducible refine block_exit_ne ?hy ?_); case hy => decide))
      refine m_sum (xs := all.take k) hM2.fo (.head _) hwtake ?_
      intro H3 hF3 hf3
      have hM3 := hM2.op hF3 hf3
      have hW3 := hW2.frame hf3 hb.2.1
      repeat' (first
        | (with_reducible first | refine seq_normal ?_ | (refine hK _ _ ?_; clear hK K) | refine x_seq (fun K hK => ?_) | refine x_nil ?_ | refine x_block ?_ | refine x_skip ?_ | refine x_exit ?_ | refine x_ret ?_ | refine x_label ?_ | refine x_scope ?_ | (refine seq_ret ?_; clear hK K) | (refine seq_exit ?_; clear hK K) | refine block_normal ?_ | refine block_ret ?_ | refine block_exit ?_ | refine loop_exit ?_ | refine loop_ret ?_)
        | ((with_reducible refine x_reg_lit ?hq ?_); case hq => rfl)
        | ((first | (with_reducible first | refine x_op (fun K hK => ?_) | refine end_ret ?_ | refine end_normal ?_) | ((with_reducible refine x_guard_yes ?hy (fun K hK => ?_)); case hy => rfl)); simp only [go_sem, Int.cast_ofNat_Int, Nat.reduceEqDiff, Nat.reduceAdd, Nat.reduceMul, Nat.reduceLeDiff, Nat.reduceLT, Int.reduceLT, Int.reduceLE, Int.reduceEq, Int.reduceNeg, Int.reduceToNat, Nat.reducePow, reduceIte, reduceCtorEq, Agg.val, i8, i9, i12, hk, hcell_hset_ne, hcell_push, hcell_top, okW_push, okW_top, hcell_hset_ne, hcell_hset_off, hcell_hset_eq, okW_hset, hset_size, Array.size_push, Nat.lt_add_one, ne_add_one, add_one_ne, Nat.add_assoc, add_same, add_lt_same, Nat.reduceEqDiff, lt_add_k, add_k_ne, ne_add_k])
        | ((with_reducible first | refine x_guard_no ?hy ?_ | refine x_cond_true ?hy ?_); case hy => rfl)
        | ((with_reducible first | refine x_guard_none ?hy ?_ | refine x_cond_false ?hy ?_); case hy => rfl)
        | ((with_reducible refine block_exit_ne ?hy ?_); case hy => decide))
      generalize hH4 : hset _ _ _ = H4
      have ha4 : Blk H4 H3.size (aggCells (aggOf S1.it (all.take k))) := by rw [← hH4]; exact (agg_new H3 _ _).1
      have hf4 : Fr (fun _ => False) H3 H4 := by rw [← hH4]; exact (by ((repeat (first | refine Fr.set ?_ (by simp) _ | refine Fr.push ?_ _)); exact Fr.refl _ _))
      clear hH4
      have hM4 := hM3.grow hf4
      have hW4 := hW3.frame hf4 fun h => h
      have cx4 := hM4.cell hxk
      have hnT3 : ¬ T H3.size := fun h => by have := hM3.fo.lt h; omega
      simp only [go_sem, Int.cast_ofNat_Int, Nat.reduceEqDiff, Nat.reduceAdd, Nat.reduceMul, Nat.reduceLeDiff, Nat.reduceLT, Int.reduceLT, Int.reduceLE, Int.reduceEq, Int.reduceNeg, Int.reduceToNat, Nat.reducePow, reduceIte, reduceCtorEq, cx4]
      repeat' (first
        | (with_reducible first | refine seq_normal ?_ | (refine hK _ _ ?_; clear hK K) | refine x_seq (fun K hK => ?_) | refine x_nil ?_ | refine x_block ?_ | refine x_skip ?_ | refine x_exit ?_ | refine x_ret ?_ | refine x_label ?_ | refine x_scope ?_ | (refine seq_ret ?_; clear hK K) | (refine seq_exit ?_; clear hK K) | refine block_normal ?_ | refine block_ret ?_ | refine block_exit ?_ | refine loop_exit ?_ | refine loop_ret ?_)
        | ((with_reducible refine x_reg_lit ?hq ?_); case hq => rfl)
        | ((first | (with_reducible first | refine x_op (fun K hK => ?_) | refine end_ret ?_ | refine end_normal ?_) | ((with_reducible refine x_guard_yes ?hy (fun K hK => ?_)); case hy => rfl)); simp only [go_sem, Int.cast_ofNat_Int, Nat.reduceEqDiff, Nat.reduceAdd, Nat.reduceMul, Nat.reduceLeDiff, Nat.reduceLT, Int.reduceLT, Int.reduceLE, Int.reduceEq, Int.reduceNeg, Int.reduceToNat, Nat.reducePow, reduceIte, reduceCtorEq, i8, i9, i12, hk, cx4])
        | ((with_reducible first | refine x_guard_no ?hy ?_ | refine x_cond_true ?hy ?_); case hy => rfl)
        | ((with_reducible first | refine x_guard_none ?hy ?_ | refine x_cond_false ?hy ?_); case hy => rfl)
        | ((with_reducible refine block_exit_ne ?hy ?_); case hy => decide))
      refine m_sum (xs := x :: all.drop (k + 1)) hM4.fo (.tail _ (.head _)) (.head _) ?_
      intro H5 hF5 hf5
      have hM5 := hM4.op hF5 hf5
      have hW5 := hW4.frame hf5 hb.2.1
      have ha5 := ha4.frame hf5 hnT3
      repeat' (first
        | (with_reducible first | refine seq_normal ?_ | (refine hK _ _ ?_; clear hK K) | refine x_seq (fun K hK => ?_) | refine x_nil ?_ | refine x_block ?_ | refine x_skip ?_ | refine x_exit ?_ | refine x_ret ?_ | refine x_label ?_ | refine x_scope ?_ | (refine seq_ret ?_; clear hK K) | (refine seq_exit ?_; clear hK K) | refine block_normal ?_ | refine block_ret ?_ | refine block_exit ?_ | refine loop_exit ?_ | refine loop_ret ?_)
        | ((with_reducible refine x_reg_lit ?hq ?_); case hq => rfl)
        | ((first | (with_reducible first | refine x_op (fun K hK => ?_) | refine end_ret ?_ | refine end_normal ?_) | ((with_reducible refine x_guard_yes ?hy (fun K hK => ?_)); case hy => rfl)); simp only [go_sem, Int.cast_ofNat_Int, Nat.reduceEqDiff, Nat.reduceAdd, Nat.reduceMul, Nat.reduceLeDiff, Nat.reduceLT, Int.reduceLT, Int.reduceLE, Int.reduceEq, Int.reduceNeg, Int.reduceToNat, Nat.reducePow, reduceIte, reduceCtorEq, Agg.val, i8, i9, i12, hk1, hn1, ewk, ewn, hcell_hset_ne, hcell_push, hcell_top, okW_push, okW_top, hcell_hset_ne, hcell_hset_off, hcell_hset_eq, okW_hset, hset_size, Array.size_push, Nat.lt_add_one, ne_add_one, add_one_ne, Nat.add_assoc, add_same, add_lt_same, Nat.reduceEqDiff, lt_add_k, add_k_ne, ne_add_k])
        | ((with_reducible first | refine x_guard_no ?hy ?_ | refine x_cond_true ?hy ?_); case hy => rfl)
        | ((with_reducible first | refine x_guard_none ?hy ?_ | refine x_cond_false ?hy ?_); case hy => rfl)
        | ((with_reducible refine block_exit_ne ?hy ?_); case hy => decide))
      generalize hH6 : hset _ _ _ = H6
      have hb6 : Blk H6 H5.size (aggCells (aggOf S1.it (x :: all.drop (k + 1)))) := by rw [← hH6]; exact (agg_new H5 _ _).1
      have hf6 : Fr (fun _ => False) H5 H6 := by rw [← hH6]; exact (by ((repeat (first | refine Fr.set ?_ (by simp) _ | refine Fr.push ?_ _)); exact Fr.refl _ _))
      clear hH6
      have hM6 := hM5.grow hf6
      have hW6 := hW5.frame hf6 fun h => h
      have ha6 := ha5.frame hf6 fun h => h
      have cy6 := hM6.cell hy
      have cz6 := hM6.cell hz
      have hnT5 : ¬ T H5.size := fun h => by have := hM5.fo.lt h; omega
      simp only [go_sem, Int.cast_ofNat_Int, Nat.reduceEqDiff, Nat.reduceAdd, Nat.reduceMul, Nat.reduceLeDiff, Nat.reduceLT, Int.reduceLT, Int.reduceLE, Int.reduceEq, Int.reduceNeg, Int.reduceToNat, Nat.reducePow, reduceIte, reduceCtorEq, cy6]
      repeat' (first
        | (with_reducible first | refine seq_normal ?_ | (refine hK _ _ ?_; clear hK K) | refine x_seq (fun K hK => ?_) | refine x_nil ?_ | refine x_block ?_ | refine x_skip ?_ | refine x_exit ?_ | refine x_ret ?_ | refine x_label ?_ | refine x_scope ?_ | (refine seq_ret ?_; clear hK K) | (refine seq_exit ?_; clear hK K) | refine block_normal ?_ | refine block_ret ?_ | refine block_exit ?_ | refine loop_exit ?_ | refine loop_ret ?_)
        | ((with_reducible refine x_reg_lit ?hq ?_); case hq => rfl)
        | ((first | (with_reducible first | refine x_op (fun K hK => ?_) | refine end_ret ?_ | refine end_normal ?_) | ((with_reducible refine x_guard_yes ?hy (fun K hK => ?_)); case hy => rfl)); simp only [go_sem, Int.cast_ofNat_Int, Nat.reduceEqDiff, Nat.reduceAdd, Nat.reduceMul, Nat.reduceLeDiff, Nat.reduceLT, Int.reduceLT, Int.reduceLE, Int.reduceEq, Int.reduceNeg, Int.reduceToNat, Nat.reducePow, reduceIte, reduceCtorEq, i8, i9, i12, hk1, hn1, ewk, ewn, cy6, cz6])
        | ((with_reducible first | refine x_guard_no ?hy ?_ | refine x_cond_true ?hy ?_); case hy => rfl)
        | ((with_reducible first | refine x_guard_none ?hy ?_ | refine x_cond_false ?hy ?_); case hy => rfl)
        | ((with_reducible refine block_exit_ne ?hy ?_); case hy => decide))
      refine m_join (k := y) (j := z) (xs := all.take k) (ys := x :: all.drop (k + 1)) (R := []) hM6.fo (.refl _) hytake hzdrop ?_
      intro H7 hF7 hf7
      have hM7 := hM6.op hF7 hf7
      have hW7 := hW6.frame hf7 hb.2.1
      have ha7 := ha6.frame hf7 hnT3
      have hb7 := hb6.frame hf7 hnT5
      have cx7 := hM7.cell hxk
      repeat' (first
        | (with_reducible first | refine seq_normal ?_ | (refine hK _ _ ?_; clear hK K) | refine x_seq (fun K hK => ?_) | refine x_nil ?_ | refine x_block ?_ | refine x_skip ?_ | refine x_exit ?_ | refine x_ret ?_ | refine x_label ?_ | refine x_scope ?_ | (refine seq_ret ?_; clear hK K) | (refine seq_exit ?_; clear hK K) | refine block_normal ?_ | refine block_ret ?_ | refine block_exit ?_ | refine loop_exit ?_ | refine loop_ret ?_)
        | ((with_reducible refine x_reg_lit ?hq ?_); case hq => rfl)
        | ((first | (with_reducible first | refine x_op (fun K hK => ?_) | refine end_ret ?_ | refine end_normal ?_) | ((with_reducible refine x_guard_yes ?hy (fun K hK => ?_)); case hy => rfl)); simp only [go_sem, Int.cast_ofNat_Int, Nat.reduceEqDiff, Nat.reduceAdd, Nat.reduceMul, Nat.reduceLeDiff, Nat.reduceLT, Int.reduceLT, Int.reduceLE, Int.reduceEq, Int.reduceNeg, Int.reduceToNat, Nat.reducePow, reduceIte, reduceCtorEq, i8, i9, i12, hk, cx7])
        | ((with_reducible first | refine x_guard_no ?hy ?_ | refine x_cond_true ?hy ?_); case hy => rfl)
        | ((with_reducible first | refine x_guard_none ?hy ?_ | refine x_cond_false ?hy ?_); case hy => rfl)
        | ((with_reducible refine block_exit_ne ?hy ?_); case hy => decide))
      refine m_sum (xs := all.take k ++ x :: all.drop (k + 1)) hM7.fo (.head _) (by simp) ?_
      intro H8 hF8 hf8
      have hM8 := hM7.op hF8 hf8
      have hW8 := hW7.frame hf8 hb.2.1
      have ha8 := ha7.frame hf8 hnT3
      have hb8 := hb7.frame hf8 hnT5
      repeat' (first
        | (with_reducible first | refine seq_normal ?_ | (refine hK _ _ ?_; clear hK K) | refine x_seq (fun K hK => ?_) | refine x_nil ?_ | refine x_block ?_ | refine x_skip ?_ | refine x_exit ?_ | refine x_ret ?_ | refine x_label ?_ | refine x_scope ?_ | (refine seq_ret ?_; clear hK K) | (refine seq_exit ?_; clear hK K) | refine block_normal ?_ | refine block_ret ?_ | refine block_exit ?_ | refine loop_exit ?_ | refine loop_ret ?_)
        | ((with_reducible refine x_reg_lit ?hq ?_); case hq => rfl)
        | ((first | (with_reducible first | refine x_op (fun K hK => ?_) | refine end_ret ?_ | refine end_normal ?_) | ((with_reducible refine x_guard_yes ?hy (fun K hK => ?_)); case hy => rfl)); simp only [go_sem, Int.cast_ofNat_Int, Nat.reduceEqDiff, Nat.reduceAdd, Nat.reduceMul, Nat.reduceLeDiff, Nat.reduceLT, Int.reduceLT, Int.reduceLE, Int.reduceEq, Int.reduceNeg, Int.reduceToNat, Nat.reducePow, reduceIte, reduceCtorEq, Agg.val, i8, i9, i12, hcell_push, hcell_top, okW_push, okW_top, hcell_hset_ne, hcell_hset_off, hcell_hset_eq, okW_hset, hset_size, Array.size_push, Nat.lt_add_one, ne_add_one, add_one_ne, Nat.add_assoc, add_same, add_lt_same, Nat.reduceEqDiff, lt_add_k, add_k_ne, ne_add_k])
        | ((with_reducible first | refine x_guard_no ?hy ?_ | refine x_cond_true ?hy ?_); case hy => rfl)
        | ((with_reducible first | refine x_guard_none ?hy ?_ | refine x_cond_false ?hy ?_); case hy => rfl)
        | ((with_reducible refine block_exit_ne ?hy ?_); case hy => decide))
      generalize hH9 : hset _ _ _ = H9
      have hc9 : Blk H9 H8.size (aggCells (aggOf S1.it (all.take k ++ x :: all.drop (k + 1)))) := by rw [← hH9]; exact (agg_new H8 _ _).1
      have hf9 : Fr (fun _ => False) H8 H9 := by rw [← hH9]; exact (by ((repeat (first | refine Fr.set ?_ (by simp) _ | refine Fr.push ?_ _)); exact Fr.refl _ _))
      clear hH9
      have hM9 := hM8.grow hf9
      have hW9 := hW8.frame hf9 fun h => h
      have ha9 := ha8.frame hf9 fun h => h
      have hb9 := hb8.frame hf9 fun h => h
      obtain ⟨Wg, hWg⟩ : ∃ W, W = aggOf S.it all := ⟨_, rfl⟩
      obtain ⟨Ag, hAg⟩ : ∃ W, W = aggOf S1.it (all.take k) := ⟨_, rfl⟩
      obtain ⟨Bg, hBg⟩ : ∃ W, W = aggOf S1.it (x :: all.drop (k + 1)) := ⟨_, rfl⟩
      have hCg : aggOf S1.it (all.take k ++ x :: all.drop (k + 1)) = Wg := by rw [hWg, hit1, ← hsp]
      rw [hCg] at hc9
      rw [← hWg] at hW9
      rw [← hAg] at ha9
      rw [← hBg] at hb9
      have q : Cells [(b, 0, .int .i64 Wg.count), (b, 1, .int .i64 Wg.sum), (b, 2, .int .i64 Wg.least), (b, 3, .int .i64 Wg.most), (b, 4, .int .i64 Wg.flags),
        (H3.size, 0, .int .i64 Ag.count), (H3.size, 1, .int .i64 Ag.sum), (H3.size, 2, .int .i64 Ag.least), (H3.size, 3, .int .i64 Ag.most), (H3.size, 4, .int .i64 Ag.flags),
        (H5.size, 0, .int .i64 Bg.count), (H5.size, 1, .int .i64 Bg.sum), (H5.size, 2, .int .i64 Bg.least), (H5.size, 3, .int .i64 Bg.most), (H5.size, 4, .int .i64 Bg.flags),
        (H8.size, 0, .int .i64 Wg.count), (H8.size, 1, .int .i64 Wg.sum), (H8.size, 2, .int .i64 Wg.least), (H8.size, 3, .int .i64 Wg.most), (H8.size, 4, .int .i64 Wg.flags)] H9 :=
        ⟨hW9.cellOf (i := 0) rfl, hW9.cellOf (i := 1) rfl, hW9.cellOf (i := 2) rfl, hW9.cellOf (i := 3) rfl, hW9.cellOf (i := 4) rfl,
          ha9.cellOf (i := 0) rfl, ha9.cellOf (i := 1) rfl, ha9.cellOf (i := 2) rfl, ha9.cellOf (i := 3) rfl, ha9.cellOf (i := 4) rfl,
          hb9.cellOf (i := 0) rfl, hb9.cellOf (i := 1) rfl, hb9.cellOf (i := 2) rfl, hb9.cellOf (i := 3) rfl, hb9.cellOf (i := 4) rfl,
          hc9.cellOf (i := 0) rfl, hc9.cellOf (i := 1) rfl, hc9.cellOf (i := 2) rfl, hc9.cellOf (i := 3) rfl, hc9.cellOf (i := 4) rfl, trivial⟩
      refine x_drawS [] [0, 1, 2, 3, 4, 5, 6, 7, 8, 9, 10, 11, 12, 13, 14, 15, 16, 17, 18, 19, 20, 22, 21, 23, 24, 25, 26, 27, 28, 29] rfl (by kernel_rfl) (Cells _) q ?_
      repeat' (first
        | (with_reducible refine xs_nil ?_)
        | ((with_reducible apply xs_rd); (case hi => rfl); (case hr => rfl); (case h1 => intro H' hS'; (try simp only [Cells, and_true] at hS'); simp only [go_sem, Int.cast_ofNat_Int, Nat.reduceEqDiff, Nat.reduceAdd, Nat.reduceMul, Nat.reduceLeDiff, Nat.reduceLT, Int.reduceLT, Int.reduceLE, Int.reduceEq, Int.reduceNeg, Int.reduceToNat, Nat.reducePow, reduceIte, reduceCtorEq, i8, i9, i10, hS']; rfl))
        | ((with_reducible apply xs_guard_yes); (case hi => rfl); (case hr => rfl); (case hy => rfl); (case h1 => intro H' hS'; (try simp only [Cells, and_true] at hS'); simp only [go_sem, Int.cast_ofNat_Int, Nat.reduceEqDiff, Nat.reduceAdd, Nat.reduceMul, Nat.reduceLeDiff, Nat.reduceLT, Int.reduceLT, Int.reduceLE, Int.reduceEq, Int.reduceNeg, Int.reduceToNat, Nat.reducePow, reduceIte, reduceCtorEq, i8, i9, i10, hS']; rfl))
        | ((with_reducible refine xs_tail ?hz ?_); case hz => rfl)
        | ((with_reducible refine xs_keep ?hz ?_); case hz => first | assumption | (simp only [go_sem, Int.cast_ofNat_Int, Nat.reduceEqDiff, Nat.reduceAdd, Nat.reduceMul, Nat.reduceLeDiff, Nat.reduceLT, Int.reduceLT, Int.reduceLE, Int.reduceEq, Int.reduceNeg, Int.reduceToNat, Nat.reducePow, reduceIte, reduceCtorEq, Cells, and_true, i8, i9, i10]))
        | ((with_reducible apply xs_guard_no); (case hi => rfl); (case hy => rfl); (case hS => assumption))
        | ((first | ((with_reducible apply xs_op); (case hi => rfl)) | ((with_reducible apply xs_op_yes); (case hi => rfl); (case hy => rfl))); (case hr => rfl); intro K hK; simp only [go_sem, Int.cast_ofNat_Int, Nat.reduceEqDiff, Nat.reduceAdd, Nat.reduceMul, Nat.reduceLeDiff, Nat.reduceLT, Int.reduceLT, Int.reduceLE, Int.reduceEq, Int.reduceNeg, Int.reduceToNat, Nat.reducePow, reduceIte, reduceCtorEq, i8, i9, i10])
        | (with_reducible first | refine seq_normal ?_ | (refine hK _ _ ?_; clear hK K) | refine x_seq (fun K hK => ?_) | refine x_nil ?_ | refine x_block ?_ | refine x_skip ?_ | refine x_exit ?_ | refine x_ret ?_ | refine x_label ?_ | refine x_scope ?_ | (refine seq_ret ?_; clear hK K) | (refine seq_exit ?_; clear hK K) | refine block_normal ?_ | refine block_ret ?_ | refine block_exit ?_ | refine loop_exit ?_ | refine loop_ret ?_)
        | ((with_reducible refine x_reg_lit ?hq ?_); case hq => rfl)
        | ((first | (with_reducible first | refine x_op (fun K hK => ?_) | refine end_ret ?_ | refine end_normal ?_) | ((with_reducible refine x_guard_yes ?hy (fun K hK => ?_)); case hy => rfl)); simp only [go_sem, Int.cast_ofNat_Int, Nat.reduceEqDiff, Nat.reduceAdd, Nat.reduceMul, Nat.reduceLeDiff, Nat.reduceLT, Int.reduceLT, Int.reduceLE, Int.reduceEq, Int.reduceNeg, Int.reduceToNat, Nat.reducePow, reduceIte, reduceCtorEq, i8, i9, i10])
        | ((with_reducible first | refine x_guard_no ?hy ?_ | refine x_cond_true ?hy ?_); case hy => rfl)
        | ((with_reducible first | refine x_guard_none ?hy ?_ | refine x_cond_false ?hy ?_); case hy => rfl)
        | ((with_reducible refine block_exit_ne ?hy ?_); case hy => decide))
      have ht9 : ∀ y ∈ (all.take k).map S1.it, May y := fun y hy => by
        obtain ⟨i, hi, rfl⟩ := List.mem_map.1 hy
        rw [hit1]
        exact hmay i (List.mem_of_mem_take hi)
      have hd9 : ∀ y ∈ (x :: all.drop (k + 1)).map S1.it, May y := fun y hy => by
        obtain ⟨i, hi, rfl⟩ := List.mem_map.1 hy
        rw [hit1]
        rw [← hdrop] at hi
        exact hmay i (List.mem_of_mem_drop hi)
      have hAv : Ag.val = (aggL ((all.take k).map S1.it)).val := by rw [hAg]; rfl
      have hBv : Bg.val = (aggL ((x :: all.drop (k + 1)).map S1.it)).val := by rw [hBg]; rfl
      have eA : Value.agg #[.int .i64 Ag.count, .int .i64 Ag.sum, .int .i64 Ag.least, .int .i64 Ag.most, .int .i64 Ag.flags] = (aggL ((all.take k).map S1.it)).val := hAv
      have eB : Value.agg #[.int .i64 Bg.count, .int .i64 Bg.sum, .int .i64 Bg.least, .int .i64 Bg.most, .int .i64 Bg.flags] = (aggL ((x :: all.drop (k + 1)).map S1.it)).val := hBv
      rw [eA, eB]
      refine added_ok ht9 hd9 (by rw [List.length_map, List.length_map, ← List.length_append, ← hsp]; omega) ?_
      intro H10 hf10
      have q10 := q.grow hf10
      have hsum : aggL ((all.take k).map S1.it ++ (x :: all.drop (k + 1)).map S1.it) = Wg := by
        rw [← List.map_append]
        exact hCg
      rw [hsum]
      repeat' (first
        | (with_reducible refine xs_nil ?_)
        | ((with_reducible apply xs_rd); (case hi => rfl); (case hr => rfl); (case h1 => intro H' hS'; (try simp only [Cells, and_true] at hS'); simp only [go_sem, Int.cast_ofNat_Int, Nat.reduceEqDiff, Nat.reduceAdd, Nat.reduceMul, Nat.reduceLeDiff, Nat.reduceLT, Int.reduceLT, Int.reduceLE, Int.reduceEq, Int.reduceNeg, Int.reduceToNat, Nat.reducePow, reduceIte, reduceCtorEq, Agg.val, i10, hS']; rfl))
        | ((with_reducible apply xs_guard_yes); (case hi => rfl); (case hr => rfl); (case hy => rfl); (case h1 => intro H' hS'; (try simp only [Cells, and_true] at hS'); simp only [go_sem, Int.cast_ofNat_Int, Nat.reduceEqDiff, Nat.reduceAdd, Nat.reduceMul, Nat.reduceLeDiff, Nat.reduceLT, Int.reduceLT, Int.reduceLE, Int.reduceEq, Int.reduceNeg, Int.reduceToNat, Nat.reducePow, reduceIte, reduceCtorEq, Agg.val, i10, hS']; rfl))
        | ((with_reducible refine xs_tail ?hz ?_); case hz => rfl)
        | ((with_reducible refine xs_keep ?hz ?_); case hz => first | assumption | (simp only [go_sem, Int.cast_ofNat_Int, Nat.reduceEqDiff, Nat.reduceAdd, Nat.reduceMul, Nat.reduceLeDiff, Nat.reduceLT, Int.reduceLT, Int.reduceLE, Int.reduceEq, Int.reduceNeg, Int.reduceToNat, Nat.reducePow, reduceIte, reduceCtorEq, Cells, and_true, Agg.val, i10]))
        | ((with_reducible apply xs_guard_no); (case hi => rfl); (case hy => rfl); (case hS => assumption))
        | ((first | ((with_reducible apply xs_op); (case hi => rfl)) | ((with_reducible apply xs_op_yes); (case hi => rfl); (case hy => rfl))); (case hr => rfl); intro K hK; simp only [go_sem, Int.cast_ofNat_Int, Nat.reduceEqDiff, Nat.reduceAdd, Nat.reduceMul, Nat.reduceLeDiff, Nat.reduceLT, Int.reduceLT, Int.reduceLE, Int.reduceEq, Int.reduceNeg, Int.reduceToNat, Nat.reducePow, reduceIte, reduceCtorEq, Agg.val, i10])
        | (with_reducible first | refine seq_normal ?_ | (refine hK _ _ ?_; clear hK K) | refine x_seq (fun K hK => ?_) | refine x_nil ?_ | refine x_block ?_ | refine x_skip ?_ | refine x_exit ?_ | refine x_ret ?_ | refine x_label ?_ | refine x_scope ?_ | (refine seq_ret ?_; clear hK K) | (refine seq_exit ?_; clear hK K) | refine block_normal ?_ | refine block_ret ?_ | refine block_exit ?_ | refine loop_exit ?_ | refine loop_ret ?_)
        | ((with_reducible refine x_reg_lit ?hq ?_); case hq => rfl)
        | ((first | (with_reducible first | refine x_op (fun K hK => ?_) | refine end_ret ?_ | refine end_normal ?_) | ((with_reducible refine x_guard_yes ?hy (fun K hK => ?_)); case hy => rfl)); simp only [go_sem, Int.cast_ofNat_Int, Nat.reduceEqDiff, Nat.reduceAdd, Nat.reduceMul, Nat.reduceLeDiff, Nat.reduceLT, Int.reduceLT, Int.reduceLE, Int.reduceEq, Int.reduceNeg, Int.reduceToNat, Nat.reducePow, reduceIte, reduceCtorEq, Agg.val, i10])
        | ((with_reducible first | refine x_guard_no ?hy ?_ | refine x_cond_true ?hy ?_); case hy => rfl)
        | ((with_reducible first | refine x_guard_none ?hy ?_ | refine x_cond_false ?hy ?_); case hy => rfl)
        | ((with_reducible refine block_exit_ne ?hy ?_); case hy => decide))
      with_reducible apply xs_guard_yes (v := Value.bool false)
      case hi => rfl
      case hr => rfl
      case hy => rfl
      case h1 =>
        intro H' hS'
        simp only [go_sem, Int.cast_ofNat_Int, Nat.reduceEqDiff, Nat.reduceAdd, Nat.reduceMul, Nat.reduceLeDiff, Nat.reduceLT, Int.reduceLT, Int.reduceLE, Int.reduceEq, Int.reduceNeg, Int.reduceToNat, Nat.reducePow, reduceIte, reduceCtorEq]
        refine agg_eq (op := .neq) (a := Wg) (b := Wg) ?_
        simp
      repeat' (first
        | (with_reducible refine xs_nil ?_)
        | ((with_reducible apply xs_rd); (case hi => rfl); (case hr => rfl); (case h1 => intro H' hS'; (try simp only [Cells, and_true] at hS'); simp only [go_sem, Int.cast_ofNat_Int, Nat.reduceEqDiff, Nat.reduceAdd, Nat.reduceMul, Nat.reduceLeDiff, Nat.reduceLT, Int.reduceLT, Int.reduceLE, Int.reduceEq, Int.reduceNeg, Int.reduceToNat, Nat.reducePow, reduceIte, reduceCtorEq, Agg.val, i10, hS']; rfl))
        | ((with_reducible apply xs_guard_yes); (case hi => rfl); (case hr => rfl); (case hy => rfl); (case h1 => intro H' hS'; (try simp only [Cells, and_true] at hS'); simp only [go_sem, Int.cast_ofNat_Int, Nat.reduceEqDiff, Nat.reduceAdd, Nat.reduceMul, Nat.reduceLeDiff, Nat.reduceLT, Int.reduceLT, Int.reduceLE, Int.reduceEq, Int.reduceNeg, Int.reduceToNat, Nat.reducePow, reduceIte, reduceCtorEq, Agg.val, i10, hS']; rfl))
        | ((with_reducible refine xs_tail ?hz ?_); case hz => rfl)
        | ((with_reducible refine xs_keep ?hz ?_); case hz => first | assumption | (simp only [go_sem, Int.cast_ofNat_Int, Nat.reduceEqDiff, Nat.reduceAdd, Nat.reduceMul, Nat.reduceLeDiff, Nat.reduceLT, Int.reduceLT, Int.reduceLE, Int.reduceEq, Int.reduceNeg, Int.reduceToNat, Nat.reducePow, reduceIte, reduceCtorEq, Cells, and_true, Agg.val, i10]))
        | ((with_reducible apply xs_guard_no); (case hi => rfl); (case hy => rfl); (case hS => assumption))
        | ((first | ((with_reducible apply xs_op); (case hi => rfl)) | ((with_reducible apply xs_op_yes); (case hi => rfl); (case hy => rfl))); (case hr => rfl); intro K hK; simp only [go_sem, Int.cast_ofNat_Int, Nat.reduceEqDiff, Nat.reduceAdd, Nat.reduceMul, Nat.reduceLeDiff, Nat.reduceLT, Int.reduceLT, Int.reduceLE, Int.reduceEq, Int.reduceNeg, Int.reduceToNat, Nat.reducePow, reduceIte, reduceCtorEq, Agg.val, i10])
        | (with_reducible first | refine seq_normal ?_ | (refine hK _ _ ?_; clear hK K) | refine x_seq (fun K hK => ?_) | refine x_nil ?_ | refine x_block ?_ | refine x_skip ?_ | refine x_exit ?_ | refine x_ret ?_ | refine x_label ?_ | refine x_scope ?_ | (refine seq_ret ?_; clear hK K) | (refine seq_exit ?_; clear hK K) | refine block_normal ?_ | refine block_ret ?_ | refine block_exit ?_ | refine loop_exit ?_ | refine loop_ret ?_)
        | ((with_reducible refine x_reg_lit ?hq ?_); case hq => rfl)
        | ((first | (with_reducible first | refine x_op (fun K hK => ?_) | refine end_ret ?_ | refine end_normal ?_) | ((with_reducible refine x_guard_yes ?hy (fun K hK => ?_)); case hy => rfl)); simp only [go_sem, Int.cast_ofNat_Int, Nat.reduceEqDiff, Nat.reduceAdd, Nat.reduceMul, Nat.reduceLeDiff, Nat.reduceLT, Int.reduceLT, Int.reduceLE, Int.reduceEq, Int.reduceNeg, Int.reduceToNat, Nat.reducePow, reduceIte, reduceCtorEq, Agg.val, i10])
        | ((with_reducible first | refine x_guard_no ?hy ?_ | refine x_cond_true ?hy ?_); case hy => rfl)
        | ((with_reducible first | refine x_guard_none ?hy ?_ | refine x_cond_false ?hy ?_); case hy => rfl)
        | ((with_reducible refine block_exit_ne ?hy ?_); case hy => decide))
      with_reducible apply xs_guard_yes (v := Value.bool false)
      case hi => rfl
      case hr => rfl
      case hy => rfl
      case h1 =>
        intro H' hS'
        simp only [go_sem, Int.cast_ofNat_Int, Nat.reduceEqDiff, Nat.reduceAdd, Nat.reduceMul, Nat.reduceLeDiff, Nat.reduceLT, Int.reduceLT, Int.reduceLE, Int.reduceEq, Int.reduceNeg, Int.reduceToNat, Nat.reducePow, reduceIte, reduceCtorEq]
        refine agg_eq (op := .neq) (a := Wg) (b := Wg) ?_
        simp
      repeat' (first
        | (with_reducible refine xs_nil ?_)
        | ((with_reducible apply xs_rd); (case hi => rfl); (case hr => rfl); (case h1 => intro H' hS'; (try simp only [Cells, and_true] at hS'); simp only [go_sem, Int.cast_ofNat_Int, Nat.reduceEqDiff, Nat.reduceAdd, Nat.reduceMul, Nat.reduceLeDiff, Nat.reduceLT, Int.reduceLT, Int.reduceLE, Int.reduceEq, Int.reduceNeg, Int.reduceToNat, Nat.reducePow, reduceIte, reduceCtorEq, i8, i9, i12, ew, hS']; rfl))
        | ((with_reducible apply xs_guard_yes); (case hi => rfl); (case hr => rfl); (case hy => rfl); (case h1 => intro H' hS'; (try simp only [Cells, and_true] at hS'); simp only [go_sem, Int.cast_ofNat_Int, Nat.reduceEqDiff, Nat.reduceAdd, Nat.reduceMul, Nat.reduceLeDiff, Nat.reduceLT, Int.reduceLT, Int.reduceLE, Int.reduceEq, Int.reduceNeg, Int.reduceToNat, Nat.reducePow, reduceIte, reduceCtorEq, i8, i9, i12, ew, hS']; rfl))
        | ((with_reducible refine xs_tail ?hz ?_); case hz => rfl)
        | ((with_reducible refine xs_keep ?hz ?_); case hz => first | assumption | (simp only [go_sem, Int.cast_ofNat_Int, Nat.reduceEqDiff, Nat.reduceAdd, Nat.reduceMul, Nat.reduceLeDiff, Nat.reduceLT, Int.reduceLT, Int.reduceLE, Int.reduceEq, Int.reduceNeg, Int.reduceToNat, Nat.reducePow, reduceIte, reduceCtorEq, Cells, and_true, i8, i9, i12, ew]))
        | ((with_reducible apply xs_guard_no); (case hi => rfl); (case hy => rfl); (case hS => assumption))
        | ((first | ((with_reducible apply xs_op); (case hi => rfl)) | ((with_reducible apply xs_op_yes); (case hi => rfl); (case hy => rfl))); (case hr => rfl); intro K hK; simp only [go_sem, Int.cast_ofNat_Int, Nat.reduceEqDiff, Nat.reduceAdd, Nat.reduceMul, Nat.reduceLeDiff, Nat.reduceLT, Int.reduceLT, Int.reduceLE, Int.reduceEq, Int.reduceNeg, Int.reduceToNat, Nat.reducePow, reduceIte, reduceCtorEq, i8, i9, i12, ew])
        | (with_reducible first | refine seq_normal ?_ | (refine hK _ _ ?_; clear hK K) | refine x_seq (fun K hK => ?_) | refine x_nil ?_ | refine x_block ?_ | refine x_skip ?_ | refine x_exit ?_ | refine x_ret ?_ | refine x_label ?_ | refine x_scope ?_ | (refine seq_ret ?_; clear hK K) | (refine seq_exit ?_; clear hK K) | refine block_normal ?_ | refine block_ret ?_ | refine block_exit ?_ | refine loop_exit ?_ | refine loop_ret ?_)
        | ((with_reducible refine x_reg_lit ?hq ?_); case hq => rfl)
        | ((first | (with_reducible first | refine x_op (fun K hK => ?_) | refine end_ret ?_ | refine end_normal ?_) | ((with_reducible refine x_guard_yes ?hy (fun K hK => ?_)); case hy => rfl)); simp only [go_sem, Int.cast_ofNat_Int, Nat.reduceEqDiff, Nat.reduceAdd, Nat.reduceMul, Nat.reduceLeDiff, Nat.reduceLT, Int.reduceLT, Int.reduceLE, Int.reduceEq, Int.reduceNeg, Int.reduceToNat, Nat.reducePow, reduceIte, reduceCtorEq, i8, i9, i12, ew])
        | ((with_reducible first | refine x_guard_no ?hy ?_ | refine x_cond_true ?hy ?_); case hy => rfl)
        | ((with_reducible first | refine x_guard_none ?hy ?_ | refine x_cond_false ?hy ?_); case hy => rfl)
        | ((with_reducible refine block_exit_ne ?hy ?_); case hy => decide))
      have hM10 := hM9.grow hf10
      have hW10 := hW9.frame hf10 fun h => h
      rw [hWg] at hW10
      refine loop_normal (m' := 40 - (i + 1)) (by omega) ⟨i + 1, _, rfl, hM10, ?_, hit1, hW10, by omega, by omega, rfl⟩
      rw [← hsp]
  · have hor : ¬ i < len ∨ (i < len ∧ ¬ i < 40) := by
      by_cases h : i < len
      · exact .inr ⟨h, fun h2 => hgo ⟨h, h2⟩⟩
      · exact .inl h
    rcases hor with h | ⟨h, h2⟩
    case' inl =>
      have t1 : (i < len) = False := by simp [h]
      repeat' (first
        | (with_reducible first | refine seq_normal ?_ | (refine hK _ _ ?_; clear hK K) | refine x_seq (fun K hK => ?_) | refine x_nil ?_ | refine x_block ?_ | refine x_skip ?_ | refine x_exit ?_ | refine x_ret ?_ | refine x_label ?_ | refine x_scope ?_ | (refine seq_ret ?_; clear hK K) | (refine seq_exit ?_; clear hK K) | refine block_normal ?_ | refine block_ret ?_ | refine block_exit ?_ | refine loop_exit ?_ | refine loop_ret ?_)
        | ((with_reducible refine x_reg_lit ?hq ?_); case hq => rfl)
        | ((first | (with_reducible first | refine x_op (fun K hK => ?_) | refine end_ret ?_ | refine end_normal ?_) | ((with_reducible refine x_guard_yes ?hy (fun K hK => ?_)); case hy => rfl)); simp only [go_sem, Int.cast_ofNat_Int, Nat.reduceEqDiff, Nat.reduceAdd, Nat.reduceMul, Nat.reduceLeDiff, Nat.reduceLT, Int.reduceLT, Int.reduceLE, Int.reduceEq, Int.reduceNeg, Int.reduceToNat, Nat.reducePow, reduceIte, reduceCtorEq, i2, i12, t1])
        | ((with_reducible first | refine x_guard_no ?hy ?_ | refine x_cond_true ?hy ?_); case hy => rfl)
        | ((with_reducible first | refine x_guard_none ?hy ?_ | refine x_cond_false ?hy ?_); case hy => rfl)
        | ((with_reducible refine block_exit_ne ?hy ?_); case hy => decide))
    case' inr =>
      have t1 : (i < len) = True := by simp [h]
      have t2 : ((i : Int) < 40) = False := by simp; omega
      repeat' (first
        | (with_reducible first | refine seq_normal ?_ | (refine hK _ _ ?_; clear hK K) | refine x_seq (fun K hK => ?_) | refine x_nil ?_ | refine x_block ?_ | refine x_skip ?_ | refine x_exit ?_ | refine x_ret ?_ | refine x_label ?_ | refine x_scope ?_ | (refine seq_ret ?_; clear hK K) | (refine seq_exit ?_; clear hK K) | refine block_normal ?_ | refine block_ret ?_ | refine block_exit ?_ | refine loop_exit ?_ | refine loop_ret ?_)
        | ((with_reducible refine x_reg_lit ?hq ?_); case hq => rfl)
        | ((first | (with_reducible first | refine x_op (fun K hK => ?_) | refine end_ret ?_ | refine end_normal ?_) | ((with_reducible refine x_guard_yes ?hy (fun K hK => ?_)); case hy => rfl)); simp only [go_sem, Int.cast_ofNat_Int, Nat.reduceEqDiff, Nat.reduceAdd, Nat.reduceMul, Nat.reduceLeDiff, Nat.reduceLT, Int.reduceLT, Int.reduceLE, Int.reduceEq, Int.reduceNeg, Int.reduceToNat, Nat.reducePow, reduceIte, reduceCtorEq, i2, i12, t1, t2])
        | ((with_reducible first | refine x_guard_no ?hy ?_ | refine x_cond_true ?hy ?_); case hy => rfl)
        | ((with_reducible first | refine x_guard_none ?hy ?_ | refine x_cond_false ?hy ?_); case hy => rfl)
        | ((with_reducible refine block_exit_ne ?hy ?_); case hy => decide))
    all_goals exact hQ _ _ _ i8 i9 i11 hM1 hr1
theorem splayPrefix {H : Heap} {a0 a1 a2 : Option Addr} {n0 c0 n1 c1 n2 c2 : Nat} {z0 : Nat → Sp.Item} {z1 z2 : Nat → Int} {K : Value → Heap → Prop} (h0 : InItems H a0 n0 z0) (l0 : n0 ≤ 9223372036854775807) (h1 : InInts H a1 n1 z1) (l1 : n1 ≤ 9223372036854775807)
    (h2 : InInts H a2 n2 z2) (l2 : n2 ≤ 9223372036854775807) (fin : ∀ H', Fr (fun _ => False) H H' → K (.bool true) H') :
    CallsH Try.prog 5 #[.slice a0 n0 c0, .slice a1 n1 c1, .slice a2 n2 c2] H K := by
  refine call5 (by simp) ?_
  simp only [Try.f5, Option.getD_some]
  repeat' (first
    | (with_reducible first | refine seq_normal ?_ | (refine hK _ _ ?_; clear hK K) | refine x_seq (fun K hK => ?_) | refine x_nil ?_ | refine x_block ?_ | refine x_skip ?_ | refine x_exit ?_ | refine x_ret ?_ | refine x_label ?_ | refine x_scope ?_ | (refine seq_ret ?_; clear hK K) | (refine seq_exit ?_; clear hK K) | refine block_normal ?_ | refine block_ret ?_ | refine block_exit ?_ | refine loop_exit ?_ | refine loop_ret ?_)
    | ((with_reducible refine x_reg_lit ?hq ?_); case hq => rfl)
    | ((first | (with_reducible first | refine x_op (fun K hK => ?_) | refine end_ret ?_ | refine end_normal ?_) | ((with_reducible refine x_guard_yes ?hy (fun K hK => ?_)); case hy => rfl)); simp only [go_sem, Int.cast_ofNat_Int, Nat.reduceEqDiff, Nat.reduceAdd, Nat.reduceMul, Nat.reduceLeDiff, Nat.reduceLT, Int.reduceLT, Int.reduceLE, Int.reduceEq, Int.reduceNeg, Int.reduceToNat, Nat.reducePow, reduceIte, reduceCtorEq])
    | ((with_reducible first | refine x_guard_no ?hy ?_ | refine x_cond_true ?hy ?_); case hy => rfl)
    | ((with_reducible first | refine x_guard_none ?hy ?_ | refine x_cond_false ?hy ?_); case hy => rfl)
    | ((with_reducible refine block_exit_ne ?hy ?_); case hy => decide))
  refine awake_ok ?_
  intro H1 hf1
  repeat' (first
    | (with_reducible first | refine seq_normal ?_ | (refine hK _ _ ?_; clear hK K) | refine x_seq (fun K hK => ?_) | refine x_nil ?_ | refine x_block ?_ | refine x_skip ?_ | refine x_exit ?_ | refine x_ret ?_ | refine x_label ?_ | refine x_scope ?_ | (refine seq_ret ?_; clear hK K) | (refine seq_exit ?_; clear hK K) | refine block_normal ?_ | refine block_ret ?_ | refine block_exit ?_ | refine loop_exit ?_ | refine loop_ret ?_)
    | ((with_reducible refine x_reg_lit ?hq ?_); case hq => rfl)
    | ((first | (with_reducible first | refine x_op (fun K hK => ?_) | refine end_ret ?_ | refine end_normal ?_) | ((with_reducible refine x_guard_yes ?hy (fun K hK => ?_)); case hy => rfl)); simp only [go_sem, Int.cast_ofNat_Int, Nat.reduceEqDiff, Nat.reduceAdd, Nat.reduceMul, Nat.reduceLeDiff, Nat.reduceLT, Int.reduceLT, Int.reduceLE, Int.reduceEq, Int.reduceNeg, Int.reduceToNat, Nat.reducePow, reduceIte, reduceCtorEq])
    | ((with_reducible first | refine x_guard_no ?hy ?_ | refine x_cond_true ?hy ?_); case hy => rfl)
    | ((with_reducible first | refine x_guard_none ?hy ?_ | refine x_cond_false ?hy ?_); case hy => rfl)
    | ((with_reducible refine block_exit_ne ?hy ?_); case hy => decide))
  refine items_ok (most := 100) (h0.frame hf1) l0 (by omega) (by omega) ?_
  intro H2 B2 v2 xs hi2 hB2 hx1 hx2 hm hf2
  have hf02 := hf1.trans hf2
  repeat' (first
    | (with_reducible first | refine seq_normal ?_ | (refine hK _ _ ?_; clear hK K) | refine x_seq (fun K hK => ?_) | refine x_nil ?_ | refine x_block ?_ | refine x_skip ?_ | refine x_exit ?_ | refine x_ret ?_ | refine x_label ?_ | refine x_scope ?_ | (refine seq_ret ?_; clear hK K) | (refine seq_exit ?_; clear hK K) | refine block_normal ?_ | refine block_ret ?_ | refine block_exit ?_ | refine loop_exit ?_ | refine loop_ret ?_)
    | ((with_reducible refine x_reg_lit ?hq ?_); case hq => rfl)
    | ((first | (with_reducible first | refine x_op (fun K hK => ?_) | refine end_ret ?_ | refine end_normal ?_) | ((with_reducible refine x_guard_yes ?hy (fun K hK => ?_)); case hy => rfl)); simp only [go_sem, Int.cast_ofNat_Int, Nat.reduceEqDiff, Nat.reduceAdd, Nat.reduceMul, Nat.reduceLeDiff, Nat.reduceLT, Int.reduceLT, Int.reduceLE, Int.reduceEq, Int.reduceNeg, Int.reduceToNat, Nat.reducePow, reduceIte, reduceCtorEq])
    | ((with_reducible first | refine x_guard_no ?hy ?_ | refine x_cond_true ?hy ?_); case hy => rfl)
    | ((with_reducible first | refine x_guard_none ?hy ?_ | refine x_cond_false ?hy ?_); case hy => rfl)
    | ((with_reducible refine block_exit_ne ?hy ?_); case hy => decide))
  refine row_ok (h1.frame hf02) l1 hi2 hm (by omega) hx1 ?_
  intro H3 f T S B v all hM hr hall hfree htop hroom hperm
  have hM := hM.base hf02
  have hne : all ≠ [] := fun h => by rw [h] at hall; simp at hall; omega
  obtain ⟨g, c, rfl, rfl, hc⟩ := hM.open hne
  obtain ⟨w, hw⟩ : ∃ w, all[0]? = some w := ⟨_, List.getElem?_eq_getElem (by omega)⟩
  have cw := hM.cell hw
  have t5 : (0 < all.length) = True := by simp; omega
  have t6 : ((0 : Int) < (all.length : Int)) = True := by simp; omega
  repeat' (first
    | (with_reducible first | refine seq_normal ?_ | (refine hK _ _ ?_; clear hK K) | refine x_seq (fun K hK => ?_) | refine x_nil ?_ | refine x_block ?_ | refine x_skip ?_ | refine x_exit ?_ | refine x_ret ?_ | refine x_label ?_ | refine x_scope ?_ | (refine seq_ret ?_; clear hK K) | (refine seq_exit ?_; clear hK K) | refine block_normal ?_ | refine block_ret ?_ | refine block_exit ?_ | refine loop_exit ?_ | refine loop_ret ?_)
    | ((with_reducible refine x_reg_lit ?hq ?_); case hq => rfl)
    | ((first | (with_reducible first | refine x_op (fun K hK => ?_) | refine end_ret ?_ | refine end_normal ?_) | ((with_reducible refine x_guard_yes ?hy (fun K hK => ?_)); case hy => rfl)); simp only [go_sem, Int.cast_ofNat_Int, Nat.reduceEqDiff, Nat.reduceAdd, Nat.reduceMul, Nat.reduceLeDiff, Nat.reduceLT, Int.reduceLT, Int.reduceLE, Int.reduceEq, Int.reduceNeg, Int.reduceToNat, Nat.reducePow, reduceIte, reduceCtorEq, t5, t6, cw])
    | ((with_reducible first | refine x_guard_no ?hy ?_ | refine x_cond_true ?hy ?_); case hy => rfl)
    | ((with_reducible first | refine x_guard_none ?hy ?_ | refine x_cond_false ?hy ?_); case hy => rfl)
    | ((with_reducible refine block_exit_ne ?hy ?_); case hy => decide))
  refine m_sum (xs := all) hM.fo (by rw [hr]; exact .head _) (List.mem_of_getElem? hw) ?_
  intro H4 hF4 hf4
  have hM4 := hM.op hF4 hf4
  repeat' (first
    | (with_reducible first | refine seq_normal ?_ | (refine hK _ _ ?_; clear hK K) | refine x_seq (fun K hK => ?_) | refine x_nil ?_ | refine x_block ?_ | refine x_skip ?_ | refine x_exit ?_ | refine x_ret ?_ | refine x_label ?_ | refine x_scope ?_ | (refine seq_ret ?_; clear hK K) | (refine seq_exit ?_; clear hK K) | refine block_normal ?_ | refine block_ret ?_ | refine block_exit ?_ | refine loop_exit ?_ | refine loop_ret ?_)
    | ((with_reducible refine x_reg_lit ?hq ?_); case hq => rfl)
    | ((first | (with_reducible first | refine x_op (fun K hK => ?_) | refine end_ret ?_ | refine end_normal ?_) | ((with_reducible refine x_guard_yes ?hy (fun K hK => ?_)); case hy => rfl)); simp only [go_sem, Int.cast_ofNat_Int, Nat.reduceEqDiff, Nat.reduceAdd, Nat.reduceMul, Nat.reduceLeDiff, Nat.reduceLT, Int.reduceLT, Int.reduceLE, Int.reduceEq, Int.reduceNeg, Int.reduceToNat, Nat.reducePow, reduceIte, reduceCtorEq, Agg.val, hcell_push, hcell_top, okW_push, okW_top, hcell_hset_ne, hcell_hset_off, hcell_hset_eq, okW_hset, hset_size, Array.size_push, Nat.lt_add_one, ne_add_one, add_one_ne, Nat.add_assoc, add_same, add_lt_same, Nat.reduceEqDiff, lt_add_k, add_k_ne, ne_add_k])
    | ((with_reducible first | refine x_guard_no ?hy ?_ | refine x_cond_true ?hy ?_); case hy => rfl)
    | ((with_reducible first | refine x_guard_none ?hy ?_ | refine x_cond_false ?hy ?_); case hy => rfl)
    | ((with_reducible refine block_exit_ne ?hy ?_); case hy => decide))
  generalize hH5 : hset _ _ _ = H5
  have hb5 : Blk H5 H4.size (aggCells (aggOf S.it all)) := by rw [← hH5]; exact (agg_new H4 _ _).1
  have hf5 : Fr (fun _ => False) H4 H5 := by rw [← hH5]; exact (by ((repeat (first | refine Fr.set ?_ (by simp) _ | refine Fr.push ?_ _)); exact Fr.refl _ _))
  clear hH5
  have hM5 := hM4.grow hf5
  have hs4 := hM4.fr.size
  refine prefLoop h2 l2 hM5 hr hne hb5 ⟨hs4, fun h => by have := hF4.lt h; omega, fun h => by have := hM4.ir.lt h; omega⟩ rfl rfl rfl rfl rfl ?_
  intro e6 H6 S6 j8 j9 j11 hM6 hr6
  have j11' : e6 11 = .int .i64 0 := j11
  repeat' (first
    | (with_reducible first | refine seq_normal ?_ | (refine hK _ _ ?_; clear hK K) | refine x_seq (fun K hK => ?_) | refine x_nil ?_ | refine x_block ?_ | refine x_skip ?_ | refine x_exit ?_ | refine x_ret ?_ | refine x_label ?_ | refine x_scope ?_ | (refine seq_ret ?_; clear hK K) | (refine seq_exit ?_; clear hK K) | refine block_normal ?_ | refine block_ret ?_ | refine block_exit ?_ | refine loop_exit ?_ | refine loop_ret ?_)
    | ((with_reducible refine x_reg_lit ?hq ?_); case hq => rfl)
    | ((first | (with_reducible first | refine x_op (fun K hK => ?_) | refine end_ret ?_ | refine end_normal ?_) | ((with_reducible refine x_guard_yes ?hy (fun K hK => ?_)); case hy => rfl)); simp only [go_sem, Int.cast_ofNat_Int, Nat.reduceEqDiff, Nat.reduceAdd, Nat.reduceMul, Nat.reduceLeDiff, Nat.reduceLT, Int.reduceLT, Int.reduceLE, Int.reduceEq, Int.reduceNeg, Int.reduceToNat, Nat.reducePow, reduceIte, reduceCtorEq, j8, j9, j11'])
    | ((with_reducible first | refine x_guard_no ?hy ?_ | refine x_cond_true ?hy ?_); case hy => rfl)
    | ((with_reducible first | refine x_guard_none ?hy ?_ | refine x_cond_false ?hy ?_); case hy => rfl)
    | ((with_reducible refine block_exit_ne ?hy ?_); case hy => decide))
  refine stands_ok hM6 hr6 hne ?_
  intro H7 hM7
  repeat' (first
    | (with_reducible first | refine seq_normal ?_ | (refine hK _ _ ?_; clear hK K) | refine x_seq (fun K hK => ?_) | refine x_nil ?_ | refine x_block ?_ | refine x_skip ?_ | refine x_exit ?_ | refine x_ret ?_ | refine x_label ?_ | refine x_scope ?_ | (refine seq_ret ?_; clear hK K) | (refine seq_exit ?_; clear hK K) | refine block_normal ?_ | refine block_ret ?_ | refine block_exit ?_ | refine loop_exit ?_ | refine loop_ret ?_)
    | ((with_reducible refine x_reg_lit ?hq ?_); case hq => rfl)
    | ((first | (with_reducible first | refine x_op (fun K hK => ?_) | refine end_ret ?_ | refine end_normal ?_) | ((with_reducible refine x_guard_yes ?hy (fun K hK => ?_)); case hy => rfl)); simp only [go_sem, Int.cast_ofNat_Int, Nat.reduceEqDiff, Nat.reduceAdd, Nat.reduceMul, Nat.reduceLeDiff, Nat.reduceLT, Int.reduceLT, Int.reduceLE, Int.reduceEq, Int.reduceNeg, Int.reduceToNat, Nat.reducePow, reduceIte, reduceCtorEq, j8, j9, j11'])
    | ((with_reducible first | refine x_guard_no ?hy ?_ | refine x_cond_true ?hy ?_); case hy => rfl)
    | ((with_reducible first | refine x_guard_none ?hy ?_ | refine x_cond_false ?hy ?_); case hy => rfl)
    | ((with_reducible refine block_exit_ne ?hy ?_); case hy => decide))
  exact fin _ hM7.fr
end Go.Proofs.Ytndkbhlfbeiniaa
