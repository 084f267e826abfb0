/-
  All, Of: contracts.
-/
import Derived.Test.YtdhepjcdlkahnaaDoorVsA
import Derived.Test.YtdhepjcdlkahnaaDoorPkisthmuslaw09
namespace Go.Proofs.YtdhepjcdlkahnaaDoor
open Go Go.Hp Go.Vs
set_option linter.all false
set_option maxRecDepth 100000

def elsI (x : B64) : List Int := (els x.toNat).map (fun n : Nat => (n : Int))
theorem elsF_len (x n : Nat) : (elsF x n).length ≤ 64 := by
  unfold elsF
  exact Nat.le_trans (List.length_filter_le _ _) (by simp)
theorem nextQ_at (x n : Nat) : nextQ x (n : Int) = match elsF x n with | [] => -1 | k :: _ => (k : Int) := by unfold nextQ; rw [Int.toNat_natCast]; cases elsF x n <;> rfl
theorem all_ok {H : Heap} {x : B64} {K : Value → Heap → Prop} (hT : TabH H) (hk : ∀ H' B v, IR H' (some B) v (elsI x) → H.size ≤ B → Fr (fun _ => False) H H' → K v H') :
    CallsH Tryd.prog 11 #[sv x] H K := by
  have hx : x.toNat < 18446744073709551616 := x.isLt
  have e0 : sv x = .agg #[.int .u64 (x.toNat : Int)] := rfl
  rw [e0]
  refine call11 (by simp) ?_
  simp only [Tryd.f11, Option.getD_some]
  repeat' (first
    | (with_reducible first | refine seq_normal ?_ | (refine hK _ _ ?_; clear hK K) | refine x_seq (fun K hK => ?_) | refine x_nil ?_ | refine x_block ?_ | refine x_skip ?_ | refine x_exit ?_ | refine x_ret ?_ | refine x_label ?_ | refine x_scope ?_ | (refine seq_ret ?_; clear hK K) | (refine seq_exit ?_; clear hK K) | refine block_normal ?_ | refine block_ret ?_ | refine block_exit ?_ | refine loop_exit ?_ | refine loop_ret ?_)
    | ((with_reducible refine x_reg_lit ?hq ?_); case hq => rfl)
    | ((first | (with_reducible first | refine x_op (fun K hK => ?_) | refine end_ret ?_ | refine end_normal ?_) | ((with_reducible refine x_guard_yes ?hy (fun K hK => ?_)); case hy => rfl)); simp only [go_sem, Int.cast_ofNat_Int, Nat.reduceEqDiff, Nat.reduceAdd, Nat.reduceMul, Nat.reduceLeDiff, Nat.reduceLT, Int.reduceLT, Int.reduceLE, Int.reduceEq, Int.reduceNeg, Int.reduceToNat, Nat.reducePow, reduceIte, reduceCtorEq, hcell_push, hcell_top, okW_push, okW_top, hcell_hset_ne, hcell_hset_off, hcell_hset_eq, okW_hset, hset_size, Array.size_push, Nat.lt_add_one, ne_add_one, add_one_ne, Nat.add_assoc, add_same, add_lt_same, Nat.reduceEqDiff, lt_add_k, add_k_ne, ne_add_k])
    | ((with_reducible first | refine x_guard_no ?hy ?_ | refine x_cond_true ?hy ?_); case hy => rfl)
    | ((with_reducible first | refine x_guard_none ?hy ?_ | refine x_cond_false ?hy ?_); case hy => rfl)
    | ((with_reducible refine block_exit_ne ?hy ?_); case hy => decide))
  rw [← e0]
  refine len_ok fun H1 f1 => ?_
  have c1 : Blk H1 H.size [.int .u64 (x.toNat : Int)] := (Blk.new H [.int .u64 (x.toNat : Int)] _).frame f1 (fun h => h)
  have f1' : Fr (fun _ => False) H H1 := ((Fr.refl _ H).push _).trans f1
  have hl := elsF_len x.toNat 0
  have hl2 : (els x.toNat).length ≤ 64 := hl
  have t1 : ((els x.toNat).length * 8 ≤ 281474976710656) = True := by simp; omega
  have hbg : H.size < H1.size := c1.lt
  repeat' (first
    | (with_reducible first | refine seq_normal ?_ | (refine hK _ _ ?_; clear hK K) | refine x_seq (fun K hK => ?_) | refine x_nil ?_ | refine x_block ?_ | refine x_skip ?_ | refine x_exit ?_ | refine x_ret ?_ | refine x_label ?_ | refine x_scope ?_ | (refine seq_ret ?_; clear hK K) | (refine seq_exit ?_; clear hK K) | refine block_normal ?_ | refine block_ret ?_ | refine block_exit ?_ | refine loop_exit ?_ | refine loop_ret ?_)
    | ((with_reducible refine x_reg_lit ?hq ?_); case hq => rfl)
    | ((first | (with_reducible first | refine x_op (fun K hK => ?_) | refine end_ret ?_ | refine end_normal ?_) | ((with_reducible refine x_guard_yes ?hy (fun K hK => ?_)); case hy => rfl)); simp only [go_sem, Int.cast_ofNat_Int, Nat.reduceEqDiff, Nat.reduceAdd, Nat.reduceMul, Nat.reduceLeDiff, Nat.reduceLT, Int.reduceLT, Int.reduceLE, Int.reduceEq, Int.reduceNeg, Int.reduceToNat, Nat.reducePow, reduceIte, reduceCtorEq, t1, Nat.le_refl, Int.le_refl])
    | ((with_reducible first | refine x_guard_no ?hy ?_ | refine x_cond_true ?hy ?_); case hy => rfl)
    | ((with_reducible first | refine x_guard_none ?hy ?_ | refine x_cond_false ?hy ?_); case hy => rfl)
    | ((with_reducible refine block_exit_ne ?hy ?_); case hy => decide))
  have c2 := c1.push (.cells (repL (els x.toNat).length [Value.int .i64 0]).toArray 3)
  have g2 : IR (H1.push (.cells (repL (els x.toNat).length [Value.int .i64 0]).toArray 3)) (some H1.size) (.slice (some ⟨H1.size, 0, none⟩) 0 (els x.toNat).length) [] := by
    refine ⟨rfl, .inr ⟨H1.size, (els x.toNat).length, repL (els x.toNat).length [Value.int .i64 0], rfl, rfl, ?_, by simp [repL_length], Nat.zero_le _⟩⟩
    exact Blk.new H1 _ _
  have f2 : Fr (fun _ => False) H (H1.push (.cells (repL (els x.toNat).length [Value.int .i64 0]).toArray 3)) := f1'.push _
  generalize H1.push (.cells (repL (els x.toNat).length [Value.int .i64 0]).toArray 3) = H2 at *
  have cb2 := c2.cellOf (i := 0) rfl
  simp only [go_sem, Int.cast_ofNat_Int, Nat.reduceEqDiff, Nat.reduceAdd, Nat.reduceMul, Nat.reduceLeDiff, Nat.reduceLT, Int.reduceLT, Int.reduceLE, Int.reduceEq, Int.reduceNeg, Int.reduceToNat, Nat.reducePow, reduceIte, reduceCtorEq, cb2]
  repeat' (first
    | (with_reducible first | refine seq_normal ?_ | (refine hK _ _ ?_; clear hK K) | refine x_seq (fun K hK => ?_) | refine x_nil ?_ | refine x_block ?_ | refine x_skip ?_ | refine x_exit ?_ | refine x_ret ?_ | refine x_label ?_ | refine x_scope ?_ | (refine seq_ret ?_; clear hK K) | (refine seq_exit ?_; clear hK K) | refine block_normal ?_ | refine block_ret ?_ | refine block_exit ?_ | refine loop_exit ?_ | refine loop_ret ?_)
    | ((with_reducible refine x_reg_lit ?hq ?_); case hq => rfl)
    | ((first | (with_reducible first | refine x_op (fun K hK => ?_) | refine end_ret ?_ | refine end_normal ?_) | ((with_reducible refine x_guard_yes ?hy (fun K hK => ?_)); case hy => rfl)); simp only [go_sem, Int.cast_ofNat_Int, Nat.reduceEqDiff, Nat.reduceAdd, Nat.reduceMul, Nat.reduceLeDiff, Nat.reduceLT, Int.reduceLT, Int.reduceLE, Int.reduceEq, Int.reduceNeg, Int.reduceToNat, Nat.reducePow, reduceIte, reduceCtorEq])
    | ((with_reducible first | refine x_guard_no ?hy ?_ | refine x_cond_true ?hy ?_); case hy => rfl)
    | ((with_reducible first | refine x_guard_none ?hy ?_ | refine x_cond_false ?hy ?_); case hy => rfl)
    | ((with_reducible refine block_exit_ne ?hy ?_); case hy => decide))
  rw [← e0]
  refine next_ok (hT.frame f2) fun H3 f3 => ?_
  repeat' (first
    | (with_reducible first | refine seq_normal ?_ | (refine hK _ _ ?_; clear hK K) | refine x_seq (fun K hK => ?_) | refine x_nil ?_ | refine x_block ?_ | refine x_skip ?_ | refine x_exit ?_ | refine x_ret ?_ | refine x_label ?_ | refine x_scope ?_ | (refine seq_ret ?_; clear hK K) | (refine seq_exit ?_; clear hK K) | refine block_normal ?_ | refine block_ret ?_ | refine block_exit ?_ | refine loop_exit ?_ | refine loop_ret ?_)
    | ((with_reducible refine x_reg_lit ?hq ?_); case hq => rfl)
    | ((first | (with_reducible first | refine x_op (fun K hK => ?_) | refine end_ret ?_ | refine end_normal ?_) | ((with_reducible refine x_guard_yes ?hy (fun K hK => ?_)); case hy => rfl)); simp only [go_sem, Int.cast_ofNat_Int, Nat.reduceEqDiff, Nat.reduceAdd, Nat.reduceMul, Nat.reduceLeDiff, Nat.reduceLT, Int.reduceLT, Int.reduceLE, Int.reduceEq, Int.reduceNeg, Int.reduceToNat, Nat.reducePow, reduceIte, reduceCtorEq])
    | ((with_reducible first | refine x_guard_no ?hy ?_ | refine x_cond_true ?hy ?_); case hy => rfl)
    | ((with_reducible first | refine x_guard_none ?hy ?_ | refine x_cond_false ?hy ?_); case hy => rfl)
    | ((with_reducible refine block_exit_ne ?hy ?_); case hy => decide))
  have g3 := g2.frame f3 (fun _ _ h => h)
  have c3 := c2.frame f3 (fun h => h)
  have f3' := f2.trans f3
  have hg : H.size ≤ H1.size ∧ H1.size ≠ H.size := by omega
  generalize hv : Value.slice (some ⟨H1.size, 0, none⟩) 0 (els x.toNat).length = v at *
  generalize H1.size = g at *
  refine x_loop (fun m e' H' => ∃ (i : Nat) (pre : List Nat) (g : Nat) (v : Value), e' 3 = v ∧ e' 4 = .int .i64 (nextQ x.toNat (i : Int)) ∧ IR H' (some g) v (pre.map (fun n : Nat => (n : Int))) ∧ Blk H' H.size [.int .u64 (x.toNat : Int)] ∧ H.size ≤ g ∧ g ≠ H.size ∧
    Fr (fun _ => False) H H' ∧ pre ++ elsF x.toNat i = els x.toNat ∧ i ≤ 64 ∧ m = 64 - i) 64 ⟨0, [], g, v, rfl, rfl, g3, c3, hg.1, hg.2, f3', rfl, by omega, rfl⟩ ?_
  clear hv g2 g3 c2 c3 cb2 f2 f3 f3' f1' hg c1 f1 hbg
  rintro m e1 H4 ⟨i, pre, g, v, i3, i4, hr, hb, hg1, hg2, hf, hpre, hi, rfl⟩ hoff
  have i1 : e1 1 = .pointer (some ⟨H.size, 0, none⟩) := (hoff 1 rfl).trans rfl
  clear hoff
  rw [nextQ_at] at i4
  cases he : elsF x.toNat i with
  | nil =>
    rw [he] at i4 hpre
    rw [List.append_nil] at hpre
    repeat' (first
      | (with_reducible first | refine seq_normal ?_ | (refine hK _ _ ?_; clear hK K) | refine x_seq (fun K hK => ?_) | refine x_nil ?_ | refine x_block ?_ | refine x_skip ?_ | refine x_exit ?_ | refine x_ret ?_ | refine x_label ?_ | refine x_scope ?_ | (refine seq_ret ?_; clear hK K) | (refine seq_exit ?_; clear hK K) | refine block_normal ?_ | refine block_ret ?_ | refine block_exit ?_ | refine loop_exit ?_ | refine loop_ret ?_)
      | ((with_reducible refine x_reg_lit ?hq ?_); case hq => rfl)
      | ((first | (with_reducible first | refine x_op (fun K hK => ?_) | refine end_ret ?_ | refine end_normal ?_) | ((with_reducible refine x_guard_yes ?hy (fun K hK => ?_)); case hy => rfl)); simp only [go_sem, Int.cast_ofNat_Int, Nat.reduceEqDiff, Nat.reduceAdd, Nat.reduceMul, Nat.reduceLeDiff, Nat.reduceLT, Int.reduceLT, Int.reduceLE, Int.reduceEq, Int.reduceNeg, Int.reduceToNat, Nat.reducePow, reduceIte, reduceCtorEq, i4, i3])
      | ((with_reducible first | refine x_guard_no ?hy ?_ | refine x_cond_true ?hy ?_); case hy => rfl)
      | ((with_reducible first | refine x_guard_none ?hy ?_ | refine x_cond_false ?hy ?_); case hy => rfl)
      | ((with_reducible refine block_exit_ne ?hy ?_); case hy => decide))
    refine hk H4 g v ?_ hg1 hf
    unfold elsI; rw [← hpre]; exact hr
  | cons k l =>
    obtain ⟨q1, q2, q3⟩ := elsF_get hx he
    rw [he] at i4 hpre
    subst q3
    have t2 : (0 ≤ (k : Int)) = True := by simp
    have hlen : pre.length ≤ 64 := by
      have := congrArg List.length hpre
      rw [List.length_append] at this
      have h2 := hl2
      omega
    obtain ⟨a, c, hv⟩ := hr.slice
    rw [hv] at i3 hr
    repeat' (first
      | (with_reducible first | refine seq_normal ?_ | (refine hK _ _ ?_; clear hK K) | refine x_seq (fun K hK => ?_) | refine x_nil ?_ | refine x_block ?_ | refine x_skip ?_ | refine x_exit ?_ | refine x_ret ?_ | refine x_label ?_ | refine x_scope ?_ | (refine seq_ret ?_; clear hK K) | (refine seq_exit ?_; clear hK K) | refine block_normal ?_ | refine block_ret ?_ | refine block_exit ?_ | refine loop_exit ?_ | refine loop_ret ?_)
      | ((with_reducible refine x_reg_lit ?hq ?_); case hq => rfl)
      | ((first | (with_reducible first | refine x_op (fun K hK => ?_) | refine end_ret ?_ | refine end_normal ?_) | ((with_reducible refine x_guard_yes ?hy (fun K hK => ?_)); case hy => rfl)); simp only [go_sem, Int.cast_ofNat_Int, Nat.reduceEqDiff, Nat.reduceAdd, Nat.reduceMul, Nat.reduceLeDiff, Nat.reduceLT, Int.reduceLT, Int.reduceLE, Int.reduceEq, Int.reduceNeg, Int.reduceToNat, Nat.reducePow, reduceIte, reduceCtorEq, i4, i3, t2])
      | ((with_reducible first | refine x_guard_no ?hy ?_ | refine x_cond_true ?hy ?_); case hy => rfl)
      | ((with_reducible first | refine x_guard_none ?hy ?_ | refine x_cond_false ?hy ?_); case hy => rfl)
      | ((with_reducible refine block_exit_ne ?hy ?_); case hy => decide))
    refine append_ir elems22 tl3 hr rfl (by decide) (by simp; omega) rfl fun v' H5 B' hr' hf' hB => ?_
    have hb5 := hb.frame hf' (fun e => hg2 (Option.some.inj e))
    have cb5 := hb5.cellOf (i := 0) rfl
    have fr5 : Fr (fun _ => False) H H5 := hf.trans' hf' fun b hb' e => by
      obtain rfl := Option.some.inj e
      omega
    obtain ⟨B5, rfl, hB1, hB2⟩ : ∃ B5, B' = some B5 ∧ H.size ≤ B5 ∧ B5 ≠ H.size := by
      have := hf.size
      have hlt := hb.lt
      rcases hB with rfl | ⟨g', rfl, hg'⟩
      · exact ⟨g, rfl, hg1, hg2⟩
      · exact ⟨g', rfl, by omega, by omega⟩
    have ew : IntKind.i64.wrap ((k : Int) + 1) = ((k + 1 : Nat) : Int) := by rw [wrap_i64] <;> omega
    repeat' (first
      | (with_reducible first | refine seq_normal ?_ | (refine hK _ _ ?_; clear hK K) | refine x_seq (fun K hK => ?_) | refine x_nil ?_ | refine x_block ?_ | refine x_skip ?_ | refine x_exit ?_ | refine x_ret ?_ | refine x_label ?_ | refine x_scope ?_ | (refine seq_ret ?_; clear hK K) | (refine seq_exit ?_; clear hK K) | refine block_normal ?_ | refine block_ret ?_ | refine block_exit ?_ | refine loop_exit ?_ | refine loop_ret ?_)
      | ((with_reducible refine x_reg_lit ?hq ?_); case hq => rfl)
      | ((first | (with_reducible first | refine x_op (fun K hK => ?_) | refine end_ret ?_ | refine end_normal ?_) | ((with_reducible refine x_guard_yes ?hy (fun K hK => ?_)); case hy => rfl)); simp only [go_sem, Int.cast_ofNat_Int, Nat.reduceEqDiff, Nat.reduceAdd, Nat.reduceMul, Nat.reduceLeDiff, Nat.reduceLT, Int.reduceLT, Int.reduceLE, Int.reduceEq, Int.reduceNeg, Int.reduceToNat, Nat.reducePow, reduceIte, reduceCtorEq, i4, i3, i1, cb5, ew])
      | ((with_reducible first | refine x_guard_no ?hy ?_ | refine x_cond_true ?hy ?_); case hy => rfl)
      | ((with_reducible first | refine x_guard_none ?hy ?_ | refine x_cond_false ?hy ?_); case hy => rfl)
      | ((with_reducible refine block_exit_ne ?hy ?_); case hy => decide))
    refine next_ok (x := x) (hT.frame fr5) fun H6 f6 => ?_
    repeat' (first
      | (with_reducible first | refine seq_normal ?_ | (refine hK _ _ ?_; clear hK K) | refine x_seq (fun K hK => ?_) | refine x_nil ?_ | refine x_block ?_ | refine x_skip ?_ | refine x_exit ?_ | refine x_ret ?_ | refine x_label ?_ | refine x_scope ?_ | (refine seq_ret ?_; clear hK K) | (refine seq_exit ?_; clear hK K) | refine block_normal ?_ | refine block_ret ?_ | refine block_exit ?_ | refine loop_exit ?_ | refine loop_ret ?_)
      | ((with_reducible refine x_reg_lit ?hq ?_); case hq => rfl)
      | ((first | (with_reducible first | refine x_op (fun K hK => ?_) | refine end_ret ?_ | refine end_normal ?_) | ((with_reducible refine x_guard_yes ?hy (fun K hK => ?_)); case hy => rfl)); simp only [go_sem, Int.cast_ofNat_Int, Nat.reduceEqDiff, Nat.reduceAdd, Nat.reduceMul, Nat.reduceLeDiff, Nat.reduceLT, Int.reduceLT, Int.reduceLE, Int.reduceEq, Int.reduceNeg, Int.reduceToNat, Nat.reducePow, reduceIte, reduceCtorEq])
      | ((with_reducible first | refine x_guard_no ?hy ?_ | refine x_cond_true ?hy ?_); case hy => rfl)
      | ((with_reducible first | refine x_guard_none ?hy ?_ | refine x_cond_false ?hy ?_); case hy => rfl)
      | ((with_reducible refine block_exit_ne ?hy ?_); case hy => decide))
    refine loop_normal (m' := 64 - (k + 1)) (by omega) ⟨k + 1, pre ++ [k], B5, v', rfl, rfl, ?_, hb5.frame f6 (fun h => h), hB1, hB2, fr5.trans f6, ?_, by omega, rfl⟩
    · rw [List.map_append]; exact hr'.frame f6 (fun _ _ h => h)
    · rw [List.append_assoc]; exact hpre
/-! ### a set of numbers -/
def ofFrom (x : B64) : List Int → B64
  | [] => x
  | n :: l => ofFrom (x ||| bitN n) l
/-- What Of answers. -/
def ofQ (l : List Int) : B64 × Int := if l.all okN then (ofFrom 0#64 l, 0) else (0#64, 1)
theorem ofFrom_append (x : B64) (a b : List Int) : ofFrom x (a ++ b) = ofFrom (ofFrom x a) b := by
  induction a generalizing x with
  | nil => rfl
  | cons n a ih => exact ih _
theorem of_ok {H : Heap} {B : Option Nat} {v : Value} {xs : List Int} {K : Value → Heap → Prop} (hv : Rds H B v xs) (hl : xs.length ≤ 9223372036854775807) (hk : ∀ H', Fr (fun _ => False) H H' → K (.tuple #[sv (ofQ xs).1, .int .i64 (ofQ xs).2]) H') :
    CallsH Tryd.prog 13 #[v] H K := by
  obtain ⟨a, c, ev⟩ := hv.slice
  rw [ev]
  refine call13 (by simp) ?_
  simp only [Tryd.f13, Option.getD_some]
  repeat' (first
    | (with_reducible first | refine seq_normal ?_ | (refine hK _ _ ?_; clear hK K) | refine x_seq (fun K hK => ?_) | refine x_nil ?_ | refine x_block ?_ | refine x_skip ?_ | refine x_exit ?_ | refine x_ret ?_ | refine x_label ?_ | refine x_scope ?_ | (refine seq_ret ?_; clear hK K) | (refine seq_exit ?_; clear hK K) | refine block_normal ?_ | refine block_ret ?_ | refine block_exit ?_ | refine loop_exit ?_ | refine loop_ret ?_)
    | ((with_reducible refine x_reg_lit ?hq ?_); case hq => rfl)
    | ((first | (with_reducible first | refine x_op (fun K hK => ?_) | refine end_ret ?_ | refine end_normal ?_) | ((with_reducible refine x_guard_yes ?hy (fun K hK => ?_)); case hy => rfl)); simp only [go_sem, Int.cast_ofNat_Int, Nat.reduceEqDiff, Nat.reduceAdd, Nat.reduceMul, Nat.reduceLeDiff, Nat.reduceLT, Int.reduceLT, Int.reduceLE, Int.reduceEq, Int.reduceNeg, Int.reduceToNat, Nat.reducePow, reduceIte, reduceCtorEq, hcell_push, hcell_top, okW_push, okW_top, hcell_hset_ne, hcell_hset_off, hcell_hset_eq, okW_hset, hset_size, Array.size_push, Nat.lt_add_one, ne_add_one, add_one_ne, Nat.add_assoc, add_same, add_lt_same, Nat.reduceEqDiff, lt_add_k, add_k_ne, ne_add_k])
    | ((with_reducible first | refine x_guard_no ?hy ?_ | refine x_cond_true ?hy ?_); case hy => rfl)
    | ((with_reducible first | refine x_guard_none ?hy ?_ | refine x_cond_false ?hy ?_); case hy => rfl)
    | ((with_reducible refine block_exit_ne ?hy ?_); case hy => decide))
  refine x_loop (fun m e' H' => ∃ (i : Nat), e' 11 = .int .i64 (i : Int) ∧ Blk H' H.size [.int .u64 0] ∧ Blk H' (H.size + 1) [.int .u64 ((ofFrom 0#64 (xs.take i)).toNat : Int)] ∧ Fr (fun _ => False) H H' ∧ (xs.take i).all okN = true ∧ i ≤ xs.length ∧ m = xs.length - i) xs.length ⟨0, rfl, ?_, ?_, (by ((repeat (first | refine Fr.set ?_ (by simp) _ | refine Fr.push ?_ _)); exact Fr.refl _ _)), rfl, by omega, rfl⟩ ?_
  · exact (Blk.new H [.int .u64 0] 26).push _
  · have := Blk.new (H.push (.cells #[.int .u64 0] 26)) [.int .u64 0] 26
    rw [Array.size_push] at this
    exact this
  rintro m e1 H4 ⟨i, i11, hb1, hb2, hf, hall, hi, rfl⟩ hoff
  have i2 : e1 2 = .pointer (some ⟨H.size, 0, none⟩) := (hoff 2 rfl).trans rfl
  have i4 : e1 4 = .pointer (some ⟨H.size + 1, 0, none⟩) := (hoff 4 rfl).trans rfl
  have i9 : e1 9 = .slice a xs.length c := (hoff 9 rfl).trans rfl
  have i10 : e1 10 = .int .i64 (xs.length : Int) := (hoff 10 rfl).trans rfl
  clear hoff
  have c1 := hb1.cellOf (i := 0) rfl
  have c2 := hb2.cellOf (i := 0) rfl
  have w1 := hb1.okW (i := 0) (by simp)
  have w2 := hb2.okW (i := 0) (by simp)
  by_cases hlt : i < xs.length
  · obtain ⟨n, hn⟩ : ∃ n, xs[i]? = some n := ⟨_, List.getElem?_eq_getElem hlt⟩
    obtain ⟨b, o, c', _, hv1, cx⟩ := (hv.frame hf (fun _ _ h => h)).read hn
    rw [ev] at hv1
    simp only [Value.slice.injEq] at hv1
    obtain ⟨rfl, _, _⟩ := hv1
    have t1 : (i < xs.length) = True := by simp [hlt]
    repeat' (first
      | (with_reducible first | refine seq_normal ?_ | (refine hK _ _ ?_; clear hK K) | refine x_seq (fun K hK => ?_) | refine x_nil ?_ | refine x_block ?_ | refine x_skip ?_ | refine x_exit ?_ | refine x_ret ?_ | refine x_label ?_ | refine x_scope ?_ | (refine seq_ret ?_; clear hK K) | (refine seq_exit ?_; clear hK K) | refine block_normal ?_ | refine block_ret ?_ | refine block_exit ?_ | refine loop_exit ?_ | refine loop_ret ?_)
      | ((with_reducible refine x_reg_lit ?hq ?_); case hq => rfl)
      | ((first | (with_reducible first | refine x_op (fun K hK => ?_) | refine end_ret ?_ | refine end_normal ?_) | ((with_reducible refine x_guard_yes ?hy (fun K hK => ?_)); case hy => rfl)); simp only [go_sem, Int.cast_ofNat_Int, Nat.reduceEqDiff, Nat.reduceAdd, Nat.reduceMul, Nat.reduceLeDiff, Nat.reduceLT, Int.reduceLT, Int.reduceLE, Int.reduceEq, Int.reduceNeg, Int.reduceToNat, Nat.reducePow, reduceIte, reduceCtorEq, i9, i10, i11, t1, cx])
      | ((with_reducible first | refine x_guard_no ?hy ?_ | refine x_cond_true ?hy ?_); case hy => rfl)
      | ((with_reducible first | refine x_guard_none ?hy ?_ | refine x_cond_false ?hy ?_); case hy => rfl)
      | ((with_reducible refine block_exit_ne ?hy ?_); case hy => decide))
    refine bit_ok ?_
    cases hok : okN n
    · repeat' (first
      | (with_reducible first | refine seq_normal ?_ | (refine hK _ _ ?_; clear hK K) | refine x_seq (fun K hK => ?_) | refine x_nil ?_ | refine x_block ?_ | refine x_skip ?_ | refine x_exit ?_ | refine x_ret ?_ | refine x_label ?_ | refine x_scope ?_ | (refine seq_ret ?_; clear hK K) | (refine seq_exit ?_; clear hK K) | refine block_normal ?_ | refine block_ret ?_ | refine block_exit ?_ | refine loop_exit ?_ | refine loop_ret ?_)
      | ((with_reducible refine x_reg_lit ?hq ?_); case hq => rfl)
      | ((first | (with_reducible first | refine x_op (fun K hK => ?_) | refine end_ret ?_ | refine end_normal ?_) | ((with_reducible refine x_guard_yes ?hy (fun K hK => ?_)); case hy => rfl)); simp only [go_sem, Int.cast_ofNat_Int, Nat.reduceEqDiff, Nat.reduceAdd, Nat.reduceMul, Nat.reduceLeDiff, Nat.reduceLT, Int.reduceLT, Int.reduceLE, Int.reduceEq, Int.reduceNeg, Int.reduceToNat, Nat.reducePow, reduceIte, reduceCtorEq, hcell_push, hcell_top, okW_push, okW_top, hcell_hset_ne, hcell_hset_off, hcell_hset_eq, okW_hset, hset_size, Array.size_push, Nat.lt_add_one, ne_add_one, add_one_ne, Nat.add_assoc, add_same, add_lt_same, Nat.reduceEqDiff, lt_add_k, add_k_ne, ne_add_k, i2, w1])
      | ((with_reducible first | refine x_guard_no ?hy ?_ | refine x_cond_true ?hy ?_); case hy => rfl)
      | ((with_reducible first | refine x_guard_none ?hy ?_ | refine x_cond_false ?hy ?_); case hy => rfl)
      | ((with_reducible refine block_exit_ne ?hy ?_); case hy => decide))
      have e1 : ofQ xs = (0#64, 1) := by
        unfold ofQ
        rw [if_neg]
        intro h
        rw [List.all_eq_true] at h
        have := h n (List.mem_of_getElem? hn)
        rw [hok] at this; cases this
      rw [e1] at hk
      exact hk _ (hf.set (.inr (Nat.le_refl _)) _)
    · have ew : IntKind.i64.wrap ((i : Int) + 1) = ((i + 1 : Nat) : Int) := by rw [wrap_i64] <;> omega
      repeat' (first
        | (with_reducible first | refine seq_normal ?_ | (refine hK _ _ ?_; clear hK K) | refine x_seq (fun K hK => ?_) | refine x_nil ?_ | refine x_block ?_ | refine x_skip ?_ | refine x_exit ?_ | refine x_ret ?_ | refine x_label ?_ | refine x_scope ?_ | (refine seq_ret ?_; clear hK K) | (refine seq_exit ?_; clear hK K) | refine block_normal ?_ | refine block_ret ?_ | refine block_exit ?_ | refine loop_exit ?_ | refine loop_ret ?_)
        | ((with_reducible refine x_reg_lit ?hq ?_); case hq => rfl)
        | ((first | (with_reducible first | refine x_op (fun K hK => ?_) | refine end_ret ?_ | refine end_normal ?_) | ((with_reducible refine x_guard_yes ?hy (fun K hK => ?_)); case hy => rfl)); simp only [go_sem, Int.cast_ofNat_Int, Nat.reduceEqDiff, Nat.reduceAdd, Nat.reduceMul, Nat.reduceLeDiff, Nat.reduceLT, Int.reduceLT, Int.reduceLE, Int.reduceEq, Int.reduceNeg, Int.reduceToNat, Nat.reducePow, reduceIte, reduceCtorEq, hcell_push, hcell_top, okW_push, okW_top, hcell_hset_ne, hcell_hset_off, hcell_hset_eq, okW_hset, hset_size, Array.size_push, Nat.lt_add_one, ne_add_one, add_one_ne, Nat.add_assoc, add_same, add_lt_same, Nat.reduceEqDiff, lt_add_k, add_k_ne, ne_add_k, i4, c2, w2, bor, i11, ew])
        | ((with_reducible first | refine x_guard_no ?hy ?_ | refine x_cond_true ?hy ?_); case hy => rfl)
        | ((with_reducible first | refine x_guard_none ?hy ?_ | refine x_cond_false ?hy ?_); case hy => rfl)
        | ((with_reducible refine block_exit_ne ?hy ?_); case hy => decide))
      refine loop_normal (m' := xs.length - (i + 1)) (by omega) ⟨i + 1, rfl, hb1.set_ne (by simp) _, ?_, hf.set (.inr (by simp)) _, ?_, hlt, rfl⟩
      · have := hb2.set_same 0 (.int .u64 ((ofFrom 0#64 (xs.take i) ||| bitN n).toNat : Int))
        rw [List.take_add_one, hn, ofFrom_append]
        exact this
      · rw [List.take_add_one, hn, List.all_append, hall]
        simp [hok]
  · have t1 : (i < xs.length) = False := by simp; omega
    have hix : xs.take i = xs := List.take_of_length_le (by omega)
    rw [hix] at hall hb2 c2
    have e1 : ofQ xs = (ofFrom 0#64 xs, 0) := by unfold ofQ; rw [if_pos hall]
    rw [e1] at hk
    repeat' (first
      | (with_reducible first | refine seq_normal ?_ | (refine hK _ _ ?_; clear hK K) | refine x_seq (fun K hK => ?_) | refine x_nil ?_ | refine x_block ?_ | refine x_skip ?_ | refine x_exit ?_ | refine x_ret ?_ | refine x_label ?_ | refine x_scope ?_ | (refine seq_ret ?_; clear hK K) | (refine seq_exit ?_; clear hK K) | refine block_normal ?_ | refine block_ret ?_ | refine block_exit ?_ | refine loop_exit ?_ | refine loop_ret ?_)
      | ((with_reducible refine x_reg_lit ?hq ?_); case hq => rfl)
      | ((first | (with_reducible first | refine x_op (fun K hK => ?_) | refine end_ret ?_ | refine end_normal ?_) | ((with_reducible refine x_guard_yes ?hy (fun K hK => ?_)); case hy => rfl)); simp only [go_sem, Int.cast_ofNat_Int, Nat.reduceEqDiff, Nat.reduceAdd, Nat.reduceMul, Nat.reduceLeDiff, Nat.reduceLT, Int.reduceLT, Int.reduceLE, Int.reduceEq, Int.reduceNeg, Int.reduceToNat, Nat.reducePow, reduceIte, reduceCtorEq, hcell_push, hcell_top, okW_push, okW_top, hcell_hset_ne, hcell_hset_off, hcell_hset_eq, okW_hset, hset_size, Array.size_push, Nat.lt_add_one, ne_add_one, add_one_ne, Nat.add_assoc, add_same, add_lt_same, Nat.reduceEqDiff, lt_add_k, add_k_ne, ne_add_k, i10, i11, t1, i4, c2, i2, w1])
      | ((with_reducible first | refine x_guard_no ?hy ?_ | refine x_cond_true ?hy ?_); case hy => rfl)
      | ((with_reducible first | refine x_guard_none ?hy ?_ | refine x_cond_false ?hy ?_); case hy => rfl)
      | ((with_reducible refine block_exit_ne ?hy ?_); case hy => decide))
    exact hk _ (hf.set (.inr (Nat.le_refl _)) _)
end Go.Proofs.YtdhepjcdlkahnaaDoor
