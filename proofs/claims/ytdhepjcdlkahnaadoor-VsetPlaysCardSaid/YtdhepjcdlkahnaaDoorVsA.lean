/-
  What the functions of a set of 64 numbers compute: contracts.
-/
import Derived.Test.YtdhepjcdlkahnaaDoorVsN
import Derived.Test.YtdhepjcdlkahnaaDoorHpV
import Derived.Test.YtdhepjcdlkahnaaDoorHpU
import Derived.Test.YtdhepjcdlkahnaaDoorHpY
import Derived.Test.YtdhepjcdlkahnaaDoorTab
namespace Go.Proofs.YtdhepjcdlkahnaaDoor
open Go Go.Hp Go.Vs
set_option linter.all false
set_option maxRecDepth 100000

abbrev B64 := BitVec 64
/-- A set's value. -/
def sv (x : B64) : Value := .agg #[.int .u64 (x.toNat : Int)]
theorem ofInt_toNat (x : B64) : BitVec.ofInt 64 (x.toNat : Int) = x := by
  rw [BitVec.ofInt_natCast]; simp
theorem wrap_u64i (n : Int) : IntKind.u64.wrap n = n % 18446744073709551616 := by
  simp only [IntKind.wrap, IntKind.signed, IntKind.bits, Bool.false_and, Bool.false_eq_true, if_false]
  rfl
theorem wrap_toNat (x : B64) : IntKind.u64.wrap (x.toNat : Int) = (x.toNat : Int) := by
  have := x.isLt
  rw [wrap_u64i]
  omega
theorem bits_u64 : IntKind.u64.bits = 64 := rfl
theorem bor (x y : B64) : bitOr .u64 (x.toNat : Int) (y.toNat : Int) = ((x ||| y).toNat : Int) := by
  unfold bitOr
  show IntKind.u64.wrap ((BitVec.ofInt 64 (x.toNat : Int) ||| BitVec.ofInt 64 (y.toNat : Int)).toNat : Int) = _
  rw [ofInt_toNat, ofInt_toNat, wrap_toNat]
theorem band (x y : B64) : bitAnd .u64 (x.toNat : Int) (y.toNat : Int) = ((x &&& y).toNat : Int) := by
  unfold bitAnd
  show IntKind.u64.wrap ((BitVec.ofInt 64 (x.toNat : Int) &&& BitVec.ofInt 64 (y.toNat : Int)).toNat : Int) = _
  rw [ofInt_toNat, ofInt_toNat, wrap_toNat]
theorem bnot (x y : B64) : bitAndNot .u64 (x.toNat : Int) (y.toNat : Int) = ((x &&& ~~~y).toNat : Int) := by
  unfold bitAndNot
  show IntKind.u64.wrap ((BitVec.ofInt 64 (x.toNat : Int) &&& ~~~BitVec.ofInt 64 (y.toNat : Int)).toNat : Int) = _
  rw [ofInt_toNat, ofInt_toNat, wrap_toNat]
theorem wrap_u64_nat (n : Nat) : IntKind.u64.wrap (n : Int) = ((n % 18446744073709551616 : Nat) : Int) := by
  rw [wrap_u64i]
  omega
theorem wrap_u64_small {n : Nat} (h : n < 18446744073709551616) : IntKind.u64.wrap (n : Int) = (n : Int) := by rw [wrap_u64_nat, Nat.mod_eq_of_lt h]
theorem band_nat {a b : Nat} (ha : a < 18446744073709551616) (hb : b < 18446744073709551616) : bitAnd .u64 (a : Int) (b : Int) = ((a &&& b : Nat) : Int) := by
  have := band (BitVec.ofNat 64 a) (BitVec.ofNat 64 b)
  simpa [Nat.mod_eq_of_lt ha, Nat.mod_eq_of_lt hb] using this
theorem fdiv_nat (a b : Nat) : (a : Int).fdiv (b : Int) = ((a / b : Nat) : Int) := by
  rw [Int.fdiv_eq_ediv_of_nonneg _ (by omega)]; rfl
/-- May a number be there? -/
def okN (n : Int) : Bool := decide (0 ≤ n ∧ n < 64)
def bitN (n : Int) : B64 := if 0 ≤ n ∧ n < 64 then BitVec.twoPow 64 n.toNat else 0#64
theorem bit_ok {H : Heap} {n : Int} {K : Value → Heap → Prop} (hk : K (.tuple #[.int .u64 ((bitN n).toNat : Int), .bool (okN n)]) H) :
    CallsH Tryd.prog 34 #[.int .i64 n] H K := by
  refine call34 (by simp) ?_
  simp only [Tryd.f34, Option.getD_some]
  by_cases h : 0 ≤ n ∧ n < 64
  · have t1 : (n < 0) = False := by simp; omega
    have t2 : (64 ≤ n) = False := by simp; omega
    obtain ⟨k, rfl⟩ := Int.eq_ofNat_of_zero_le h.1
    have hk64 : k < 64 := by omega
    have e1 : IntKind.u64.wrap (k : Int) = (k : Int) := wrap_u64_small (by omega)
    have e2 : min k 64 = k := by omega
    have hp : 2 ^ k < 2 ^ 64 := Nat.pow_lt_pow_right (by decide) hk64
    have e3 : IntKind.u64.wrap (1 * 2 ^ k) = ((bitN (k : Int)).toNat : Int) := by
      rw [show (1 : Int) * 2 ^ k = ((2 ^ k : Nat) : Int) by simp, wrap_u64_small hp]
      unfold bitN
      rw [if_pos h]
      simp [BitVec.toNat_twoPow, Nat.mod_eq_of_lt hp]
    have e4 : okN (k : Int) = true := by unfold okN; simp; omega
    rw [e4] at hk
    have e0 : (0 : Int) ≤ (k : Int) := by omega
    repeat' (first
      | (with_reducible first | refine seq_normal ?_ | (refine hK _ _ ?_; clear hK K) | refine x_seq (fun K hK => ?_) | refine x_nil ?_ | refine x_block ?_ | refine x_skip ?_ | refine x_exit ?_ | refine x_ret ?_ | refine x_label ?_ | refine x_scope ?_ | (refine seq_ret ?_; clear hK K) | (refine seq_exit ?_; clear hK K) | refine block_normal ?_ | refine block_ret ?_ | refine block_exit ?_ | refine loop_exit ?_ | refine loop_ret ?_)
      | ((with_reducible refine x_reg_lit ?hq ?_); case hq => rfl)
      | ((first | (with_reducible first | refine x_op (fun K hK => ?_) | refine end_ret ?_ | refine end_normal ?_) | ((with_reducible refine x_guard_yes ?hy (fun K hK => ?_)); case hy => rfl)); simp only [go_sem, Int.cast_ofNat_Int, Nat.reduceEqDiff, Nat.reduceAdd, Nat.reduceMul, Nat.reduceLeDiff, Nat.reduceLT, Int.reduceLT, Int.reduceLE, Int.reduceEq, Int.reduceNeg, Int.reduceToNat, Nat.reducePow, reduceIte, reduceCtorEq, t1, t2, e1, e2, bits_u64, e0])
      | ((with_reducible first | refine x_guard_no ?hy ?_ | refine x_cond_true ?hy ?_); case hy => rfl)
      | ((with_reducible first | refine x_guard_none ?hy ?_ | refine x_cond_false ?hy ?_); case hy => rfl)
      | ((with_reducible refine block_exit_ne ?hy ?_); case hy => decide))
    rw [e3]
    exact hk
  · have e5 : okN n = false := by unfold okN; simp only [decide_eq_false_iff_not]; exact h
    have e6 : bitN n = 0#64 := by unfold bitN; rw [if_neg h]
    rw [e5, e6] at hk
    by_cases h0 : n < 0
    · have t1 : (n < 0) = True := by simp [h0]
      repeat' (first
        | (with_reducible first | refine seq_normal ?_ | (refine hK _ _ ?_; clear hK K) | refine x_seq (fun K hK => ?_) | refine x_nil ?_ | refine x_block ?_ | refine x_skip ?_ | refine x_exit ?_ | refine x_ret ?_ | refine x_label ?_ | refine x_scope ?_ | (refine seq_ret ?_; clear hK K) | (refine seq_exit ?_; clear hK K) | refine block_normal ?_ | refine block_ret ?_ | refine block_exit ?_ | refine loop_exit ?_ | refine loop_ret ?_)
        | ((with_reducible refine x_reg_lit ?hq ?_); case hq => rfl)
        | ((first | (with_reducible first | refine x_op (fun K hK => ?_) | refine end_ret ?_ | refine end_normal ?_) | ((with_reducible refine x_guard_yes ?hy (fun K hK => ?_)); case hy => rfl)); simp only [go_sem, Int.cast_ofNat_Int, Nat.reduceEqDiff, Nat.reduceAdd, Nat.reduceMul, Nat.reduceLeDiff, Nat.reduceLT, Int.reduceLT, Int.reduceLE, Int.reduceEq, Int.reduceNeg, Int.reduceToNat, Nat.reducePow, reduceIte, reduceCtorEq, t1])
        | ((with_reducible first | refine x_guard_no ?hy ?_ | refine x_cond_true ?hy ?_); case hy => rfl)
        | ((with_reducible first | refine x_guard_none ?hy ?_ | refine x_cond_false ?hy ?_); case hy => rfl)
        | ((with_reducible refine block_exit_ne ?hy ?_); case hy => decide))
      exact hk
    · have t1 : (n < 0) = False := by simp [h0]
      have t2 : (64 ≤ n) = True := by simp; omega
      repeat' (first
        | (with_reducible first | refine seq_normal ?_ | (refine hK _ _ ?_; clear hK K) | refine x_seq (fun K hK => ?_) | refine x_nil ?_ | refine x_block ?_ | refine x_skip ?_ | refine x_exit ?_ | refine x_ret ?_ | refine x_label ?_ | refine x_scope ?_ | (refine seq_ret ?_; clear hK K) | (refine seq_exit ?_; clear hK K) | refine block_normal ?_ | refine block_ret ?_ | refine block_exit ?_ | refine loop_exit ?_ | refine loop_ret ?_)
        | ((with_reducible refine x_reg_lit ?hq ?_); case hq => rfl)
        | ((first | (with_reducible first | refine x_op (fun K hK => ?_) | refine end_ret ?_ | refine end_normal ?_) | ((with_reducible refine x_guard_yes ?hy (fun K hK => ?_)); case hy => rfl)); simp only [go_sem, Int.cast_ofNat_Int, Nat.reduceEqDiff, Nat.reduceAdd, Nat.reduceMul, Nat.reduceLeDiff, Nat.reduceLT, Int.reduceLT, Int.reduceLE, Int.reduceEq, Int.reduceNeg, Int.reduceToNat, Nat.reducePow, reduceIte, reduceCtorEq, t1, t2])
        | ((with_reducible first | refine x_guard_no ?hy ?_ | refine x_cond_true ?hy ?_); case hy => rfl)
        | ((with_reducible first | refine x_guard_none ?hy ?_ | refine x_cond_false ?hy ?_); case hy => rfl)
        | ((with_reducible refine block_exit_ne ?hy ?_); case hy => decide))
      exact hk
/-! ### one set and a number -/
theorem bitN_bit (n : Int) (i : Nat) : (bitN n).getLsbD i = (okN n && decide (i = n.toNat)) := by
  unfold bitN okN
  by_cases h : 0 ≤ n ∧ n < 64
  · rw [if_pos h]
    have : n.toNat < 64 := by omega
    simp only [BitVec.getLsbD_twoPow, h, and_self, decide_true, Bool.true_and]
    by_cases hi : n.toNat = i
    · subst hi; simp [this]
    · have : ¬ i = n.toNat := fun e => hi e.symm
      simp [hi, this]
  · rw [if_neg h]
    simp [h]
def hasQ (x : B64) (n : Int) : Bool := okN n && x.getLsbD n.toNat
theorem and_bit (x : B64) (n : Int) : ((x &&& bitN n).toNat : Int) != 0 ↔ hasQ x n = true := by
  have key : (x &&& bitN n) = 0#64 ↔ hasQ x n = false := by
    constructor
    · intro h
      have h2 : (x &&& bitN n).getLsbD n.toNat = false := by rw [h]; simp
      rw [BitVec.getLsbD_and, bitN_bit] at h2
      simp only [decide_true, Bool.and_true] at h2
      unfold hasQ
      rw [Bool.and_comm]; exact h2
    · intro h
      apply BitVec.eq_of_getLsbD_eq
      intro i hi
      rw [BitVec.getLsbD_and, bitN_bit]
      unfold hasQ at h
      by_cases hn : i = n.toNat
      · subst hn
        simp only [decide_true, Bool.and_true]
        rw [Bool.and_comm, h]; simp
      · simp [hn]
  have e : ((x &&& bitN n).toNat : Int) = 0 ↔ (x &&& bitN n) = 0#64 := by
    rw [← BitVec.toNat_inj]; simp
  rw [bne_iff_ne, Ne, e, key]
  cases hasQ x n <;> simp
theorem and_bit_eq (x : B64) (n : Int) : (((x &&& bitN n).toNat : Int) != 0) = hasQ x n := by
  rw [Bool.eq_iff_iff]; exact and_bit x n
theorem has_ok {H : Heap} {x : B64} {n : Int} {K : Value → Heap → Prop} (hk : ∀ H', Fr (fun _ => False) H H' → K (.bool (hasQ x n)) H') :
    CallsH Tryd.prog 15 #[sv x, .int .i64 n] H K := by
  unfold sv
  refine call15 (by simp) ?_
  simp only [Tryd.f15, Option.getD_some]
  repeat' (first
    | (with_reducible first | refine seq_normal ?_ | (refine hK _ _ ?_; clear hK K) | refine x_seq (fun K hK => ?_) | refine x_nil ?_ | refine x_block ?_ | refine x_skip ?_ | refine x_exit ?_ | refine x_ret ?_ | refine x_label ?_ | refine x_scope ?_ | (refine seq_ret ?_; clear hK K) | (refine seq_exit ?_; clear hK K) | refine block_normal ?_ | refine block_ret ?_ | refine block_exit ?_ | refine loop_exit ?_ | refine loop_ret ?_)
    | ((with_reducible refine x_reg_lit ?hq ?_); case hq => rfl)
    | ((first | (with_reducible first | refine x_op (fun K hK => ?_) | refine end_ret ?_ | refine end_normal ?_) | ((with_reducible refine x_guard_yes ?hy (fun K hK => ?_)); case hy => rfl)); simp only [go_sem, Int.cast_ofNat_Int, Nat.reduceEqDiff, Nat.reduceAdd, Nat.reduceMul, Nat.reduceLeDiff, Nat.reduceLT, Int.reduceLT, Int.reduceLE, Int.reduceEq, Int.reduceNeg, Int.reduceToNat, Nat.reducePow, reduceIte, reduceCtorEq])
    | ((with_reducible first | refine x_guard_no ?hy ?_ | refine x_cond_true ?hy ?_); case hy => rfl)
    | ((with_reducible first | refine x_guard_none ?hy ?_ | refine x_cond_false ?hy ?_); case hy => rfl)
    | ((with_reducible refine block_exit_ne ?hy ?_); case hy => decide))
  refine bit_ok ?_
  repeat' (first
    | (with_reducible first | refine seq_normal ?_ | (refine hK _ _ ?_; clear hK K) | refine x_seq (fun K hK => ?_) | refine x_nil ?_ | refine x_block ?_ | refine x_skip ?_ | refine x_exit ?_ | refine x_ret ?_ | refine x_label ?_ | refine x_scope ?_ | (refine seq_ret ?_; clear hK K) | (refine seq_exit ?_; clear hK K) | refine block_normal ?_ | refine block_ret ?_ | refine block_exit ?_ | refine loop_exit ?_ | refine loop_ret ?_)
    | ((with_reducible refine x_reg_lit ?hq ?_); case hq => rfl)
    | ((first | (with_reducible first | refine x_op (fun K hK => ?_) | refine end_ret ?_ | refine end_normal ?_) | ((with_reducible refine x_guard_yes ?hy (fun K hK => ?_)); case hy => rfl)); simp only [go_sem, Int.cast_ofNat_Int, Nat.reduceEqDiff, Nat.reduceAdd, Nat.reduceMul, Nat.reduceLeDiff, Nat.reduceLT, Int.reduceLT, Int.reduceLE, Int.reduceEq, Int.reduceNeg, Int.reduceToNat, Nat.reducePow, reduceIte, reduceCtorEq, hcell_push, hcell_top, okW_push, okW_top, hcell_hset_ne, hcell_hset_off, hcell_hset_eq, okW_hset, hset_size, Array.size_push, Nat.lt_add_one, ne_add_one, add_one_ne, Nat.add_assoc, add_same, add_lt_same, Nat.reduceEqDiff, lt_add_k, add_k_ne, ne_add_k, band, and_bit_eq])
    | ((with_reducible first | refine x_guard_no ?hy ?_ | refine x_cond_true ?hy ?_); case hy => rfl)
    | ((with_reducible first | refine x_guard_none ?hy ?_ | refine x_cond_false ?hy ?_); case hy => rfl)
    | ((with_reducible refine block_exit_ne ?hy ?_); case hy => decide))
  exact hk _ (by ((repeat (first | refine Fr.set ?_ (by simp) _ | refine Fr.push ?_ _)); exact Fr.refl _ _))
def withQ (x : B64) (n : Int) : B64 × Int := if okN n then (x ||| bitN n, 0) else (0#64, 1)
def withoutQ (x : B64) (n : Int) : B64 × Int := if okN n then (x &&& ~~~bitN n, 0) else (0#64, 1)
theorem with_ok {H : Heap} {x : B64} {n : Int} {K : Value → Heap → Prop} (hk : ∀ H', Fr (fun _ => False) H H' → K (.tuple #[sv (withQ x n).1, .int .i64 (withQ x n).2]) H') :
    CallsH Tryd.prog 23 #[sv x, .int .i64 n] H K := by
  unfold sv at *
  refine call23 (by simp) ?_
  simp only [Tryd.f23, Option.getD_some]
  repeat' (first
    | (with_reducible first | refine seq_normal ?_ | (refine hK _ _ ?_; clear hK K) | refine x_seq (fun K hK => ?_) | refine x_nil ?_ | refine x_block ?_ | refine x_skip ?_ | refine x_exit ?_ | refine x_ret ?_ | refine x_label ?_ | refine x_scope ?_ | (refine seq_ret ?_; clear hK K) | (refine seq_exit ?_; clear hK K) | refine block_normal ?_ | refine block_ret ?_ | refine block_exit ?_ | refine loop_exit ?_ | refine loop_ret ?_)
    | ((with_reducible refine x_reg_lit ?hq ?_); case hq => rfl)
    | ((first | (with_reducible first | refine x_op (fun K hK => ?_) | refine end_ret ?_ | refine end_normal ?_) | ((with_reducible refine x_guard_yes ?hy (fun K hK => ?_)); case hy => rfl)); simp only [go_sem, Int.cast_ofNat_Int, Nat.reduceEqDiff, Nat.reduceAdd, Nat.reduceMul, Nat.reduceLeDiff, Nat.reduceLT, Int.reduceLT, Int.reduceLE, Int.reduceEq, Int.reduceNeg, Int.reduceToNat, Nat.reducePow, reduceIte, reduceCtorEq])
    | ((with_reducible first | refine x_guard_no ?hy ?_ | refine x_cond_true ?hy ?_); case hy => rfl)
    | ((with_reducible first | refine x_guard_none ?hy ?_ | refine x_cond_false ?hy ?_); case hy => rfl)
    | ((with_reducible refine block_exit_ne ?hy ?_); case hy => decide))
  refine bit_ok ?_
  unfold withQ at hk
  cases h : okN n
  · rw [h] at hk
    repeat' (first
      | (with_reducible first | refine seq_normal ?_ | (refine hK _ _ ?_; clear hK K) | refine x_seq (fun K hK => ?_) | refine x_nil ?_ | refine x_block ?_ | refine x_skip ?_ | refine x_exit ?_ | refine x_ret ?_ | refine x_label ?_ | refine x_scope ?_ | (refine seq_ret ?_; clear hK K) | (refine seq_exit ?_; clear hK K) | refine block_normal ?_ | refine block_ret ?_ | refine block_exit ?_ | refine loop_exit ?_ | refine loop_ret ?_)
      | ((with_reducible refine x_reg_lit ?hq ?_); case hq => rfl)
      | ((first | (with_reducible first | refine x_op (fun K hK => ?_) | refine end_ret ?_ | refine end_normal ?_) | ((with_reducible refine x_guard_yes ?hy (fun K hK => ?_)); case hy => rfl)); simp only [go_sem, Int.cast_ofNat_Int, Nat.reduceEqDiff, Nat.reduceAdd, Nat.reduceMul, Nat.reduceLeDiff, Nat.reduceLT, Int.reduceLT, Int.reduceLE, Int.reduceEq, Int.reduceNeg, Int.reduceToNat, Nat.reducePow, reduceIte, reduceCtorEq, hcell_push, hcell_top, okW_push, okW_top, hcell_hset_ne, hcell_hset_off, hcell_hset_eq, okW_hset, hset_size, Array.size_push, Nat.lt_add_one, ne_add_one, add_one_ne, Nat.add_assoc, add_same, add_lt_same, Nat.reduceEqDiff, lt_add_k, add_k_ne, ne_add_k])
      | ((with_reducible first | refine x_guard_no ?hy ?_ | refine x_cond_true ?hy ?_); case hy => rfl)
      | ((with_reducible first | refine x_guard_none ?hy ?_ | refine x_cond_false ?hy ?_); case hy => rfl)
      | ((with_reducible refine block_exit_ne ?hy ?_); case hy => decide))
    exact hk _ (by ((repeat (first | refine Fr.set ?_ (by simp) _ | refine Fr.push ?_ _)); exact Fr.refl _ _))
  · rw [h] at hk
    repeat' (first
      | (with_reducible first | refine seq_normal ?_ | (refine hK _ _ ?_; clear hK K) | refine x_seq (fun K hK => ?_) | refine x_nil ?_ | refine x_block ?_ | refine x_skip ?_ | refine x_exit ?_ | refine x_ret ?_ | refine x_label ?_ | refine x_scope ?_ | (refine seq_ret ?_; clear hK K) | (refine seq_exit ?_; clear hK K) | refine block_normal ?_ | refine block_ret ?_ | refine block_exit ?_ | refine loop_exit ?_ | refine loop_ret ?_)
      | ((with_reducible refine x_reg_lit ?hq ?_); case hq => rfl)
      | ((first | (with_reducible first | refine x_op (fun K hK => ?_) | refine end_ret ?_ | refine end_normal ?_) | ((with_reducible refine x_guard_yes ?hy (fun K hK => ?_)); case hy => rfl)); simp only [go_sem, Int.cast_ofNat_Int, Nat.reduceEqDiff, Nat.reduceAdd, Nat.reduceMul, Nat.reduceLeDiff, Nat.reduceLT, Int.reduceLT, Int.reduceLE, Int.reduceEq, Int.reduceNeg, Int.reduceToNat, Nat.reducePow, reduceIte, reduceCtorEq, hcell_push, hcell_top, okW_push, okW_top, hcell_hset_ne, hcell_hset_off, hcell_hset_eq, okW_hset, hset_size, Array.size_push, Nat.lt_add_one, ne_add_one, add_one_ne, Nat.add_assoc, add_same, add_lt_same, Nat.reduceEqDiff, lt_add_k, add_k_ne, ne_add_k, bor])
      | ((with_reducible first | refine x_guard_no ?hy ?_ | refine x_cond_true ?hy ?_); case hy => rfl)
      | ((with_reducible first | refine x_guard_none ?hy ?_ | refine x_cond_false ?hy ?_); case hy => rfl)
      | ((with_reducible refine block_exit_ne ?hy ?_); case hy => decide))
    exact hk _ (by ((repeat (first | refine Fr.set ?_ (by simp) _ | refine Fr.push ?_ _)); exact Fr.refl _ _))
theorem without_ok {H : Heap} {x : B64} {n : Int} {K : Value → Heap → Prop} (hk : ∀ H', Fr (fun _ => False) H H' → K (.tuple #[sv (withoutQ x n).1, .int .i64 (withoutQ x n).2]) H') :
    CallsH Tryd.prog 24 #[sv x, .int .i64 n] H K := by
  unfold sv at *
  refine call24 (by simp) ?_
  simp only [Tryd.f24, Option.getD_some]
  repeat' (first
    | (with_reducible first | refine seq_normal ?_ | (refine hK _ _ ?_; clear hK K) | refine x_seq (fun K hK => ?_) | refine x_nil ?_ | refine x_block ?_ | refine x_skip ?_ | refine x_exit ?_ | refine x_ret ?_ | refine x_label ?_ | refine x_scope ?_ | (refine seq_ret ?_; clear hK K) | (refine seq_exit ?_; clear hK K) | refine block_normal ?_ | refine block_ret ?_ | refine block_exit ?_ | refine loop_exit ?_ | refine loop_ret ?_)
    | ((with_reducible refine x_reg_lit ?hq ?_); case hq => rfl)
    | ((first | (with_reducible first | refine x_op (fun K hK => ?_) | refine end_ret ?_ | refine end_normal ?_) | ((with_reducible refine x_guard_yes ?hy (fun K hK => ?_)); case hy => rfl)); simp only [go_sem, Int.cast_ofNat_Int, Nat.reduceEqDiff, Nat.reduceAdd, Nat.reduceMul, Nat.reduceLeDiff, Nat.reduceLT, Int.reduceLT, Int.reduceLE, Int.reduceEq, Int.reduceNeg, Int.reduceToNat, Nat.reducePow, reduceIte, reduceCtorEq])
    | ((with_reducible first | refine x_guard_no ?hy ?_ | refine x_cond_true ?hy ?_); case hy => rfl)
    | ((with_reducible first | refine x_guard_none ?hy ?_ | refine x_cond_false ?hy ?_); case hy => rfl)
    | ((with_reducible refine block_exit_ne ?hy ?_); case hy => decide))
  refine bit_ok ?_
  unfold withoutQ at hk
  cases h : okN n
  · rw [h] at hk
    repeat' (first
      | (with_reducible first | refine seq_normal ?_ | (refine hK _ _ ?_; clear hK K) | refine x_seq (fun K hK => ?_) | refine x_nil ?_ | refine x_block ?_ | refine x_skip ?_ | refine x_exit ?_ | refine x_ret ?_ | refine x_label ?_ | refine x_scope ?_ | (refine seq_ret ?_; clear hK K) | (refine seq_exit ?_; clear hK K) | refine block_normal ?_ | refine block_ret ?_ | refine block_exit ?_ | refine loop_exit ?_ | refine loop_ret ?_)
      | ((with_reducible refine x_reg_lit ?hq ?_); case hq => rfl)
      | ((first | (with_reducible first | refine x_op (fun K hK => ?_) | refine end_ret ?_ | refine end_normal ?_) | ((with_reducible refine x_guard_yes ?hy (fun K hK => ?_)); case hy => rfl)); simp only [go_sem, Int.cast_ofNat_Int, Nat.reduceEqDiff, Nat.reduceAdd, Nat.reduceMul, Nat.reduceLeDiff, Nat.reduceLT, Int.reduceLT, Int.reduceLE, Int.reduceEq, Int.reduceNeg, Int.reduceToNat, Nat.reducePow, reduceIte, reduceCtorEq, hcell_push, hcell_top, okW_push, okW_top, hcell_hset_ne, hcell_hset_off, hcell_hset_eq, okW_hset, hset_size, Array.size_push, Nat.lt_add_one, ne_add_one, add_one_ne, Nat.add_assoc, add_same, add_lt_same, Nat.reduceEqDiff, lt_add_k, add_k_ne, ne_add_k])
      | ((with_reducible first | refine x_guard_no ?hy ?_ | refine x_cond_true ?hy ?_); case hy => rfl)
      | ((with_reducible first | refine x_guard_none ?hy ?_ | refine x_cond_false ?hy ?_); case hy => rfl)
      | ((with_reducible refine block_exit_ne ?hy ?_); case hy => decide))
    exact hk _ (by ((repeat (first | refine Fr.set ?_ (by simp) _ | refine Fr.push ?_ _)); exact Fr.refl _ _))
  · rw [h] at hk
    repeat' (first
      | (with_reducible first | refine seq_normal ?_ | (refine hK _ _ ?_; clear hK K) | refine x_seq (fun K hK => ?_) | refine x_nil ?_ | refine x_block ?_ | refine x_skip ?_ | refine x_exit ?_ | refine x_ret ?_ | refine x_label ?_ | refine x_scope ?_ | (refine seq_ret ?_; clear hK K) | (refine seq_exit ?_; clear hK K) | refine block_normal ?_ | refine block_ret ?_ | refine block_exit ?_ | refine loop_exit ?_ | refine loop_ret ?_)
      | ((with_reducible refine x_reg_lit ?hq ?_); case hq => rfl)
      | ((first | (with_reducible first | refine x_op (fun K hK => ?_) | refine end_ret ?_ | refine end_normal ?_) | ((with_reducible refine x_guard_yes ?hy (fun K hK => ?_)); case hy => rfl)); simp only [go_sem, Int.cast_ofNat_Int, Nat.reduceEqDiff, Nat.reduceAdd, Nat.reduceMul, Nat.reduceLeDiff, Nat.reduceLT, Int.reduceLT, Int.reduceLE, Int.reduceEq, Int.reduceNeg, Int.reduceToNat, Nat.reducePow, reduceIte, reduceCtorEq, hcell_push, hcell_top, okW_push, okW_top, hcell_hset_ne, hcell_hset_off, hcell_hset_eq, okW_hset, hset_size, Array.size_push, Nat.lt_add_one, ne_add_one, add_one_ne, Nat.add_assoc, add_same, add_lt_same, Nat.reduceEqDiff, lt_add_k, add_k_ne, ne_add_k, bnot])
      | ((with_reducible first | refine x_guard_no ?hy ?_ | refine x_cond_true ?hy ?_); case hy => rfl)
      | ((with_reducible first | refine x_guard_none ?hy ?_ | refine x_cond_false ?hy ?_); case hy => rfl)
      | ((with_reducible refine block_exit_ne ?hy ?_); case hy => decide))
    exact hk _ (by ((repeat (first | refine Fr.set ?_ (by simp) _ | refine Fr.push ?_ _)); exact Fr.refl _ _))
theorem union_ok {H : Heap} {x y : B64} {K : Value → Heap → Prop} (hk : ∀ H', Fr (fun _ => False) H H' → K (sv (x ||| y)) H') : CallsH Tryd.prog 21 #[sv x, sv y] H K := by
  unfold sv at *
  refine call21 (by simp) ?_
  simp only [Tryd.f21, Option.getD_some]
  repeat' (first
    | (with_reducible first | refine seq_normal ?_ | (refine hK _ _ ?_; clear hK K) | refine x_seq (fun K hK => ?_) | refine x_nil ?_ | refine x_block ?_ | refine x_skip ?_ | refine x_exit ?_ | refine x_ret ?_ | refine x_label ?_ | refine x_scope ?_ | (refine seq_ret ?_; clear hK K) | (refine seq_exit ?_; clear hK K) | refine block_normal ?_ | refine block_ret ?_ | refine block_exit ?_ | refine loop_exit ?_ | refine loop_ret ?_)
    | ((with_reducible refine x_reg_lit ?hq ?_); case hq => rfl)
    | ((first | (with_reducible first | refine x_op (fun K hK => ?_) | refine end_ret ?_ | refine end_normal ?_) | ((with_reducible refine x_guard_yes ?hy (fun K hK => ?_)); case hy => rfl)); simp only [go_sem, Int.cast_ofNat_Int, Nat.reduceEqDiff, Nat.reduceAdd, Nat.reduceMul, Nat.reduceLeDiff, Nat.reduceLT, Int.reduceLT, Int.reduceLE, Int.reduceEq, Int.reduceNeg, Int.reduceToNat, Nat.reducePow, reduceIte, reduceCtorEq, hcell_push, hcell_top, okW_push, okW_top, hcell_hset_ne, hcell_hset_off, hcell_hset_eq, okW_hset, hset_size, Array.size_push, Nat.lt_add_one, ne_add_one, add_one_ne, Nat.add_assoc, add_same, add_lt_same, Nat.reduceEqDiff, lt_add_k, add_k_ne, ne_add_k, bor])
    | ((with_reducible first | refine x_guard_no ?hy ?_ | refine x_cond_true ?hy ?_); case hy => rfl)
    | ((with_reducible first | refine x_guard_none ?hy ?_ | refine x_cond_false ?hy ?_); case hy => rfl)
    | ((with_reducible refine block_exit_ne ?hy ?_); case hy => decide))
  exact hk _ (by ((repeat (first | refine Fr.set ?_ (by simp) _ | refine Fr.push ?_ _)); exact Fr.refl _ _))
theorem meet_ok {H : Heap} {x y : B64} {K : Value → Heap → Prop} (hk : ∀ H', Fr (fun _ => False) H H' → K (sv (x &&& y)) H') : CallsH Tryd.prog 20 #[sv x, sv y] H K := by
  unfold sv at *
  refine call20 (by simp) ?_
  simp only [Tryd.f20, Option.getD_some]
  repeat' (first
    | (with_reducible first | refine seq_normal ?_ | (refine hK _ _ ?_; clear hK K) | refine x_seq (fun K hK => ?_) | refine x_nil ?_ | refine x_block ?_ | refine x_skip ?_ | refine x_exit ?_ | refine x_ret ?_ | refine x_label ?_ | refine x_scope ?_ | (refine seq_ret ?_; clear hK K) | (refine seq_exit ?_; clear hK K) | refine block_normal ?_ | refine block_ret ?_ | refine block_exit ?_ | refine loop_exit ?_ | refine loop_ret ?_)
    | ((with_reducible refine x_reg_lit ?hq ?_); case hq => rfl)
    | ((first | (with_reducible first | refine x_op (fun K hK => ?_) | refine end_ret ?_ | refine end_normal ?_) | ((with_reducible refine x_guard_yes ?hy (fun K hK => ?_)); case hy => rfl)); simp only [go_sem, Int.cast_ofNat_Int, Nat.reduceEqDiff, Nat.reduceAdd, Nat.reduceMul, Nat.reduceLeDiff, Nat.reduceLT, Int.reduceLT, Int.reduceLE, Int.reduceEq, Int.reduceNeg, Int.reduceToNat, Nat.reducePow, reduceIte, reduceCtorEq, hcell_push, hcell_top, okW_push, okW_top, hcell_hset_ne, hcell_hset_off, hcell_hset_eq, okW_hset, hset_size, Array.size_push, Nat.lt_add_one, ne_add_one, add_one_ne, Nat.add_assoc, add_same, add_lt_same, Nat.reduceEqDiff, lt_add_k, add_k_ne, ne_add_k, band])
    | ((with_reducible first | refine x_guard_no ?hy ?_ | refine x_cond_true ?hy ?_); case hy => rfl)
    | ((with_reducible first | refine x_guard_none ?hy ?_ | refine x_cond_false ?hy ?_); case hy => rfl)
    | ((with_reducible refine block_exit_ne ?hy ?_); case hy => decide))
  exact hk _ (by ((repeat (first | refine Fr.set ?_ (by simp) _ | refine Fr.push ?_ _)); exact Fr.refl _ _))
theorem minus_ok {H : Heap} {x y : B64} {K : Value → Heap → Prop} (hk : ∀ H', Fr (fun _ => False) H H' → K (sv (x &&& ~~~y)) H') : CallsH Tryd.prog 22 #[sv x, sv y] H K := by
  unfold sv at *
  refine call22 (by simp) ?_
  simp only [Tryd.f22, Option.getD_some]
  repeat' (first
    | (with_reducible first | refine seq_normal ?_ | (refine hK _ _ ?_; clear hK K) | refine x_seq (fun K hK => ?_) | refine x_nil ?_ | refine x_block ?_ | refine x_skip ?_ | refine x_exit ?_ | refine x_ret ?_ | refine x_label ?_ | refine x_scope ?_ | (refine seq_ret ?_; clear hK K) | (refine seq_exit ?_; clear hK K) | refine block_normal ?_ | refine block_ret ?_ | refine block_exit ?_ | refine loop_exit ?_ | refine loop_ret ?_)
    | ((with_reducible refine x_reg_lit ?hq ?_); case hq => rfl)
    | ((first | (with_reducible first | refine x_op (fun K hK => ?_) | refine end_ret ?_ | refine end_normal ?_) | ((with_reducible refine x_guard_yes ?hy (fun K hK => ?_)); case hy => rfl)); simp only [go_sem, Int.cast_ofNat_Int, Nat.reduceEqDiff, Nat.reduceAdd, Nat.reduceMul, Nat.reduceLeDiff, Nat.reduceLT, Int.reduceLT, Int.reduceLE, Int.reduceEq, Int.reduceNeg, Int.reduceToNat, Nat.reducePow, reduceIte, reduceCtorEq, hcell_push, hcell_top, okW_push, okW_top, hcell_hset_ne, hcell_hset_off, hcell_hset_eq, okW_hset, hset_size, Array.size_push, Nat.lt_add_one, ne_add_one, add_one_ne, Nat.add_assoc, add_same, add_lt_same, Nat.reduceEqDiff, lt_add_k, add_k_ne, ne_add_k, bnot])
    | ((with_reducible first | refine x_guard_no ?hy ?_ | refine x_cond_true ?hy ?_); case hy => rfl)
    | ((with_reducible first | refine x_guard_none ?hy ?_ | refine x_cond_false ?hy ?_); case hy => rfl)
    | ((with_reducible refine block_exit_ne ?hy ?_); case hy => decide))
  exact hk _ (by ((repeat (first | refine Fr.set ?_ (by simp) _ | refine Fr.push ?_ _)); exact Fr.refl _ _))
/-! ### how many, and the next one -/
theorem shr64 (a k : Nat) (hk : k ≤ 64) : ((a : Nat) : Int).fdiv (2 ^ min k 64) = ((a / 2 ^ k : Nat) : Int) := by
  rw [Nat.min_eq_left hk, show ((2 : Int) ^ k) = ((2 ^ k : Nat) : Int) by simp, fdiv_nat]
theorem bandc (a c : Nat) (ha : a < 18446744073709551616) (hc : c < 18446744073709551616) : bitAnd .u64 ((a : Nat) : Int) (no_index (OfNat.ofNat c)) = ((a &&& c : Nat) : Int) := band_nat ha hc
theorem stA (x : Nat) (hx : x < 18446744073709551616) : IntKind.u64.wrap (bitAnd .u64 ((x : Int).fdiv (2 ^ min 1 64)) 6148914691236517205 + bitAnd .u64 (x : Int) 6148914691236517205) = (((x / 2 &&& m0) + (x &&& m0) : Nat) : Int) := by
  have h1 := Nat.and_le_right (n := x / 2) (m := m0)
  have h2 := Nat.and_le_right (n := x) (m := m0)
  have hm : m0 = 6148914691236517205 := rfl
  rw [shr64 x 1 (by decide), Nat.pow_one, show (6148914691236517205 : Int) = ((m0 : Nat) : Int) by rfl, band_nat (by omega) (by omega), band_nat (by omega) (by omega), ← Int.natCast_add, wrap_u64_small (by omega)]
theorem stB (x : Nat) (hx : x < 18446744073709551616) : IntKind.u64.wrap (bitAnd .u64 ((x : Int).fdiv (2 ^ min 2 64)) 3689348814741910323 + bitAnd .u64 (x : Int) 3689348814741910323) = (((x / 4 &&& m1) + (x &&& m1) : Nat) : Int) := by
  have h1 := Nat.and_le_right (n := x / 4) (m := m1)
  have h2 := Nat.and_le_right (n := x) (m := m1)
  have hm : m1 = 3689348814741910323 := rfl
  rw [shr64 x 2 (by decide), show 2 ^ 2 = 4 by rfl, show (3689348814741910323 : Int) = ((m1 : Nat) : Int) by rfl, band_nat (by omega) (by omega), band_nat (by omega) (by omega), ← Int.natCast_add, wrap_u64_small (by omega)]
theorem stC (x : Nat) (hx : x + x / 16 < 18446744073709551616) : bitAnd .u64 (IntKind.u64.wrap ((x : Int).fdiv (2 ^ min 4 64) + (x : Int))) 1085102592571150095 = ((x / 16 + x &&& m2 : Nat) : Int) := by
  rw [shr64 x 4 (by decide), show 2 ^ 4 = 16 by rfl, ← Int.natCast_add, wrap_u64_small (by omega), show (1085102592571150095 : Int) = ((m2 : Nat) : Int) by rfl, band_nat (by omega) (by decide)]
theorem stD (x k : Nat) (hk : k ≤ 64) (hx : x + x / 2 ^ k < 18446744073709551616) : IntKind.u64.wrap ((x : Int) + (x : Int).fdiv (2 ^ min k 64)) = ((x + x / 2 ^ k : Nat) : Int) := by
  rw [shr64 x k hk, ← Int.natCast_add, wrap_u64_small hx]
theorem stE (x : Nat) (hx : x < 9223372036854775808) : bitAnd .i64 (IntKind.i64.wrap (x : Int)) 127 = ((x % 128 : Nat) : Int) := by
  rw [wrap_i64 (by omega) (by omega)]
  unfold bitAnd
  show IntKind.i64.wrap ((BitVec.ofInt 64 (x : Int) &&& BitVec.ofInt 64 ((127 : Nat) : Int)).toNat : Int) = _
  rw [BitVec.ofInt_natCast, BitVec.ofInt_natCast, BitVec.toNat_and, BitVec.toNat_ofNat, BitVec.toNat_ofNat, Nat.mod_eq_of_lt (by omega), Nat.mod_eq_of_lt (by decide), show (127 : Nat) = 2 ^ 7 - 1 by rfl, Nat.and_two_pow_sub_one_eq_mod]
  have := Nat.mod_lt x (show 0 < 2 ^ 7 by decide)
  rw [wrap_i64 (by omega) (by omega)]
theorem ones_ok {H : Heap} {x : B64} {K : Value → Heap → Prop} (hk : K (.int .i64 ((els x.toNat).length : Int)) H) : CallsH Tryd.prog 36 #[.int .u64 (x.toNat : Int)] H K := by
  have hx : x.toNat < 18446744073709551616 := x.isLt
  have hp := pop_eq x.toNat hx
  rw [cnt_els] at hp
  rw [← hp] at hk
  unfold pop at hk
  simp only [] at hk
  have M0 : m0 = 6148914691236517205 := rfl
  have M1 : m1 = 3689348814741910323 := rfl
  have M2 : m2 = 1085102592571150095 := rfl
  refine call36 (by simp) ?_
  simp only [Tryd.f36, Option.getD_some]
  repeat' (first
    | (with_reducible first | refine seq_normal ?_ | (refine hK _ _ ?_; clear hK K) | refine x_seq (fun K hK => ?_) | refine x_nil ?_ | refine x_block ?_ | refine x_skip ?_ | refine x_exit ?_ | refine x_ret ?_ | refine x_label ?_ | refine x_scope ?_ | (refine seq_ret ?_; clear hK K) | (refine seq_exit ?_; clear hK K) | refine block_normal ?_ | refine block_ret ?_ | refine block_exit ?_ | refine loop_exit ?_ | refine loop_ret ?_)
    | ((with_reducible refine x_reg_lit ?hq ?_); case hq => rfl)
    | ((first | (with_reducible first | refine x_op (fun K hK => ?_) | refine end_ret ?_ | refine end_normal ?_) | ((with_reducible refine x_guard_yes ?hy (fun K hK => ?_)); case hy => rfl)); simp only [go_sem, Int.cast_ofNat_Int, Nat.reduceEqDiff, Nat.reduceAdd, Nat.reduceMul, Nat.reduceLeDiff, Nat.reduceLT, Int.reduceLT, Int.reduceLE, Int.reduceEq, Int.reduceNeg, Int.reduceToNat, Nat.reducePow, reduceIte, reduceCtorEq])
    | ((with_reducible first | refine x_guard_no ?hy ?_ | refine x_cond_true ?hy ?_); case hy => rfl)
    | ((with_reducible first | refine x_guard_none ?hy ?_ | refine x_cond_false ?hy ?_); case hy => rfl)
    | ((with_reducible refine block_exit_ne ?hy ?_); case hy => decide))
  generalize x.toNat = y at *
  rw [stA y hx]
  have a1 := Nat.and_le_right (n := y / 2) (m := m0)
  have a2 := Nat.and_le_right (n := y) (m := m0)
  have a3 : (y / 2 &&& m0) + (y &&& m0) ≤ 12297829382473034410 := by omega
  clear a1 a2
  generalize (y / 2 &&& m0) + (y &&& m0) = a at *
  rw [stB a (by omega)]
  have b1 := Nat.and_le_right (n := a / 4) (m := m1)
  have b2 := Nat.and_le_right (n := a) (m := m1)
  generalize hb : (a / 4 &&& m1) + (a &&& m1) = b at *
  have hb' : b ≤ 7378697629483820646 := by omega
  clear hb
  rw [stC b (by omega)]
  have c1 := Nat.and_le_right (n := b / 16 + b) (m := m2)
  generalize (b / 16 + b &&& m2) = c at *
  have d8 := stD c 8 (by decide) (by rw [show 2 ^ 8 = 256 by rfl]; omega)
  rw [d8]
  have d1 : c + c / 2 ^ 8 ≤ 2170205185142300190 := by rw [show 2 ^ 8 = 256 by rfl]; omega
  rw [show c / 256 = c / 2 ^ 8 by rfl] at hk
  generalize c + c / 2 ^ 8 = d at *
  have d16 := stD d 16 (by decide) (by rw [show 2 ^ 16 = 65536 by rfl]; omega)
  rw [d16]
  have e1 : d + d / 2 ^ 16 ≤ 4340410370284600380 := by rw [show 2 ^ 16 = 65536 by rfl]; omega
  rw [show d / 65536 = d / 2 ^ 16 by rfl] at hk
  generalize d + d / 2 ^ 16 = e at *
  have d32 := stD e 32 (by decide) (by rw [show 2 ^ 32 = 4294967296 by rfl]; omega)
  rw [d32]
  rw [show e / 4294967296 = e / 2 ^ 32 by rfl] at hk
  rw [stE _ (by rw [show 2 ^ 32 = 4294967296 by rfl]; omega)]
  exact hk
theorem len_ok {H : Heap} {x : B64} {K : Value → Heap → Prop} (hk : ∀ H', Fr (fun _ => False) H H' → K (.int .i64 ((els x.toNat).length : Int)) H') : CallsH Tryd.prog 16 #[sv x] H K := by
  unfold sv
  refine call16 (by simp) ?_
  simp only [Tryd.f16, Option.getD_some]
  repeat' (first
    | (with_reducible first | refine seq_normal ?_ | (refine hK _ _ ?_; clear hK K) | refine x_seq (fun K hK => ?_) | refine x_nil ?_ | refine x_block ?_ | refine x_skip ?_ | refine x_exit ?_ | refine x_ret ?_ | refine x_label ?_ | refine x_scope ?_ | (refine seq_ret ?_; clear hK K) | (refine seq_exit ?_; clear hK K) | refine block_normal ?_ | refine block_ret ?_ | refine block_exit ?_ | refine loop_exit ?_ | refine loop_ret ?_)
    | ((with_reducible refine x_reg_lit ?hq ?_); case hq => rfl)
    | ((first | (with_reducible first | refine x_op (fun K hK => ?_) | refine end_ret ?_ | refine end_normal ?_) | ((with_reducible refine x_guard_yes ?hy (fun K hK => ?_)); case hy => rfl)); simp only [go_sem, Int.cast_ofNat_Int, Nat.reduceEqDiff, Nat.reduceAdd, Nat.reduceMul, Nat.reduceLeDiff, Nat.reduceLT, Int.reduceLT, Int.reduceLE, Int.reduceEq, Int.reduceNeg, Int.reduceToNat, Nat.reducePow, reduceIte, reduceCtorEq, hcell_push, hcell_top, okW_push, okW_top, hcell_hset_ne, hcell_hset_off, hcell_hset_eq, okW_hset, hset_size, Array.size_push, Nat.lt_add_one, ne_add_one, add_one_ne, Nat.add_assoc, add_same, add_lt_same, Nat.reduceEqDiff, lt_add_k, add_k_ne, ne_add_k])
    | ((with_reducible first | refine x_guard_no ?hy ?_ | refine x_cond_true ?hy ?_); case hy => rfl)
    | ((with_reducible first | refine x_guard_none ?hy ?_ | refine x_cond_false ?hy ?_); case hy => rfl)
    | ((with_reducible refine block_exit_ne ?hy ?_); case hy => decide))
  refine ones_ok ?_
  repeat' (first
    | (with_reducible first | refine seq_normal ?_ | (refine hK _ _ ?_; clear hK K) | refine x_seq (fun K hK => ?_) | refine x_nil ?_ | refine x_block ?_ | refine x_skip ?_ | refine x_exit ?_ | refine x_ret ?_ | refine x_label ?_ | refine x_scope ?_ | (refine seq_ret ?_; clear hK K) | (refine seq_exit ?_; clear hK K) | refine block_normal ?_ | refine block_ret ?_ | refine block_exit ?_ | refine loop_exit ?_ | refine loop_ret ?_)
    | ((with_reducible refine x_reg_lit ?hq ?_); case hq => rfl)
    | ((first | (with_reducible first | refine x_op (fun K hK => ?_) | refine end_ret ?_ | refine end_normal ?_) | ((with_reducible refine x_guard_yes ?hy (fun K hK => ?_)); case hy => rfl)); simp only [go_sem, Int.cast_ofNat_Int, Nat.reduceEqDiff, Nat.reduceAdd, Nat.reduceMul, Nat.reduceLeDiff, Nat.reduceLT, Int.reduceLT, Int.reduceLE, Int.reduceEq, Int.reduceNeg, Int.reduceToNat, Nat.reducePow, reduceIte, reduceCtorEq])
    | ((with_reducible first | refine x_guard_no ?hy ?_ | refine x_cond_true ?hy ?_); case hy => rfl)
    | ((with_reducible first | refine x_guard_none ?hy ?_ | refine x_cond_false ?hy ?_); case hy => rfl)
    | ((with_reducible refine block_exit_ne ?hy ?_); case hy => decide))
  exact hk _ (by ((repeat (first | refine Fr.set ?_ (by simp) _ | refine Fr.push ?_ _)); exact Fr.refl _ _))
/-- The library's table in its variable. -/
def TabH (H : Heap) : Prop := ∀ j k : Nat, tab64[j]? = some k → hcell H ⟨0, j, none⟩ = some (.int .u8 (k : Int))
theorem TabH.frame {H H' : Heap} (h : TabH H) (hf : Fr (fun _ => False) H H') : TabH H' := fun j k hj => by
  rw [hf.cell (hcell_lt (h j k hj)) (fun h => h)]; exact h j k hj
theorem tz_idx (q : Nat) : (IntKind.u64.wrap ((q : Int) * 285870213051353865)).fdiv (2 ^ min 58 64) = ((q * 285870213051353865 % 18446744073709551616 / 288230376151711744 : Nat) : Int) := by
  have e : (q : Int) * 285870213051353865 = ((q * 285870213051353865 : Nat) : Int) := (Int.natCast_mul q 285870213051353865).symm
  have e2 : 2 ^ 58 = 288230376151711744 := by decide
  rw [e, wrap_u64_nat, shr64 _ 58 (by decide), e2]
theorem tz_place (k : Nat) : (IntKind.u64.wrap (((2 ^ k : Nat) : Int) * 285870213051353865)).fdiv (2 ^ min 58 64) = ((place k : Nat) : Int) := by
  rw [tz_idx]; unfold place; rfl
theorem tz_walk {H : Heap} {X N A : Int} {p k : Nat} {K : Value → Heap → Prop} (z : (X == 0) = false) (en : IntKind.u64.wrap (0 - X) = N) (ea : bitAnd .u64 X N = A)
    (em : (IntKind.u64.wrap (A * 285870213051353865)).fdiv (2 ^ min 58 64) = (p : Int)) (hlt : ((p : Int) < 64) = True) (c : hcell H ⟨0, p, none⟩ = some (.int .u8 (k : Int))) (ew : IntKind.i64.wrap (k : Int) = (k : Int))
    (hk : K (.int .i64 (k : Int)) H) : CallsH Tryd.prog 35 #[.int .u64 X] H K := by
  refine call35 (by simp) ?_
  simp only [Tryd.f35, Option.getD_some]
  repeat' (first
    | (with_reducible first | refine seq_normal ?_ | (refine hK _ _ ?_; clear hK K) | refine x_seq (fun K hK => ?_) | refine x_nil ?_ | refine x_block ?_ | refine x_skip ?_ | refine x_exit ?_ | refine x_ret ?_ | refine x_label ?_ | refine x_scope ?_ | (refine seq_ret ?_; clear hK K) | (refine seq_exit ?_; clear hK K) | refine block_normal ?_ | refine block_ret ?_ | refine block_exit ?_ | refine loop_exit ?_ | refine loop_ret ?_)
    | ((with_reducible refine x_reg_lit ?hq ?_); case hq => rfl)
    | ((first | (with_reducible first | refine x_op (fun K hK => ?_) | refine end_ret ?_ | refine end_normal ?_) | ((with_reducible refine x_guard_yes ?hy (fun K hK => ?_)); case hy => rfl)); simp only [go_sem, Int.cast_ofNat_Int, Nat.reduceEqDiff, Nat.reduceAdd, Nat.reduceMul, Nat.reduceLeDiff, Nat.reduceLT, Int.reduceLT, Int.reduceLE, Int.reduceEq, Int.reduceNeg, Int.reduceToNat, Nat.reducePow, reduceIte, reduceCtorEq, z, en, ea, em, hlt, c, ew])
    | ((with_reducible first | refine x_guard_no ?hy ?_ | refine x_cond_true ?hy ?_); case hy => rfl)
    | ((with_reducible first | refine x_guard_none ?hy ?_ | refine x_cond_false ?hy ?_); case hy => rfl)
    | ((with_reducible refine block_exit_ne ?hy ?_); case hy => decide))
  exact hk
theorem tz_ok {H : Heap} {x : Nat} {K : Value → Heap → Prop} (hT : TabH H) (h0 : x ≠ 0) (hx : x < 18446744073709551616) (hk : K (.int .i64 (ctz x : Int)) H) : CallsH Tryd.prog 35 #[.int .u64 (x : Int)] H K := by
  obtain ⟨h1, h2⟩ := lowest x h0 hx
  generalize ctz x = k at *
  obtain ⟨h3, h4⟩ := tab64_at _ h2
  have c := hT _ _ h4
  refine tz_walk (N := ((18446744073709551616 - x : Nat) : Int)) (A := ((2 ^ k : Nat) : Int)) (by simp; omega) ?_ ?_ (tz_place k) (by simp; omega) c ?_ hk
  · rw [wrap_u64i]; omega
  · rw [band_nat hx (by omega), h1]
  · rw [wrap_i64] <;> omega
theorem next_ok {H : Heap} {x : B64} {n : Int} {K : Value → Heap → Prop} (hT : TabH H) (hk : ∀ H', Fr (fun _ => False) H H' → K (.int .i64 (nextQ x.toNat n)) H') : CallsH Tryd.prog 14 #[sv x, .int .i64 n] H K := by
  have hx : x.toNat < 18446744073709551616 := x.isLt
  unfold sv
  refine call14 (by simp) ?_
  simp only [Tryd.f14, Option.getD_some]
  have em : (if n < 0 then 0 else n) = (n.toNat : Int) := by split <;> omega
  unfold nextQ at hk
  generalize n.toNat = m at *
  by_cases hm : m < 64
  · have t1 : (64 ≤ (m : Int)) = False := by simp; omega
    have ew : IntKind.u64.wrap (m : Int) = (m : Int) := wrap_u64_small (by omega)
    have es := shr64 x.toNat m (by omega)
    have e0 : (0 : Int) ≤ (m : Int) := by omega
    by_cases h0 : x.toNat / 2 ^ m = 0
    · rw [elsF_nil _ _ h0] at hk
      have z : (((x.toNat / 2 ^ m : Nat) : Int) == 0) = true := by rw [h0]; rfl
      repeat' (first
        | (with_reducible first | refine seq_normal ?_ | (refine hK _ _ ?_; clear hK K) | refine x_seq (fun K hK => ?_) | refine x_nil ?_ | refine x_block ?_ | refine x_skip ?_ | refine x_exit ?_ | refine x_ret ?_ | refine x_label ?_ | refine x_scope ?_ | (refine seq_ret ?_; clear hK K) | (refine seq_exit ?_; clear hK K) | refine block_normal ?_ | refine block_ret ?_ | refine block_exit ?_ | refine loop_exit ?_ | refine loop_ret ?_)
        | ((with_reducible refine x_reg_lit ?hq ?_); case hq => rfl)
        | ((first | (with_reducible first | refine x_op (fun K hK => ?_) | refine end_ret ?_ | refine end_normal ?_) | ((with_reducible refine x_guard_yes ?hy (fun K hK => ?_)); case hy => rfl)); simp only [go_sem, Int.cast_ofNat_Int, Nat.reduceEqDiff, Nat.reduceAdd, Nat.reduceMul, Nat.reduceLeDiff, Nat.reduceLT, Int.reduceLT, Int.reduceLE, Int.reduceEq, Int.reduceNeg, Int.reduceToNat, Nat.reducePow, reduceIte, reduceCtorEq, em, t1, hcell_push, hcell_top, okW_push, okW_top, hcell_hset_ne, hcell_hset_off, hcell_hset_eq, okW_hset, hset_size, Array.size_push, Nat.lt_add_one, ne_add_one, add_one_ne, Nat.add_assoc, add_same, add_lt_same, Nat.reduceEqDiff, lt_add_k, add_k_ne, ne_add_k, ew, es, e0, bits_u64, z])
        | ((with_reducible first | refine x_guard_no ?hy ?_ | refine x_cond_true ?hy ?_); case hy => rfl)
        | ((with_reducible first | refine x_guard_none ?hy ?_ | refine x_cond_false ?hy ?_); case hy => rfl)
        | ((with_reducible refine block_exit_ne ?hy ?_); case hy => decide))
      exact hk _ (by ((repeat (first | refine Fr.set ?_ (by simp) _ | refine Fr.push ?_ _)); exact Fr.refl _ _))
    · obtain ⟨h1, h2⟩ := elsF_ctz _ _ hm hx h0
      rw [h1] at hk
      have z : (((x.toNat / 2 ^ m : Nat) : Int) == 0) = false := by simp only [beq_eq_false_iff_ne, ne_eq]; omega
      repeat' (first
        | (with_reducible first | refine seq_normal ?_ | (refine hK _ _ ?_; clear hK K) | refine x_seq (fun K hK => ?_) | refine x_nil ?_ | refine x_block ?_ | refine x_skip ?_ | refine x_exit ?_ | refine x_ret ?_ | refine x_label ?_ | refine x_scope ?_ | (refine seq_ret ?_; clear hK K) | (refine seq_exit ?_; clear hK K) | refine block_normal ?_ | refine block_ret ?_ | refine block_exit ?_ | refine loop_exit ?_ | refine loop_ret ?_)
        | ((with_reducible refine x_reg_lit ?hq ?_); case hq => rfl)
        | ((first | (with_reducible first | refine x_op (fun K hK => ?_) | refine end_ret ?_ | refine end_normal ?_) | ((with_reducible refine x_guard_yes ?hy (fun K hK => ?_)); case hy => rfl)); simp only [go_sem, Int.cast_ofNat_Int, Nat.reduceEqDiff, Nat.reduceAdd, Nat.reduceMul, Nat.reduceLeDiff, Nat.reduceLT, Int.reduceLT, Int.reduceLE, Int.reduceEq, Int.reduceNeg, Int.reduceToNat, Nat.reducePow, reduceIte, reduceCtorEq, em, t1, hcell_push, hcell_top, okW_push, okW_top, hcell_hset_ne, hcell_hset_off, hcell_hset_eq, okW_hset, hset_size, Array.size_push, Nat.lt_add_one, ne_add_one, add_one_ne, Nat.add_assoc, add_same, add_lt_same, Nat.reduceEqDiff, lt_add_k, add_k_ne, ne_add_k, ew, es, e0, bits_u64, z])
        | ((with_reducible first | refine x_guard_no ?hy ?_ | refine x_cond_true ?hy ?_); case hy => rfl)
        | ((with_reducible first | refine x_guard_none ?hy ?_ | refine x_cond_false ?hy ?_); case hy => rfl)
        | ((with_reducible refine block_exit_ne ?hy ?_); case hy => decide))
      refine tz_ok (hT.frame (by ((repeat (first | refine Fr.set ?_ (by simp) _ | refine Fr.push ?_ _)); exact Fr.refl _ _))) h0 (Nat.lt_of_le_of_lt (Nat.div_le_self _ _) hx) ?_
      have e3 : IntKind.i64.wrap ((m : Int) + (ctz (x.toNat / 2 ^ m) : Int)) = ((m + ctz (x.toNat / 2 ^ m) : Nat) : Int) := by rw [wrap_i64] <;> omega
      repeat' (first
        | (with_reducible first | refine seq_normal ?_ | (refine hK _ _ ?_; clear hK K) | refine x_seq (fun K hK => ?_) | refine x_nil ?_ | refine x_block ?_ | refine x_skip ?_ | refine x_exit ?_ | refine x_ret ?_ | refine x_label ?_ | refine x_scope ?_ | (refine seq_ret ?_; clear hK K) | (refine seq_exit ?_; clear hK K) | refine block_normal ?_ | refine block_ret ?_ | refine block_exit ?_ | refine loop_exit ?_ | refine loop_ret ?_)
        | ((with_reducible refine x_reg_lit ?hq ?_); case hq => rfl)
        | ((first | (with_reducible first | refine x_op (fun K hK => ?_) | refine end_ret ?_ | refine end_normal ?_) | ((with_reducible refine x_guard_yes ?hy (fun K hK => ?_)); case hy => rfl)); simp only [go_sem, Int.cast_ofNat_Int, Nat.reduceEqDiff, Nat.reduceAdd, Nat.reduceMul, Nat.reduceLeDiff, Nat.reduceLT, Int.reduceLT, Int.reduceLE, Int.reduceEq, Int.reduceNeg, Int.reduceToNat, Nat.reducePow, reduceIte, reduceCtorEq, e3])
        | ((with_reducible first | refine x_guard_no ?hy ?_ | refine x_cond_true ?hy ?_); case hy => rfl)
        | ((with_reducible first | refine x_guard_none ?hy ?_ | refine x_cond_false ?hy ?_); case hy => rfl)
        | ((with_reducible refine block_exit_ne ?hy ?_); case hy => decide))
      exact hk _ (by ((repeat (first | refine Fr.set ?_ (by simp) _ | refine Fr.push ?_ _)); exact Fr.refl _ _))
  · have t1 : (64 ≤ (m : Int)) = True := by simp; omega
    rw [elsF_end _ _ (by omega)] at hk
    repeat' (first
      | (with_reducible first | refine seq_normal ?_ | (refine hK _ _ ?_; clear hK K) | refine x_seq (fun K hK => ?_) | refine x_nil ?_ | refine x_block ?_ | refine x_skip ?_ | refine x_exit ?_ | refine x_ret ?_ | refine x_label ?_ | refine x_scope ?_ | (refine seq_ret ?_; clear hK K) | (refine seq_exit ?_; clear hK K) | refine block_normal ?_ | refine block_ret ?_ | refine block_exit ?_ | refine loop_exit ?_ | refine loop_ret ?_)
      | ((with_reducible refine x_reg_lit ?hq ?_); case hq => rfl)
      | ((first | (with_reducible first | refine x_op (fun K hK => ?_) | refine end_ret ?_ | refine end_normal ?_) | ((with_reducible refine x_guard_yes ?hy (fun K hK => ?_)); case hy => rfl)); simp only [go_sem, Int.cast_ofNat_Int, Nat.reduceEqDiff, Nat.reduceAdd, Nat.reduceMul, Nat.reduceLeDiff, Nat.reduceLT, Int.reduceLT, Int.reduceLE, Int.reduceEq, Int.reduceNeg, Int.reduceToNat, Nat.reducePow, reduceIte, reduceCtorEq, em, t1])
      | ((with_reducible first | refine x_guard_no ?hy ?_ | refine x_cond_true ?hy ?_); case hy => rfl)
      | ((with_reducible first | refine x_guard_none ?hy ?_ | refine x_cond_false ?hy ?_); case hy => rfl)
      | ((with_reducible refine block_exit_ne ?hy ?_); case hy => decide))
    exact hk _ (by ((repeat (first | refine Fr.set ?_ (by simp) _ | refine Fr.push ?_ _)); exact Fr.refl _ _))
end Go.Proofs.YtdhepjcdlkahnaaDoor
