/-
  VsetPlays returns true, whatever it is given, and writes nothing that was there.
-/
import Derived.Test.YtdhepjcdlkahnaaDoorVsZ
namespace Go.Proofs.YtdhepjcdlkahnaaDoor
open Go Go.Hp Go.Vs
set_option linter.all false
set_option maxRecDepth 100000
set_option maxHeartbeats 1600000

/-- A script that came in. -/
def InVOps (H : Heap) (a : Option Addr) (len : Nat) (z : Nat → Unit) : Prop :=
  ∀ i, i < len → ∃ (b o : Nat) (kd s t n : Int) (la : Option Addr) (ln lc : Nat) (zs : Nat → Int), a = some ⟨b, o, none⟩ ∧
    Cells [(b, o + i * 5, .int .i64 kd), (b, o + i * 5 + 1, .int .i64 s), (b, o + i * 5 + 2, .int .i64 t), (b, o + i * 5 + 3, .int .i64 n), (b, o + i * 5 + 4, .slice la ln lc)] H ∧ Fit s ∧ Fit t ∧ Fit n ∧ InInts H la ln zs ∧ 2 * (ln + 1) * 8 ≤ 2 ^ 48
theorem InVOps.frame {H H' : Heap} {a : Option Addr} {len : Nat} {z : Nat → Unit} (h : InVOps H a len z) (hf : Fr (fun _ => False) H H') : InVOps H' a len z := fun i hi => by
  obtain ⟨b, o, kd, s, t, n, la, ln, lc, zs, h1, h2, h3, h4, h5, h6, h7⟩ := h i hi
  exact ⟨b, o, kd, s, t, n, la, ln, lc, zs, h1, h2.grow hf, h3, h4, h5, h6.frame hf, h7⟩
def z4 : List B64 := [0#64, 0#64, 0#64, 0#64]
def book0 : Value := .agg (bookL z4 z4 (.slice none 0 0) (.slice none 0 0)).toArray
@[go_sem] theorem tlBook : tl Tryd.prog 46 = some ⟨.struct, 262, 336, book0⟩ := by kernel_rfl
@[go_sem] theorem book_match : Value.cells.match_1 (fun _ => Array Value) book0 (fun cs => cs) (fun v => #[v]) = (bookL z4 z4 (.slice none 0 0) (.slice none 0 0)).toArray := rfl
@[go_sem] theorem book_fold : Value.agg (bookL z4 z4 (.slice none 0 0) (.slice none 0 0)).toArray = book0 := rfl
theorem playsLoop {H0 H : Heap} {e : Env} {Q : HX → Env → Heap → Prop} {bk : Nat} {xs : List B64} {L : List (List Int)} {a : Option Addr} {len cap : Nat} {z : Nat → Unit} (hT : TabH H0) (hin : InVOps H0 a len z) (hl : len ≤ 9223372036854775807) (hF : FB H0 H bk xs L)
    (e0 : e 0 = .slice a len cap) (e4 : e 4 = .pointer (some ⟨bk, 0, none⟩)) (e5 : e 5 = .int .i64 0)
    (hQ : ∀ e' H' xs' L', e' 3 = e 3 → e' 4 = .pointer (some ⟨bk, 0, none⟩) → FB H0 H' bk xs' L' → Q .normal e' H') :
    codeX Tryd.prog [] (loopAt Tryd.f4.body 0) (blockQ 0 Q) e H := by
  refine x_loop (fun m e' H' => ∃ (i : Nat) (xs' : List B64) (L' : List (List Int)), e' 5 = .int .i64 (i : Int) ∧ FB H0 H' bk xs' L' ∧ i ≤ len ∧ m = len - i) len ⟨0, xs, L, e5, hF, by omega, rfl⟩ ?_
  rintro m e1 H1 ⟨i, xs1, L1, i5, hF1, hi, rfl⟩ hoff
  have i0 := (hoff 0 rfl).trans e0
  have i4 := (hoff 4 rfl).trans e4
  have i3 := hoff 3 rfl
  clear hoff
  by_cases hlt : i < len
  · have t1 : (i < len) = True := by simp [hlt]
    have ew : IntKind.i64.wrap ((i : Int) + 1) = ((i + 1 : Nat) : Int) := by rw [wrap_i64] <;> omega
    obtain ⟨b, o, kd, s, t, n, la, ln, lc, zs, rfl, hc, hs, ht, hn, hins, hsz⟩ := hin i hlt
    obtain ⟨k0, k1, k2, k3, k4, -⟩ := hc.grow hF1.fr
    repeat' (first
      | (with_reducible first | refine seq_normal ?_ | (refine hK _ _ ?_; clear hK K) | refine x_seq (fun K hK => ?_) | refine x_nil ?_ | refine x_block ?_ | refine x_skip ?_ | refine x_exit ?_ | refine x_ret ?_ | refine x_label ?_ | refine x_scope ?_ | (refine seq_ret ?_; clear hK K) | (refine seq_exit ?_; clear hK K) | refine block_normal ?_ | refine block_ret ?_ | refine block_exit ?_ | refine loop_exit ?_ | refine loop_ret ?_)
      | ((with_reducible refine x_reg_lit ?hq ?_); case hq => rfl)
      | ((first | (with_reducible first | refine x_op (fun K hK => ?_) | refine end_ret ?_ | refine end_normal ?_) | ((with_reducible refine x_guard_yes ?hy (fun K hK => ?_)); case hy => rfl)); simp only [go_sem, Int.cast_ofNat_Int, Nat.reduceEqDiff, Nat.reduceAdd, Nat.reduceMul, Nat.reduceLeDiff, Nat.reduceLT, Int.reduceLT, Int.reduceLE, Int.reduceEq, Int.reduceNeg, Int.reduceToNat, Nat.reducePow, reduceIte, reduceCtorEq, i0, i4, i5, t1, k0, k1, k2, k3, k4])
      | ((with_reducible first | refine x_guard_no ?hy ?_ | refine x_cond_true ?hy ?_); case hy => rfl)
      | ((with_reducible first | refine x_guard_none ?hy ?_ | refine x_cond_false ?hy ?_); case hy => rfl)
      | ((with_reducible refine block_exit_ne ?hy ?_); case hy => decide))
    refine makes_ok (kd := kd) (s := s) (t := t) (n := n) (la := la) (ln := ln) (lc := lc) hF1 hs ht (hins.frame hF1.fr) hsz fun H2 xs2 hF2 => ?_
    obtain ⟨k0, k1, k2, k3, k4, -⟩ := hc.grow hF2.fr
    repeat' (first
      | (with_reducible first | refine seq_normal ?_ | (refine hK _ _ ?_; clear hK K) | refine x_seq (fun K hK => ?_) | refine x_nil ?_ | refine x_block ?_ | refine x_skip ?_ | refine x_exit ?_ | refine x_ret ?_ | refine x_label ?_ | refine x_scope ?_ | (refine seq_ret ?_; clear hK K) | (refine seq_exit ?_; clear hK K) | refine block_normal ?_ | refine block_ret ?_ | refine block_exit ?_ | refine loop_exit ?_ | refine loop_ret ?_)
      | ((with_reducible refine x_reg_lit ?hq ?_); case hq => rfl)
      | ((first | (with_reducible first | refine x_op (fun K hK => ?_) | refine end_ret ?_ | refine end_normal ?_) | ((with_reducible refine x_guard_yes ?hy (fun K hK => ?_)); case hy => rfl)); simp only [go_sem, Int.cast_ofNat_Int, Nat.reduceEqDiff, Nat.reduceAdd, Nat.reduceMul, Nat.reduceLeDiff, Nat.reduceLT, Int.reduceLT, Int.reduceLE, Int.reduceEq, Int.reduceNeg, Int.reduceToNat, Nat.reducePow, reduceIte, reduceCtorEq, i0, i4, i5, t1, k0, k1, k2, k3, k4])
      | ((with_reducible first | refine x_guard_no ?hy ?_ | refine x_cond_true ?hy ?_); case hy => rfl)
      | ((with_reducible first | refine x_guard_none ?hy ?_ | refine x_cond_false ?hy ?_); case hy => rfl)
      | ((with_reducible refine block_exit_ne ?hy ?_); case hy => decide))
    refine asks_ok (kd := kd) (s := s) (t := t) (n := n) (la := la) (ln := ln) (lc := lc) hT hF2 hs ht hn fun H3 L3 hF3 => ?_
    repeat' (first
      | (with_reducible first | refine seq_normal ?_ | (refine hK _ _ ?_; clear hK K) | refine x_seq (fun K hK => ?_) | refine x_nil ?_ | refine x_block ?_ | refine x_skip ?_ | refine x_exit ?_ | refine x_ret ?_ | refine x_label ?_ | refine x_scope ?_ | (refine seq_ret ?_; clear hK K) | (refine seq_exit ?_; clear hK K) | refine block_normal ?_ | refine block_ret ?_ | refine block_exit ?_ | refine loop_exit ?_ | refine loop_ret ?_)
      | ((with_reducible refine x_reg_lit ?hq ?_); case hq => rfl)
      | ((first | (with_reducible first | refine x_op (fun K hK => ?_) | refine end_ret ?_ | refine end_normal ?_) | ((with_reducible refine x_guard_yes ?hy (fun K hK => ?_)); case hy => rfl)); simp only [go_sem, Int.cast_ofNat_Int, Nat.reduceEqDiff, Nat.reduceAdd, Nat.reduceMul, Nat.reduceLeDiff, Nat.reduceLT, Int.reduceLT, Int.reduceLE, Int.reduceEq, Int.reduceNeg, Int.reduceToNat, Nat.reducePow, reduceIte, reduceCtorEq, i5, ew])
      | ((with_reducible first | refine x_guard_no ?hy ?_ | refine x_cond_true ?hy ?_); case hy => rfl)
      | ((with_reducible first | refine x_guard_none ?hy ?_ | refine x_cond_false ?hy ?_); case hy => rfl)
      | ((with_reducible refine block_exit_ne ?hy ?_); case hy => decide))
    refine loop_normal (m' := len - (i + 1)) (by omega) ⟨i + 1, xs2, L3, rfl, hF3, hlt, rfl⟩
  · have t1 : (i < len) = False := by simp [hlt]
    repeat' (first
      | (with_reducible first | refine seq_normal ?_ | (refine hK _ _ ?_; clear hK K) | refine x_seq (fun K hK => ?_) | refine x_nil ?_ | refine x_block ?_ | refine x_skip ?_ | refine x_exit ?_ | refine x_ret ?_ | refine x_label ?_ | refine x_scope ?_ | (refine seq_ret ?_; clear hK K) | (refine seq_exit ?_; clear hK K) | refine block_normal ?_ | refine block_ret ?_ | refine block_exit ?_ | refine loop_exit ?_ | refine loop_ret ?_)
      | ((with_reducible refine x_reg_lit ?hq ?_); case hq => rfl)
      | ((first | (with_reducible first | refine x_op (fun K hK => ?_) | refine end_ret ?_ | refine end_normal ?_) | ((with_reducible refine x_guard_yes ?hy (fun K hK => ?_)); case hy => rfl)); simp only [go_sem, Int.cast_ofNat_Int, Nat.reduceEqDiff, Nat.reduceAdd, Nat.reduceMul, Nat.reduceLeDiff, Nat.reduceLT, Int.reduceLT, Int.reduceLE, Int.reduceEq, Int.reduceNeg, Int.reduceToNat, Nat.reducePow, reduceIte, reduceCtorEq, i0, i5, t1])
      | ((with_reducible first | refine x_guard_no ?hy ?_ | refine x_cond_true ?hy ?_); case hy => rfl)
      | ((with_reducible first | refine x_guard_none ?hy ?_ | refine x_cond_false ?hy ?_); case hy => rfl)
      | ((with_reducible refine block_exit_ne ?hy ?_); case hy => decide))
    exact hQ _ _ xs1 L1 i3 i4 hF1
theorem vsetPlays {H : Heap} {a0 : Option Addr} {n0 c0 : Nat} {z0 : Nat → Unit} {K : Value → Heap → Prop} (hT : TabH H) (hin0 : InVOps H a0 n0 z0) (hl0 : n0 ≤ 9223372036854775807) (hk : ∀ H', Fr (fun _ => False) H H' → K (.bool true) H') :
    CallsH Tryd.prog 4 #[.slice a0 n0 c0] H K := by
  refine call4 (by simp) ?_
  simp only [Tryd.f4, Option.getD_some]
  repeat' (first
    | (with_reducible first | refine seq_normal ?_ | (refine hK _ _ ?_; clear hK K) | refine x_seq (fun K hK => ?_) | refine x_nil ?_ | refine x_block ?_ | refine x_skip ?_ | refine x_exit ?_ | refine x_ret ?_ | refine x_label ?_ | refine x_scope ?_ | (refine seq_ret ?_; clear hK K) | (refine seq_exit ?_; clear hK K) | refine block_normal ?_ | refine block_ret ?_ | refine block_exit ?_ | refine loop_exit ?_ | refine loop_ret ?_)
    | ((with_reducible refine x_reg_lit ?hq ?_); case hq => rfl)
    | ((first | (with_reducible first | refine x_op (fun K hK => ?_) | refine end_ret ?_ | refine end_normal ?_) | ((with_reducible refine x_guard_yes ?hy (fun K hK => ?_)); case hy => rfl)); simp only [go_sem, Int.cast_ofNat_Int, Nat.reduceEqDiff, Nat.reduceAdd, Nat.reduceMul, Nat.reduceLeDiff, Nat.reduceLT, Int.reduceLT, Int.reduceLE, Int.reduceEq, Int.reduceNeg, Int.reduceToNat, Nat.reducePow, reduceIte, reduceCtorEq])
    | ((with_reducible first | refine x_guard_no ?hy ?_ | refine x_cond_true ?hy ?_); case hy => rfl)
    | ((with_reducible first | refine x_guard_none ?hy ?_ | refine x_cond_false ?hy ?_); case hy => rfl)
    | ((with_reducible refine block_exit_ne ?hy ?_); case hy => decide))
  refine awake_ok hT fun H1 f1 => ?_
  repeat' (first
    | (with_reducible first | refine seq_normal ?_ | (refine hK _ _ ?_; clear hK K) | refine x_seq (fun K hK => ?_) | refine x_nil ?_ | refine x_block ?_ | refine x_skip ?_ | refine x_exit ?_ | refine x_ret ?_ | refine x_label ?_ | refine x_scope ?_ | (refine seq_ret ?_; clear hK K) | (refine seq_exit ?_; clear hK K) | refine block_normal ?_ | refine block_ret ?_ | refine block_exit ?_ | refine loop_exit ?_ | refine loop_ret ?_)
    | ((with_reducible refine x_reg_lit ?hq ?_); case hq => rfl)
    | ((first | (with_reducible first | refine x_op (fun K hK => ?_) | refine end_ret ?_ | refine end_normal ?_) | ((with_reducible refine x_guard_yes ?hy (fun K hK => ?_)); case hy => rfl)); simp only [go_sem, Int.cast_ofNat_Int, Nat.reduceEqDiff, Nat.reduceAdd, Nat.reduceMul, Nat.reduceLeDiff, Nat.reduceLT, Int.reduceLT, Int.reduceLE, Int.reduceEq, Int.reduceNeg, Int.reduceToNat, Nat.reducePow, reduceIte, reduceCtorEq])
    | ((with_reducible first | refine x_guard_no ?hy ?_ | refine x_cond_true ?hy ?_); case hy => rfl)
    | ((with_reducible first | refine x_guard_none ?hy ?_ | refine x_cond_false ?hy ?_); case hy => rfl)
    | ((with_reducible refine block_exit_ne ?hy ?_); case hy => decide))
  have f2 : Fr (fun _ => False) H (H1.push (.cells (bookL z4 z4 (.slice none 0 0) (.slice none 0 0)).toArray 46)) := f1.push _
  have hF : FB H (H1.push (.cells (bookL z4 z4 (.slice none 0 0) (.slice none 0 0)).toArray 46)) H1.size z4 [] :=
    ⟨⟨_, _, _, _, ⟨Blk.new H1 _ _, rfl, rfl⟩, LL.nil _ _, LL.nil _ _, fun b h => h.elim, fun b h => h.elim⟩, by simp, fun j zs h => by simp at h, f1.size, f2⟩
  refine playsLoop (bk := H1.size) (a := a0) (cap := c0) hT hin0 hl0 hF rfl rfl rfl fun e3 H3 xs3 L3 p3 p4 hF3 => ?_
  have r3 : e3 3 = .bool true := p3.trans rfl
  repeat' (first
    | (with_reducible first | refine seq_normal ?_ | (refine hK _ _ ?_; clear hK K) | refine x_seq (fun K hK => ?_) | refine x_nil ?_ | refine x_block ?_ | refine x_skip ?_ | refine x_exit ?_ | refine x_ret ?_ | refine x_label ?_ | refine x_scope ?_ | (refine seq_ret ?_; clear hK K) | (refine seq_exit ?_; clear hK K) | refine block_normal ?_ | refine block_ret ?_ | refine block_exit ?_ | refine loop_exit ?_ | refine loop_ret ?_)
    | ((with_reducible refine x_reg_lit ?hq ?_); case hq => rfl)
    | ((first | (with_reducible first | refine x_op (fun K hK => ?_) | refine end_ret ?_ | refine end_normal ?_) | ((with_reducible refine x_guard_yes ?hy (fun K hK => ?_)); case hy => rfl)); simp only [go_sem, Int.cast_ofNat_Int, Nat.reduceEqDiff, Nat.reduceAdd, Nat.reduceMul, Nat.reduceLeDiff, Nat.reduceLT, Int.reduceLT, Int.reduceLE, Int.reduceEq, Int.reduceNeg, Int.reduceToNat, Nat.reducePow, reduceIte, reduceCtorEq, p4])
    | ((with_reducible first | refine x_guard_no ?hy ?_ | refine x_cond_true ?hy ?_); case hy => rfl)
    | ((with_reducible first | refine x_guard_none ?hy ?_ | refine x_cond_false ?hy ?_); case hy => rfl)
    | ((with_reducible refine block_exit_ne ?hy ?_); case hy => decide))
  refine ends_ok hT hF3 fun H4 f4 => ?_
  repeat' (first
    | (with_reducible first | refine seq_normal ?_ | (refine hK _ _ ?_; clear hK K) | refine x_seq (fun K hK => ?_) | refine x_nil ?_ | refine x_block ?_ | refine x_skip ?_ | refine x_exit ?_ | refine x_ret ?_ | refine x_label ?_ | refine x_scope ?_ | (refine seq_ret ?_; clear hK K) | (refine seq_exit ?_; clear hK K) | refine block_normal ?_ | refine block_ret ?_ | refine block_exit ?_ | refine loop_exit ?_ | refine loop_ret ?_)
    | ((with_reducible refine x_reg_lit ?hq ?_); case hq => rfl)
    | ((first | (with_reducible first | refine x_op (fun K hK => ?_) | refine end_ret ?_ | refine end_normal ?_) | ((with_reducible refine x_guard_yes ?hy (fun K hK => ?_)); case hy => rfl)); simp only [go_sem, Int.cast_ofNat_Int, Nat.reduceEqDiff, Nat.reduceAdd, Nat.reduceMul, Nat.reduceLeDiff, Nat.reduceLT, Int.reduceLT, Int.reduceLE, Int.reduceEq, Int.reduceNeg, Int.reduceToNat, Nat.reducePow, reduceIte, reduceCtorEq, r3])
    | ((with_reducible first | refine x_guard_no ?hy ?_ | refine x_cond_true ?hy ?_); case hy => rfl)
    | ((with_reducible first | refine x_guard_none ?hy ?_ | refine x_cond_false ?hy ?_); case hy => rfl)
    | ((with_reducible refine block_exit_ne ?hy ?_); case hy => decide))
  exact hk _ f4
end Go.Proofs.YtdhepjcdlkahnaaDoor
