/-
  makes, kinds 2 and 3: With, Without.
-/
import Derived.Test.YtdhepjcdlkahnaaDoorVsR
import Derived.Test.YtdhepjcdlkahnaaDoorVsD
namespace Go.Proofs.YtdhepjcdlkahnaaDoor
open Go Go.Hp Go.Vs
set_option linter.all false
set_option maxRecDepth 100000
set_option maxHeartbeats 1600000

/-- One step, as it stands in the script. -/
def opV (kind s t n : Int) (la : Option Addr) (ln lc : Nat) : Value := .agg #[.int .i64 kind, .int .i64 s, .int .i64 t, .int .i64 n, .slice la ln lc]
def opL (kind s t n : Int) (la : Option Addr) (ln lc : Nat) : List Value := [.int .i64 kind, .int .i64 s, .int .i64 t, .int .i64 n, .slice la ln lc]
def MS (bk : Nat) (xs : List B64) (va vw : Value) (b3 : Nat) (ol : List Value) (H : Heap) : Prop := BK H bk xs xs va vw ∧ Blk H b3 ol
theorem MS.grow {bk b3 : Nat} {xs : List B64} {va vw : Value} {ol : List Value} {H H' : Heap} (h : MS bk xs va vw b3 ol H) (hf : Fr (fun _ => False) H H') : MS bk xs va vw b3 ol H' := ⟨h.1.frame hf (fun h => h), h.2.frame hf (fun h => h)⟩
theorem dwith_on (x : B64) (n : Int) : dwithQ x n true = withQ x n := by unfold dwithQ withQ; rfl
theorem dwith_off (x : B64) (n : Int) : dwithQ x n false = withoutQ x n := by unfold dwithQ withoutQ; rfl
theorem with_cases (x : B64) (n : Int) : (withQ x n).2 = 0 ∨ ((withQ x n).2 = 1 ∧ (withQ x n).1 = 0#64) := by unfold withQ; cases okN n <;> simp
theorem without_cases (x : B64) (n : Int) : (withoutQ x n).2 = 0 ∨ ((withoutQ x n).2 = 1 ∧ (withoutQ x n).1 = 0#64) := by unfold withoutQ; cases okN n <;> simp
theorem pick4 (s : Int) : ∃ i : Nat, pickN s 4 = (i : Int) ∧ i < 4 := by
  obtain ⟨h0, h1⟩ := pickN_range s (n := 4) (by decide)
  exact ⟨(pickN s 4).toNat, by omega, by omega⟩
def Fit (x : Int) : Prop := -9223372036854775808 ≤ x ∧ x ≤ 9223372036854775807
theorem x_env {P : Program} {qs : List Nat} {c : Code} {Q : HX → Env → Heap → Prop} {e : Env} {H : Heap} (h : ∀ e', e' = e → codeX P qs c Q e' H) : codeX P qs c Q e H := h e rfl
theorem dwith_ok_on {H : Heap} {x : B64} {n : Int} {K : Value → Heap → Prop} (hk : ∀ H', Fr (fun _ => False) H H' → K (.tuple #[dv (withQ x n).1, .int .i64 (withQ x n).2]) H') : CallsH Tryd.prog 39 #[dv x, .int .i64 n, .bool true] H K := by
  rw [← dwith_on] at hk; exact dwith_ok hk
theorem dwith_ok_off {H : Heap} {x : B64} {n : Int} {K : Value → Heap → Prop} (hk : ∀ H', Fr (fun _ => False) H H' → K (.tuple #[dv (withoutQ x n).1, .int .i64 (withoutQ x n).2]) H') : CallsH Tryd.prog 39 #[dv x, .int .i64 n, .bool false] H K := by
  rw [← dwith_off] at hk; exact dwith_ok hk
theorem makes2 {H : Heap} {bk : Nat} {xs : List B64} {va vw : Value} {s t n : Int} {la : Option Addr} {ln lc : Nat} {K : Value → Heap → Prop} (hB : BK H bk xs xs va vw) (hs : Fit s) (ht : Fit t)
    (hk : ∀ H' xs', BK H' bk xs' xs' va vw → Fr (· = bk) H H' → K (.bool true) H') : CallsH Tryd.prog 17 #[.pointer (some ⟨bk, 0, none⟩), opV 2 s t n la ln lc] H K := by
  have hs0 : ∀ y : B64, sv y = .agg #[.int .u64 (y.toNat : Int)] := fun _ => rfl
  obtain ⟨kind, hkind⟩ : ∃ z : Int, z = 2 := ⟨_, rfl⟩
  obtain ⟨i, ei, hi⟩ := pick4 s
  obtain ⟨k, ek, hk4⟩ := pick4 t
  obtain ⟨x, hx⟩ : ∃ x, xs[i]? = some x := ⟨_, List.getElem?_eq_getElem (by rw [hB.lx]; exact hi)⟩
  have hlt := hB.b.lt
  unfold opV
  refine call17 (by simp) ?_
  simp only [Tryd.f17, Option.getD_some]
  repeat' (first
    | (with_reducible first | refine seq_normal ?_ | (refine hK _ _ ?_; clear hK K) | refine x_seq (fun K hK => ?_) | refine x_nil ?_ | refine x_block ?_ | refine x_skip ?_ | refine x_exit ?_ | refine x_ret ?_ | refine x_label ?_ | refine x_scope ?_ | (refine seq_ret ?_; clear hK K) | (refine seq_exit ?_; clear hK K) | refine block_normal ?_ | refine block_ret ?_ | refine block_exit ?_ | refine loop_exit ?_ | refine loop_ret ?_)
    | ((with_reducible refine x_reg_lit ?hq ?_); case hq => rfl)
    | ((first | (with_reducible first | refine x_op (fun K hK => ?_) | refine end_ret ?_ | refine end_normal ?_) | ((with_reducible refine x_guard_yes ?hy (fun K hK => ?_)); case hy => rfl)); simp only [go_sem, Int.cast_ofNat_Int, Nat.reduceEqDiff, Nat.reduceAdd, Nat.reduceMul, Nat.reduceLeDiff, Nat.reduceLT, Int.reduceLT, Int.reduceLE, Int.reduceEq, Int.reduceNeg, Int.reduceToNat, Nat.reducePow, reduceIte, reduceCtorEq, hcell_push, hcell_top, okW_push, okW_top, hcell_hset_ne, hcell_hset_off, hcell_hset_eq, okW_hset, hset_size, Array.size_push, Nat.lt_add_one, ne_add_one, add_one_ne, Nat.add_assoc, add_same, add_lt_same, Nat.reduceEqDiff, lt_add_k, add_k_ne, ne_add_k])
    | ((with_reducible first | refine x_guard_no ?hy ?_ | refine x_cond_true ?hy ?_); case hy => rfl)
    | ((with_reducible first | refine x_guard_none ?hy ?_ | refine x_cond_false ?hy ?_); case hy => rfl)
    | ((with_reducible refine block_exit_ne ?hy ?_); case hy => decide))
  refine Pkisthmuslaw09.pick_ok hs.1 hs.2 (by decide) ?_
  rw [ei]
  repeat' (first
    | (with_reducible first | refine seq_normal ?_ | (refine hK _ _ ?_; clear hK K) | refine x_seq (fun K hK => ?_) | refine x_nil ?_ | refine x_block ?_ | refine x_skip ?_ | refine x_exit ?_ | refine x_ret ?_ | refine x_label ?_ | refine x_scope ?_ | (refine seq_ret ?_; clear hK K) | (refine seq_exit ?_; clear hK K) | refine block_normal ?_ | refine block_ret ?_ | refine block_exit ?_ | refine loop_exit ?_ | refine loop_ret ?_)
    | ((with_reducible refine x_reg_lit ?hq ?_); case hq => rfl)
    | ((first | (with_reducible first | refine x_op (fun K hK => ?_) | refine end_ret ?_ | refine end_normal ?_) | ((with_reducible refine x_guard_yes ?hy (fun K hK => ?_)); case hy => rfl)); simp only [go_sem, Int.cast_ofNat_Int, Nat.reduceEqDiff, Nat.reduceAdd, Nat.reduceMul, Nat.reduceLeDiff, Nat.reduceLT, Int.reduceLT, Int.reduceLE, Int.reduceEq, Int.reduceNeg, Int.reduceToNat, Nat.reducePow, reduceIte, reduceCtorEq, hcell_push, hcell_top, okW_push, okW_top, hcell_hset_ne, hcell_hset_off, hcell_hset_eq, okW_hset, hset_size, Array.size_push, Nat.lt_add_one, ne_add_one, add_one_ne, Nat.add_assoc, add_same, add_lt_same, Nat.reduceEqDiff, lt_add_k, add_k_ne, ne_add_k])
    | ((with_reducible first | refine x_guard_no ?hy ?_ | refine x_cond_true ?hy ?_); case hy => rfl)
    | ((with_reducible first | refine x_guard_none ?hy ?_ | refine x_cond_false ?hy ?_); case hy => rfl)
    | ((with_reducible refine block_exit_ne ?hy ?_); case hy => decide))
  refine Pkisthmuslaw09.pick_ok ht.1 ht.2 (by decide) ?_
  rw [ek]
  repeat' (first
    | (with_reducible first | refine seq_normal ?_ | (refine hK _ _ ?_; clear hK K) | refine x_seq (fun K hK => ?_) | refine x_nil ?_ | refine x_block ?_ | refine x_skip ?_ | refine x_exit ?_ | refine x_ret ?_ | refine x_label ?_ | refine x_scope ?_ | (refine seq_ret ?_; clear hK K) | (refine seq_exit ?_; clear hK K) | refine block_normal ?_ | refine block_ret ?_ | refine block_exit ?_ | refine loop_exit ?_ | refine loop_ret ?_)
    | ((with_reducible refine x_reg_lit ?hq ?_); case hq => rfl)
    | ((first | (with_reducible first | refine x_op (fun K hK => ?_) | refine end_ret ?_ | refine end_normal ?_) | ((with_reducible refine x_guard_yes ?hy (fun K hK => ?_)); case hy => rfl)); simp only [go_sem, Int.cast_ofNat_Int, Nat.reduceEqDiff, Nat.reduceAdd, Nat.reduceMul, Nat.reduceLeDiff, Nat.reduceLT, Int.reduceLT, Int.reduceLE, Int.reduceEq, Int.reduceNeg, Int.reduceToNat, Nat.reducePow, reduceIte, reduceCtorEq, hcell_push, hcell_top, okW_push, okW_top, hcell_hset_ne, hcell_hset_off, hcell_hset_eq, okW_hset, hset_size, Array.size_push, Nat.lt_add_one, ne_add_one, add_one_ne, Nat.add_assoc, add_same, add_lt_same, Nat.reduceEqDiff, lt_add_k, add_k_ne, ne_add_k])
    | ((with_reducible first | refine x_guard_no ?hy ?_ | refine x_cond_true ?hy ?_); case hy => rfl)
    | ((with_reducible first | refine x_guard_none ?hy ?_ | refine x_cond_false ?hy ?_); case hy => rfl)
    | ((with_reducible refine block_exit_ne ?hy ?_); case hy => decide))
  have f1 : Fr (fun _ => False) H (H.push (.cells #[.int .i64 2, .int .i64 s, .int .i64 t, .int .i64 n, .slice la ln lc] 49)) := (Fr.refl _ _).push _
  have q : MS bk xs va vw H.size (opL kind s t n la ln lc) (H.push (.cells #[.int .i64 2, .int .i64 s, .int .i64 t, .int .i64 n, .slice la ln lc] 49)) := ⟨hB.frame f1 (fun h => h), by subst hkind; exact Blk.new H _ _⟩
  have s1 := f1.size
  generalize H.push (.cells #[.int .i64 2, .int .i64 s, .int .i64 t, .int .i64 n, .slice la ln lc] 49) = H1 at q f1 s1 ⊢
  generalize hb3 : H.size = b3 at *
  have t4 : ((i : Int) < 4) = True := eq_true (by omega)
  have hltH1 : b3 < H1.size := q.2.lt
  refine x_env fun e1 he1 => ?_
  have j0 : e1 0 = .pointer (some ⟨bk, 0, none⟩) := by rw [he1]; rfl
  have j3 : e1 3 = .pointer (some ⟨b3, 0, none⟩) := by rw [he1]; rfl
  have j5 : e1 5 = .int .i64 (i : Int) := by rw [he1]; rfl
  clear he1
  have tailA : ∀ (e' : Env) (H' : Heap) (qq : Nat), e' 0 = e1 0 → e' 3 = e1 3 → e' 5 = e1 5 → e' 15 = .int .i64 (withQ x n).2 → e' 14 = .pointer (some ⟨qq, 0, none⟩) → H1.size ≤ qq → Blk H' qq [.int .u64 (((withQ x n).1).toNat : Int)] → Fr (fun _ => False) H1 H' → K e' H' := by
    intro e2 H2 q14 p0 p3 p5 p15 p14 hq14 b14 fA
    have r0 := p0.trans j0
    have r3 := p3.trans j3
    have r5 := p5.trans j5
    clear p0 p3 p5 j0 j3 j5
    have qA := q.grow fA
    have fA' := f1.trans fA
    clear q f1
    refine hK _ _ ?_
    clear hK K
    generalize hs1' : H1.size = z1 at *
    clear fA
    repeat' (first
      | (with_reducible first | refine seq_normal ?_ | (refine hK _ _ ?_; clear hK K) | refine x_seq (fun K hK => ?_) | refine x_nil ?_ | refine x_block ?_ | refine x_skip ?_ | refine x_exit ?_ | refine x_ret ?_ | refine x_label ?_ | refine x_scope ?_ | (refine seq_ret ?_; clear hK K) | (refine seq_exit ?_; clear hK K) | refine block_normal ?_ | refine block_ret ?_ | refine block_exit ?_ | refine loop_exit ?_ | refine loop_ret ?_)
      | ((with_reducible refine x_reg_lit ?hq ?_); case hq => rfl)
      | ((first | (with_reducible first | refine x_op (fun K hK => ?_) | refine end_ret ?_ | refine end_normal ?_) | ((with_reducible refine x_guard_yes ?hy (fun K hK => ?_)); case hy => rfl)); simp only [go_sem, Int.cast_ofNat_Int, Nat.reduceEqDiff, Nat.reduceAdd, Nat.reduceMul, Nat.reduceLeDiff, Nat.reduceLT, Int.reduceLT, Int.reduceLE, Int.reduceEq, Int.reduceNeg, Int.reduceToNat, Nat.reducePow, reduceIte, reduceCtorEq])
      | ((with_reducible first | refine x_guard_no ?hy ?_ | refine x_cond_true ?hy ?_); case hy => rfl)
      | ((with_reducible first | refine x_guard_none ?hy ?_ | refine x_cond_false ?hy ?_); case hy => rfl)
      | ((with_reducible refine block_exit_ne ?hy ?_); case hy => decide))
    have tailB : ∀ (e' : Env) (H' : Heap) (qq : Nat), e' 0 = e2 0 → e' 3 = e2 3 → e' 5 = e2 5 → e' 17 = .int .i64 (withQ x n).2 → e' 16 = .pointer (some ⟨qq, 0, none⟩) → e' 14 = e2 14 → e' 15 = e2 15 → H2.size ≤ qq → Blk H' qq (bools (withQ x n).1) → Fr (fun _ => False) H2 H' → K e' H' := by
      intro e3 H3 q16 s0 s3 s5 s17 s16 s14 s15 hq16 b16 fB
      have u0 := s0.trans r0
      have u5 := s5.trans r5
      have u14 := s14.trans p14
      have u15 := s15.trans p15
      have b14' := b14.frame fB (fun h => h)
      have c14 := b14'.cellOf (i := 0) rfl
      have hB3 := qA.1.frame fB (fun h => h)
      have fC := fA'.trans fB
      refine hK _ _ ?_
      clear hK K
      repeat' (first
        | (with_reducible first | refine seq_normal ?_ | (refine hK _ _ ?_; clear hK K) | refine x_seq (fun K hK => ?_) | refine x_nil ?_ | refine x_block ?_ | refine x_skip ?_ | refine x_exit ?_ | refine x_ret ?_ | refine x_label ?_ | refine x_scope ?_ | (refine seq_ret ?_; clear hK K) | (refine seq_exit ?_; clear hK K) | refine block_normal ?_ | refine block_ret ?_ | refine block_exit ?_ | refine loop_exit ?_ | refine loop_ret ?_)
        | ((with_reducible refine x_reg_lit ?hq ?_); case hq => rfl)
        | ((first | (with_reducible first | refine x_op (fun K hK => ?_) | refine end_ret ?_ | refine end_normal ?_) | ((with_reducible refine x_guard_yes ?hy (fun K hK => ?_)); case hy => rfl)); simp only [go_sem, Int.cast_ofNat_Int, Nat.reduceEqDiff, Nat.reduceAdd, Nat.reduceMul, Nat.reduceLeDiff, Nat.reduceLT, Int.reduceLT, Int.reduceLE, Int.reduceEq, Int.reduceNeg, Int.reduceToNat, Nat.reducePow, reduceIte, reduceCtorEq, u0, u5, u14, u15, s17, s16, c14])
        | ((with_reducible first | refine x_guard_no ?hy ?_ | refine x_cond_true ?hy ?_); case hy => rfl)
        | ((with_reducible first | refine x_guard_none ?hy ?_ | refine x_cond_false ?hy ?_); case hy => rfl)
        | ((with_reducible refine block_exit_ne ?hy ?_); case hy => decide))
      refine load64z b16 ?_
      simp only [dv_fold, ← hs0]
      repeat' (first
        | (with_reducible first | refine seq_normal ?_ | (refine hK _ _ ?_; clear hK K) | refine x_seq (fun K hK => ?_) | refine x_nil ?_ | refine x_block ?_ | refine x_skip ?_ | refine x_exit ?_ | refine x_ret ?_ | refine x_label ?_ | refine x_scope ?_ | (refine seq_ret ?_; clear hK K) | (refine seq_exit ?_; clear hK K) | refine block_normal ?_ | refine block_ret ?_ | refine block_exit ?_ | refine loop_exit ?_ | refine loop_ret ?_)
        | ((with_reducible refine x_reg_lit ?hq ?_); case hq => rfl)
        | ((first | (with_reducible first | refine x_op (fun K hK => ?_) | refine end_ret ?_ | refine end_normal ?_) | ((with_reducible refine x_guard_yes ?hy (fun K hK => ?_)); case hy => rfl)); simp only [go_sem, Int.cast_ofNat_Int, Nat.reduceEqDiff, Nat.reduceAdd, Nat.reduceMul, Nat.reduceLeDiff, Nat.reduceLT, Int.reduceLT, Int.reduceLE, Int.reduceEq, Int.reduceNeg, Int.reduceToNat, Nat.reducePow, reduceIte, reduceCtorEq, u0, u5, u14, u15, s17, s16, c14])
        | ((with_reducible first | refine x_guard_no ?hy ?_ | refine x_cond_true ?hy ?_); case hy => rfl)
        | ((with_reducible first | refine x_guard_none ?hy ?_ | refine x_cond_false ?hy ?_); case hy => rfl)
        | ((with_reducible refine block_exit_ne ?hy ?_); case hy => decide))
      refine lays_ok hB3 hi (with_cases x n) fun H4 hB4 f4 => ?_
      repeat' (first
        | (with_reducible first | refine seq_normal ?_ | (refine hK _ _ ?_; clear hK K) | refine x_seq (fun K hK => ?_) | refine x_nil ?_ | refine x_block ?_ | refine x_skip ?_ | refine x_exit ?_ | refine x_ret ?_ | refine x_label ?_ | refine x_scope ?_ | (refine seq_ret ?_; clear hK K) | (refine seq_exit ?_; clear hK K) | refine block_normal ?_ | refine block_ret ?_ | refine block_exit ?_ | refine loop_exit ?_ | refine loop_ret ?_)
        | ((with_reducible refine x_reg_lit ?hq ?_); case hq => rfl)
        | ((first | (with_reducible first | refine x_op (fun K hK => ?_) | refine end_ret ?_ | refine end_normal ?_) | ((with_reducible refine x_guard_yes ?hy (fun K hK => ?_)); case hy => rfl)); simp only [go_sem, Int.cast_ofNat_Int, Nat.reduceEqDiff, Nat.reduceAdd, Nat.reduceMul, Nat.reduceLeDiff, Nat.reduceLT, Int.reduceLT, Int.reduceLE, Int.reduceEq, Int.reduceNeg, Int.reduceToNat, Nat.reducePow, reduceIte, reduceCtorEq])
        | ((with_reducible first | refine x_guard_no ?hy ?_ | refine x_cond_true ?hy ?_); case hy => rfl)
        | ((with_reducible first | refine x_guard_none ?hy ?_ | refine x_cond_false ?hy ?_); case hy => rfl)
        | ((with_reducible refine block_exit_ne ?hy ?_); case hy => decide))
      exact hk _ _ hB4 ((fC.mono fun _ _ h => h.elim).trans f4)
    clear hK
    refine x_draw rfl (MS bk xs va vw b3 (opL kind s t n la ln lc)) [] qA ?_
    refine anyH_take (i := 0) (v := .pointer (some ⟨bk, 0, none⟩)) (show _ = some (Oper.mk (some 96) _ _ _ _ none) from rfl) (by kernel_rfl) (still_of rfl fun H' hS => by simp only [go_sem, Int.cast_ofNat_Int, Nat.reduceEqDiff, Nat.reduceAdd, Nat.reduceMul, Nat.reduceLeDiff, Nat.reduceLT, Int.reduceLT, Int.reduceLE, Int.reduceEq, Int.reduceNeg, Int.reduceToNat, Nat.reducePow, reduceIte, reduceCtorEq, r0]) qA ?_
    refine anyH_take (i := 1) (v := .int .i64 (i : Int)) (show _ = some (Oper.mk (some 97) _ _ _ _ none) from rfl) (by kernel_rfl) (still_of rfl fun H' hS => by simp only [go_sem, Int.cast_ofNat_Int, Nat.reduceEqDiff, Nat.reduceAdd, Nat.reduceMul, Nat.reduceLeDiff, Nat.reduceLT, Int.reduceLT, Int.reduceLE, Int.reduceEq, Int.reduceNeg, Int.reduceToNat, Nat.reducePow, reduceIte, reduceCtorEq, r5]) qA ?_
    refine anyH_take (i := 2) (v := .pointer (some ⟨bk, 0, none⟩)) (show _ = some (Oper.mk (some 98) _ _ _ _ none) from rfl) (by kernel_rfl) (still_of rfl fun H' hS => by simp only [go_sem, Int.cast_ofNat_Int, Nat.reduceEqDiff, Nat.reduceAdd, Nat.reduceMul, Nat.reduceLeDiff, Nat.reduceLT, Int.reduceLT, Int.reduceLE, Int.reduceEq, Int.reduceNeg, Int.reduceToNat, Nat.reducePow, reduceIte, reduceCtorEq]) qA ?_
    refine anyH_take (i := 3) (v := .pointer (some ⟨bk, 4, none⟩)) (show _ = some (Oper.mk (some 99) _ _ _ _ none) from rfl) (by kernel_rfl) (still_of rfl fun H' hS => by simp only [go_sem, Int.cast_ofNat_Int, Nat.reduceEqDiff, Nat.reduceAdd, Nat.reduceMul, Nat.reduceLeDiff, Nat.reduceLT, Int.reduceLT, Int.reduceLE, Int.reduceEq, Int.reduceNeg, Int.reduceToNat, Nat.reducePow, reduceIte, reduceCtorEq]) qA ?_
    refine anyH_take (i := 4) (v := .pointer (some ⟨bk, 4 + i * 64, none⟩)) (show _ = some (Oper.mk (some 100) _ _ _ _ none) from rfl) (by kernel_rfl) (still_of rfl fun H' hS => by simp only [go_sem, Int.cast_ofNat_Int, Nat.reduceEqDiff, Nat.reduceAdd, Nat.reduceMul, Nat.reduceLeDiff, Nat.reduceLT, Int.reduceLT, Int.reduceLE, Int.reduceEq, Int.reduceNeg, Int.reduceToNat, Nat.reducePow, reduceIte, reduceCtorEq, t4]) qA ?_
    refine anyH_take (i := 5) (v := dv x) (show _ = some (Oper.mk (some 101) _ _ _ _ none) from rfl) (by kernel_rfl) (still_of rfl fun H' hS => by simp only [go_sem, Int.cast_ofNat_Int, Nat.reduceEqDiff, Nat.reduceAdd, Nat.reduceMul, Nat.reduceLeDiff, Nat.reduceLT, Int.reduceLT, Int.reduceLE, Int.reduceEq, Int.reduceNeg, Int.reduceToNat, Nat.reducePow, reduceIte, reduceCtorEq, dv_fold]; exact hS.1.loadX hx rfl) qA ?_
    refine anyH_take (i := 6) (v := .pointer (some ⟨b3, 3, none⟩)) (show _ = some (Oper.mk (some 102) _ _ _ _ none) from rfl) (by kernel_rfl) (still_of rfl fun H' hS => by simp only [go_sem, Int.cast_ofNat_Int, Nat.reduceEqDiff, Nat.reduceAdd, Nat.reduceMul, Nat.reduceLeDiff, Nat.reduceLT, Int.reduceLT, Int.reduceLE, Int.reduceEq, Int.reduceNeg, Int.reduceToNat, Nat.reducePow, reduceIte, reduceCtorEq, r3]) qA ?_
    refine anyH_take (i := 7) (v := .int .i64 n) (show _ = some (Oper.mk (some 103) _ _ _ _ none) from rfl) (by kernel_rfl) (still_of rfl fun H' hS => by simp only [go_sem, Int.cast_ofNat_Int, Nat.reduceEqDiff, Nat.reduceAdd, Nat.reduceMul, Nat.reduceLeDiff, Nat.reduceLT, Int.reduceLT, Int.reduceLE, Int.reduceEq, Int.reduceNeg, Int.reduceToNat, Nat.reducePow, reduceIte, reduceCtorEq, hS.2.cellOf (i := 3) rfl]) qA ?_
    refine anyH_two (i := 8) (j := 12) (by kernel_rfl) (show _ = some (Oper.mk (some 104) _ _ _ _ none) from rfl) (show _ = some (Oper.mk (some 16) _ _ _ _ none) from rfl) rfl rfl (fun K' hK' => ?_) (fun K' hK' => ?_)
    · simp only [go_sem, Int.cast_ofNat_Int, Nat.reduceEqDiff, Nat.reduceAdd, Nat.reduceMul, Nat.reduceLeDiff, Nat.reduceLT, Int.reduceLT, Int.reduceLE, Int.reduceEq, Int.reduceNeg, Int.reduceToNat, Nat.reducePow, reduceIte, reduceCtorEq]
      refine dwith_ok_on fun H3 f3 => ?_
      refine hK' _ _ ⟨fun _ => qA.grow f3, ?_⟩
      refine anyH_take (i := 9) (v := .tuple #[dv (withQ x n).1, .int .i64 (withQ x n).2]) (show _ = some (Oper.mk (some 95) _ _ _ _ none) from rfl) (by kernel_rfl) (still_of rfl fun H' hS => by simp only [go_sem, Int.cast_ofNat_Int, Nat.reduceEqDiff, Nat.reduceAdd, Nat.reduceMul, Nat.reduceLeDiff, Nat.reduceLT, Int.reduceLT, Int.reduceLE, Int.reduceEq, Int.reduceNeg, Int.reduceToNat, Nat.reducePow, reduceIte, reduceCtorEq]) (qA.grow f3) ?_
      refine anyH_take (i := 10) (v := dv (withQ x n).1) (show _ = some (Oper.mk (some 105) _ _ _ _ none) from rfl) (by kernel_rfl) (still_of rfl fun H' hS => by simp only [go_sem, Int.cast_ofNat_Int, Nat.reduceEqDiff, Nat.reduceAdd, Nat.reduceMul, Nat.reduceLeDiff, Nat.reduceLT, Int.reduceLT, Int.reduceLE, Int.reduceEq, Int.reduceNeg, Int.reduceToNat, Nat.reducePow, reduceIte, reduceCtorEq]) (qA.grow f3) ?_
      refine anyH_take (i := 11) (v := .int .i64 (withQ x n).2) (show _ = some (Oper.mk (some 106) _ _ _ _ none) from rfl) (by kernel_rfl) (still_of rfl fun H' hS => by simp only [go_sem, Int.cast_ofNat_Int, Nat.reduceEqDiff, Nat.reduceAdd, Nat.reduceMul, Nat.reduceLeDiff, Nat.reduceLT, Int.reduceLT, Int.reduceLE, Int.reduceEq, Int.reduceNeg, Int.reduceToNat, Nat.reducePow, reduceIte, reduceCtorEq]) (qA.grow f3) ?_
      refine anyH_one (i := 12) (by kernel_rfl) (show _ = some (Oper.mk (some 16) _ _ _ _ none) from rfl) rfl (fun K' hK' => ?_)
      simp only [go_sem, Int.cast_ofNat_Int, Nat.reduceEqDiff, Nat.reduceAdd, Nat.reduceMul, Nat.reduceLeDiff, Nat.reduceLT, Int.reduceLT, Int.reduceLE, Int.reduceEq, Int.reduceNeg, Int.reduceToNat, Nat.reducePow, reduceIte, reduceCtorEq]
      have f4 : Fr (fun _ => False) H2 (H3.push (.cells (bools 0#64).toArray 42)) := f3.push _
      have b4 := Blk.new H3 (bools 0#64) 42
      have s3 := f3.size
      refine hK' _ _ ⟨fun _ => qA.grow f4, ?_⟩
      refine anyH_one (i := 13) (by kernel_rfl) (show _ = some (Oper.mk none _ _ _ _ none) from rfl) rfl (fun K' hK' => ?_)
      simp only [go_sem, Int.cast_ofNat_Int, Nat.reduceEqDiff, Nat.reduceAdd, Nat.reduceMul, Nat.reduceLeDiff, Nat.reduceLT, Int.reduceLT, Int.reduceLE, Int.reduceEq, Int.reduceNeg, Int.reduceToNat, Nat.reducePow, reduceIte, reduceCtorEq]
      refine ⟨bools_len _, store64 (o := 0) b4 (by rw [bools_len]; decide) fun H9 h9 f9 s9 => ?_⟩
      rw [over64] at h9
      have F9 : Fr (fun _ => False) H2 H9 := f4.trans' f9 fun b hb e => by subst e; omega
      have B9 := h9
      generalize hq9 : H3.size = qq at *
      refine hK' _ _ ⟨fun _ => qA.grow F9, ?_⟩
      refine anyH_one (i := 14) (by kernel_rfl) (show _ = some (Oper.mk (some 17) _ _ _ _ none) from rfl) rfl (fun K' hK' => ?_)
      simp only [go_sem, Int.cast_ofNat_Int, Nat.reduceEqDiff, Nat.reduceAdd, Nat.reduceMul, Nat.reduceLeDiff, Nat.reduceLT, Int.reduceLT, Int.reduceLE, Int.reduceEq, Int.reduceNeg, Int.reduceToNat, Nat.reducePow, reduceIte, reduceCtorEq]
      refine hK' _ _ ⟨fun _ => qA.grow F9, ?_⟩
      refine anyH_done (by kernel_rfl) ?_
      exact tailB _ _ qq rfl rfl rfl rfl rfl rfl rfl (by omega) B9 F9
    · simp only [go_sem, Int.cast_ofNat_Int, Nat.reduceEqDiff, Nat.reduceAdd, Nat.reduceMul, Nat.reduceLeDiff, Nat.reduceLT, Int.reduceLT, Int.reduceLE, Int.reduceEq, Int.reduceNeg, Int.reduceToNat, Nat.reducePow, reduceIte, reduceCtorEq]
      have f2 : Fr (fun _ => False) H2 (H2.push (.cells (bools 0#64).toArray 42)) := (Fr.refl _ _).push _
      have b2' := Blk.new H2 (bools 0#64) 42
      refine hK' _ _ ⟨fun _ => qA.grow f2, ?_⟩
      refine anyH_one (i := 8) (by kernel_rfl) (show _ = some (Oper.mk (some 104) _ _ _ _ none) from rfl) rfl (fun K' hK' => ?_)
      simp only [go_sem, Int.cast_ofNat_Int, Nat.reduceEqDiff, Nat.reduceAdd, Nat.reduceMul, Nat.reduceLeDiff, Nat.reduceLT, Int.reduceLT, Int.reduceLE, Int.reduceEq, Int.reduceNeg, Int.reduceToNat, Nat.reducePow, reduceIte, reduceCtorEq]
      refine dwith_ok_on fun H3 f3 => ?_
      have b3' := b2'.frame f3 (fun h => h)
      have f3' := f2.trans f3
      refine hK' _ _ ⟨fun _ => qA.grow f3', ?_⟩
      refine anyH_take (i := 9) (v := .tuple #[dv (withQ x n).1, .int .i64 (withQ x n).2]) (show _ = some (Oper.mk (some 95) _ _ _ _ none) from rfl) (by kernel_rfl) (still_of rfl fun H' hS => by simp only [go_sem, Int.cast_ofNat_Int, Nat.reduceEqDiff, Nat.reduceAdd, Nat.reduceMul, Nat.reduceLeDiff, Nat.reduceLT, Int.reduceLT, Int.reduceLE, Int.reduceEq, Int.reduceNeg, Int.reduceToNat, Nat.reducePow, reduceIte, reduceCtorEq]) (qA.grow f3') ?_
      refine anyH_take (i := 10) (v := dv (withQ x n).1) (show _ = some (Oper.mk (some 105) _ _ _ _ none) from rfl) (by kernel_rfl) (still_of rfl fun H' hS => by simp only [go_sem, Int.cast_ofNat_Int, Nat.reduceEqDiff, Nat.reduceAdd, Nat.reduceMul, Nat.reduceLeDiff, Nat.reduceLT, Int.reduceLT, Int.reduceLE, Int.reduceEq, Int.reduceNeg, Int.reduceToNat, Nat.reducePow, reduceIte, reduceCtorEq]) (qA.grow f3') ?_
      refine anyH_take (i := 11) (v := .int .i64 (withQ x n).2) (show _ = some (Oper.mk (some 106) _ _ _ _ none) from rfl) (by kernel_rfl) (still_of rfl fun H' hS => by simp only [go_sem, Int.cast_ofNat_Int, Nat.reduceEqDiff, Nat.reduceAdd, Nat.reduceMul, Nat.reduceLeDiff, Nat.reduceLT, Int.reduceLT, Int.reduceLE, Int.reduceEq, Int.reduceNeg, Int.reduceToNat, Nat.reducePow, reduceIte, reduceCtorEq]) (qA.grow f3') ?_
      refine anyH_one (i := 13) (by kernel_rfl) (show _ = some (Oper.mk none _ _ _ _ none) from rfl) rfl (fun K' hK' => ?_)
      simp only [go_sem, Int.cast_ofNat_Int, Nat.reduceEqDiff, Nat.reduceAdd, Nat.reduceMul, Nat.reduceLeDiff, Nat.reduceLT, Int.reduceLT, Int.reduceLE, Int.reduceEq, Int.reduceNeg, Int.reduceToNat, Nat.reducePow, reduceIte, reduceCtorEq]
      refine ⟨bools_len _, store64 (o := 0) b3' (by rw [bools_len]; decide) fun H9 h9 f9 s9 => ?_⟩
      rw [over64] at h9
      have F9 : Fr (fun _ => False) H2 H9 := f3'.trans' f9 fun b hb e => by subst e; omega
      have B9 := h9
      generalize hq9 : H2.size = qq at *
      refine hK' _ _ ⟨fun _ => qA.grow F9, ?_⟩
      refine anyH_one (i := 14) (by kernel_rfl) (show _ = some (Oper.mk (some 17) _ _ _ _ none) from rfl) rfl (fun K' hK' => ?_)
      simp only [go_sem, Int.cast_ofNat_Int, Nat.reduceEqDiff, Nat.reduceAdd, Nat.reduceMul, Nat.reduceLeDiff, Nat.reduceLT, Int.reduceLT, Int.reduceLE, Int.reduceEq, Int.reduceNeg, Int.reduceToNat, Nat.reducePow, reduceIte, reduceCtorEq]
      refine hK' _ _ ⟨fun _ => qA.grow F9, ?_⟩
      refine anyH_done (by kernel_rfl) ?_
      exact tailB _ _ qq rfl rfl rfl rfl rfl rfl rfl (by omega) B9 F9
  clear hK
  refine x_draw rfl (MS bk xs va vw b3 (opL kind s t n la ln lc)) [] q ?_
  refine anyH_take (i := 0) (v := .pointer (some ⟨bk, 0, none⟩)) (show _ = some (Oper.mk (some 84) _ _ _ _ none) from rfl) (by kernel_rfl) (still_of rfl fun H' hS => by simp only [go_sem, Int.cast_ofNat_Int, Nat.reduceEqDiff, Nat.reduceAdd, Nat.reduceMul, Nat.reduceLeDiff, Nat.reduceLT, Int.reduceLT, Int.reduceLE, Int.reduceEq, Int.reduceNeg, Int.reduceToNat, Nat.reducePow, reduceIte, reduceCtorEq, j0]) q ?_
  refine anyH_take (i := 1) (v := .int .i64 (i : Int)) (show _ = some (Oper.mk (some 85) _ _ _ _ none) from rfl) (by kernel_rfl) (still_of rfl fun H' hS => by simp only [go_sem, Int.cast_ofNat_Int, Nat.reduceEqDiff, Nat.reduceAdd, Nat.reduceMul, Nat.reduceLeDiff, Nat.reduceLT, Int.reduceLT, Int.reduceLE, Int.reduceEq, Int.reduceNeg, Int.reduceToNat, Nat.reducePow, reduceIte, reduceCtorEq, j5]) q ?_
  refine anyH_take (i := 2) (v := .pointer (some ⟨bk, 0, none⟩)) (show _ = some (Oper.mk (some 86) _ _ _ _ none) from rfl) (by kernel_rfl) (still_of rfl fun H' hS => by simp only [go_sem, Int.cast_ofNat_Int, Nat.reduceEqDiff, Nat.reduceAdd, Nat.reduceMul, Nat.reduceLeDiff, Nat.reduceLT, Int.reduceLT, Int.reduceLE, Int.reduceEq, Int.reduceNeg, Int.reduceToNat, Nat.reducePow, reduceIte, reduceCtorEq]) q ?_
  refine anyH_take (i := 3) (v := .pointer (some ⟨bk, 0, none⟩)) (show _ = some (Oper.mk (some 87) _ _ _ _ none) from rfl) (by kernel_rfl) (still_of rfl fun H' hS => by simp only [go_sem, Int.cast_ofNat_Int, Nat.reduceEqDiff, Nat.reduceAdd, Nat.reduceMul, Nat.reduceLeDiff, Nat.reduceLT, Int.reduceLT, Int.reduceLE, Int.reduceEq, Int.reduceNeg, Int.reduceToNat, Nat.reducePow, reduceIte, reduceCtorEq]) q ?_
  refine anyH_take (i := 4) (v := .pointer (some ⟨bk, i, none⟩)) (show _ = some (Oper.mk (some 88) _ _ _ _ none) from rfl) (by kernel_rfl) (still_of rfl fun H' hS => by simp only [go_sem, Int.cast_ofNat_Int, Nat.reduceEqDiff, Nat.reduceAdd, Nat.reduceMul, Nat.reduceLeDiff, Nat.reduceLT, Int.reduceLT, Int.reduceLE, Int.reduceEq, Int.reduceNeg, Int.reduceToNat, Nat.reducePow, reduceIte, reduceCtorEq, t4]) q ?_
  refine anyH_take (i := 5) (v := sv x) (show _ = some (Oper.mk (some 89) _ _ _ _ none) from rfl) (by kernel_rfl) (still_of rfl fun H' hS => by simp only [go_sem, Int.cast_ofNat_Int, Nat.reduceEqDiff, Nat.reduceAdd, Nat.reduceMul, Nat.reduceLeDiff, Nat.reduceLT, Int.reduceLT, Int.reduceLE, Int.reduceEq, Int.reduceNeg, Int.reduceToNat, Nat.reducePow, reduceIte, reduceCtorEq, hS.1.s hx]; rfl) q ?_
  refine anyH_take (i := 6) (v := .pointer (some ⟨b3, 3, none⟩)) (show _ = some (Oper.mk (some 90) _ _ _ _ none) from rfl) (by kernel_rfl) (still_of rfl fun H' hS => by simp only [go_sem, Int.cast_ofNat_Int, Nat.reduceEqDiff, Nat.reduceAdd, Nat.reduceMul, Nat.reduceLeDiff, Nat.reduceLT, Int.reduceLT, Int.reduceLE, Int.reduceEq, Int.reduceNeg, Int.reduceToNat, Nat.reducePow, reduceIte, reduceCtorEq, j3]) q ?_
  refine anyH_take (i := 7) (v := .int .i64 n) (show _ = some (Oper.mk (some 91) _ _ _ _ none) from rfl) (by kernel_rfl) (still_of rfl fun H' hS => by simp only [go_sem, Int.cast_ofNat_Int, Nat.reduceEqDiff, Nat.reduceAdd, Nat.reduceMul, Nat.reduceLeDiff, Nat.reduceLT, Int.reduceLT, Int.reduceLE, Int.reduceEq, Int.reduceNeg, Int.reduceToNat, Nat.reducePow, reduceIte, reduceCtorEq, hS.2.cellOf (i := 3) rfl]) q ?_
  refine anyH_two (i := 8) (j := 12) (by kernel_rfl) (show _ = some (Oper.mk (some 92) _ _ _ _ none) from rfl) (show _ = some (Oper.mk (some 14) _ _ _ _ none) from rfl) rfl rfl (fun K' hK' => ?_) (fun K' hK' => ?_)
  · simp only [go_sem, Int.cast_ofNat_Int, Nat.reduceEqDiff, Nat.reduceAdd, Nat.reduceMul, Nat.reduceLeDiff, Nat.reduceLT, Int.reduceLT, Int.reduceLE, Int.reduceEq, Int.reduceNeg, Int.reduceToNat, Nat.reducePow, reduceIte, reduceCtorEq]
    refine with_ok fun H3 f3 => ?_
    refine hK' _ _ ⟨fun _ => q.grow f3, ?_⟩
    refine anyH_take (i := 9) (v := .tuple #[sv (withQ x n).1, .int .i64 (withQ x n).2]) (show _ = some (Oper.mk (some 83) _ _ _ _ none) from rfl) (by kernel_rfl) (still_of rfl fun H' hS => by simp only [go_sem, Int.cast_ofNat_Int, Nat.reduceEqDiff, Nat.reduceAdd, Nat.reduceMul, Nat.reduceLeDiff, Nat.reduceLT, Int.reduceLT, Int.reduceLE, Int.reduceEq, Int.reduceNeg, Int.reduceToNat, Nat.reducePow, reduceIte, reduceCtorEq]) (q.grow f3) ?_
    refine anyH_take (i := 10) (v := sv (withQ x n).1) (show _ = some (Oper.mk (some 93) _ _ _ _ none) from rfl) (by kernel_rfl) (still_of rfl fun H' hS => by simp only [go_sem, Int.cast_ofNat_Int, Nat.reduceEqDiff, Nat.reduceAdd, Nat.reduceMul, Nat.reduceLeDiff, Nat.reduceLT, Int.reduceLT, Int.reduceLE, Int.reduceEq, Int.reduceNeg, Int.reduceToNat, Nat.reducePow, reduceIte, reduceCtorEq]) (q.grow f3) ?_
    refine anyH_take (i := 11) (v := .int .i64 (withQ x n).2) (show _ = some (Oper.mk (some 94) _ _ _ _ none) from rfl) (by kernel_rfl) (still_of rfl fun H' hS => by simp only [go_sem, Int.cast_ofNat_Int, Nat.reduceEqDiff, Nat.reduceAdd, Nat.reduceMul, Nat.reduceLeDiff, Nat.reduceLT, Int.reduceLT, Int.reduceLE, Int.reduceEq, Int.reduceNeg, Int.reduceToNat, Nat.reducePow, reduceIte, reduceCtorEq]) (q.grow f3) ?_
    refine anyH_one (i := 12) (by kernel_rfl) (show _ = some (Oper.mk (some 14) _ _ _ _ none) from rfl) rfl (fun K' hK' => ?_)
    simp only [go_sem, Int.cast_ofNat_Int, Nat.reduceEqDiff, Nat.reduceAdd, Nat.reduceMul, Nat.reduceLeDiff, Nat.reduceLT, Int.reduceLT, Int.reduceLE, Int.reduceEq, Int.reduceNeg, Int.reduceToNat, Nat.reducePow, reduceIte, reduceCtorEq]
    have f4 : Fr (fun _ => False) H1 (H3.push (.cells #[.int .u64 0] 26)) := f3.push _
    have b4 := Blk.new H3 [.int .u64 0] 26
    have s3 := f3.size
    refine hK' _ _ ⟨fun _ => q.grow f4, ?_⟩
    refine anyH_one (i := 13) (by kernel_rfl) (show _ = some (Oper.mk none _ _ _ _ none) from rfl) rfl (fun K' hK' => ?_)
    have wq := b4.okW (i := 0) (by simp)
    simp only [sv]
    simp only [go_sem, Int.cast_ofNat_Int, Nat.reduceEqDiff, Nat.reduceAdd, Nat.reduceMul, Nat.reduceLeDiff, Nat.reduceLT, Int.reduceLT, Int.reduceLE, Int.reduceEq, Int.reduceNeg, Int.reduceToNat, Nat.reducePow, reduceIte, reduceCtorEq, wq]
    have B9 := b4.set_same 0 (.int .u64 (((withQ x n).1).toNat : Int))
    have F9 : Fr (fun _ => False) H1 (hset (H3.push (.cells #[.int .u64 0] 26)) ⟨H3.size, 0, none⟩ (.int .u64 (((withQ x n).1).toNat : Int))) := Fr.set f4 (.inr (by show H1.size ≤ H3.size; omega)) _
    refine hK' _ _ ⟨fun _ => q.grow F9, ?_⟩
    refine anyH_one (i := 14) (by kernel_rfl) (show _ = some (Oper.mk (some 15) _ _ _ _ none) from rfl) rfl (fun K' hK' => ?_)
    simp only [go_sem, Int.cast_ofNat_Int, Nat.reduceEqDiff, Nat.reduceAdd, Nat.reduceMul, Nat.reduceLeDiff, Nat.reduceLT, Int.reduceLT, Int.reduceLE, Int.reduceEq, Int.reduceNeg, Int.reduceToNat, Nat.reducePow, reduceIte, reduceCtorEq]
    refine hK' _ _ ⟨fun _ => q.grow F9, ?_⟩
    refine anyH_done (by kernel_rfl) ?_
    exact tailA _ _ H3.size rfl rfl rfl rfl rfl  (by omega) B9 F9
  · simp only [go_sem, Int.cast_ofNat_Int, Nat.reduceEqDiff, Nat.reduceAdd, Nat.reduceMul, Nat.reduceLeDiff, Nat.reduceLT, Int.reduceLT, Int.reduceLE, Int.reduceEq, Int.reduceNeg, Int.reduceToNat, Nat.reducePow, reduceIte, reduceCtorEq]
    have f2 : Fr (fun _ => False) H1 (H1.push (.cells #[.int .u64 0] 26)) := (Fr.refl _ _).push _
    have b2' := Blk.new H1 [.int .u64 0] 26
    refine hK' _ _ ⟨fun _ => q.grow f2, ?_⟩
    refine anyH_one (i := 8) (by kernel_rfl) (show _ = some (Oper.mk (some 92) _ _ _ _ none) from rfl) rfl (fun K' hK' => ?_)
    simp only [go_sem, Int.cast_ofNat_Int, Nat.reduceEqDiff, Nat.reduceAdd, Nat.reduceMul, Nat.reduceLeDiff, Nat.reduceLT, Int.reduceLT, Int.reduceLE, Int.reduceEq, Int.reduceNeg, Int.reduceToNat, Nat.reducePow, reduceIte, reduceCtorEq]
    refine with_ok fun H3 f3 => ?_
    have b3' := b2'.frame f3 (fun h => h)
    have f3' := f2.trans f3
    refine hK' _ _ ⟨fun _ => q.grow f3', ?_⟩
    refine anyH_take (i := 9) (v := .tuple #[sv (withQ x n).1, .int .i64 (withQ x n).2]) (show _ = some (Oper.mk (some 83) _ _ _ _ none) from rfl) (by kernel_rfl) (still_of rfl fun H' hS => by simp only [go_sem, Int.cast_ofNat_Int, Nat.reduceEqDiff, Nat.reduceAdd, Nat.reduceMul, Nat.reduceLeDiff, Nat.reduceLT, Int.reduceLT, Int.reduceLE, Int.reduceEq, Int.reduceNeg, Int.reduceToNat, Nat.reducePow, reduceIte, reduceCtorEq]) (q.grow f3') ?_
    refine anyH_take (i := 10) (v := sv (withQ x n).1) (show _ = some (Oper.mk (some 93) _ _ _ _ none) from rfl) (by kernel_rfl) (still_of rfl fun H' hS => by simp only [go_sem, Int.cast_ofNat_Int, Nat.reduceEqDiff, Nat.reduceAdd, Nat.reduceMul, Nat.reduceLeDiff, Nat.reduceLT, Int.reduceLT, Int.reduceLE, Int.reduceEq, Int.reduceNeg, Int.reduceToNat, Nat.reducePow, reduceIte, reduceCtorEq]) (q.grow f3') ?_
    refine anyH_take (i := 11) (v := .int .i64 (withQ x n).2) (show _ = some (Oper.mk (some 94) _ _ _ _ none) from rfl) (by kernel_rfl) (still_of rfl fun H' hS => by simp only [go_sem, Int.cast_ofNat_Int, Nat.reduceEqDiff, Nat.reduceAdd, Nat.reduceMul, Nat.reduceLeDiff, Nat.reduceLT, Int.reduceLT, Int.reduceLE, Int.reduceEq, Int.reduceNeg, Int.reduceToNat, Nat.reducePow, reduceIte, reduceCtorEq]) (q.grow f3') ?_
    refine anyH_one (i := 13) (by kernel_rfl) (show _ = some (Oper.mk none _ _ _ _ none) from rfl) rfl (fun K' hK' => ?_)
    have wq := b3'.okW (i := 0) (by simp)
    simp only [sv]
    simp only [go_sem, Int.cast_ofNat_Int, Nat.reduceEqDiff, Nat.reduceAdd, Nat.reduceMul, Nat.reduceLeDiff, Nat.reduceLT, Int.reduceLT, Int.reduceLE, Int.reduceEq, Int.reduceNeg, Int.reduceToNat, Nat.reducePow, reduceIte, reduceCtorEq, wq]
    have B9 := b3'.set_same 0 (.int .u64 (((withQ x n).1).toNat : Int))
    have F9 : Fr (fun _ => False) H1 (hset H3 ⟨H1.size, 0, none⟩ (.int .u64 (((withQ x n).1).toNat : Int))) := Fr.set f3' (.inr (by show H1.size ≤ H1.size; omega)) _
    refine hK' _ _ ⟨fun _ => q.grow F9, ?_⟩
    refine anyH_one (i := 14) (by kernel_rfl) (show _ = some (Oper.mk (some 15) _ _ _ _ none) from rfl) rfl (fun K' hK' => ?_)
    simp only [go_sem, Int.cast_ofNat_Int, Nat.reduceEqDiff, Nat.reduceAdd, Nat.reduceMul, Nat.reduceLeDiff, Nat.reduceLT, Int.reduceLT, Int.reduceLE, Int.reduceEq, Int.reduceNeg, Int.reduceToNat, Nat.reducePow, reduceIte, reduceCtorEq]
    refine hK' _ _ ⟨fun _ => q.grow F9, ?_⟩
    refine anyH_done (by kernel_rfl) ?_
    exact tailA _ _ H1.size rfl rfl rfl rfl rfl  (by omega) B9 F9
theorem makes3 {H : Heap} {bk : Nat} {xs : List B64} {va vw : Value} {s t n : Int} {la : Option Addr} {ln lc : Nat} {K : Value → Heap → Prop} (hB : BK H bk xs xs va vw) (hs : Fit s) (ht : Fit t)
    (hk : ∀ H' xs', BK H' bk xs' xs' va vw → Fr (· = bk) H H' → K (.bool true) H') : CallsH Tryd.prog 17 #[.pointer (some ⟨bk, 0, none⟩), opV 3 s t n la ln lc] H K := by
  have hs0 : ∀ y : B64, sv y = .agg #[.int .u64 (y.toNat : Int)] := fun _ => rfl
  obtain ⟨kind, hkind⟩ : ∃ z : Int, z = 3 := ⟨_, rfl⟩
  obtain ⟨i, ei, hi⟩ := pick4 s
  obtain ⟨k, ek, hk4⟩ := pick4 t
  obtain ⟨x, hx⟩ : ∃ x, xs[i]? = some x := ⟨_, List.getElem?_eq_getElem (by rw [hB.lx]; exact hi)⟩
  have hlt := hB.b.lt
  unfold opV
  refine call17 (by simp) ?_
  simp only [Tryd.f17, Option.getD_some]
  repeat' (first
    | (with_reducible first | refine seq_normal ?_ | (refine hK _ _ ?_; clear hK K) | refine x_seq (fun K hK => ?_) | refine x_nil ?_ | refine x_block ?_ | refine x_skip ?_ | refine x_exit ?_ | refine x_ret ?_ | refine x_label ?_ | refine x_scope ?_ | (refine seq_ret ?_; clear hK K) | (refine seq_exit ?_; clear hK K) | refine block_normal ?_ | refine block_ret ?_ | refine block_exit ?_ | refine loop_exit ?_ | refine loop_ret ?_)
    | ((with_reducible refine x_reg_lit ?hq ?_); case hq => rfl)
    | ((first | (with_reducible first | refine x_op (fun K hK => ?_) | refine end_ret ?_ | refine end_normal ?_) | ((with_reducible refine x_guard_yes ?hy (fun K hK => ?_)); case hy => rfl)); simp only [go_sem, Int.cast_ofNat_Int, Nat.reduceEqDiff, Nat.reduceAdd, Nat.reduceMul, Nat.reduceLeDiff, Nat.reduceLT, Int.reduceLT, Int.reduceLE, Int.reduceEq, Int.reduceNeg, Int.reduceToNat, Nat.reducePow, reduceIte, reduceCtorEq, hcell_push, hcell_top, okW_push, okW_top, hcell_hset_ne, hcell_hset_off, hcell_hset_eq, okW_hset, hset_size, Array.size_push, Nat.lt_add_one, ne_add_one, add_one_ne, Nat.add_assoc, add_same, add_lt_same, Nat.reduceEqDiff, lt_add_k, add_k_ne, ne_add_k])
    | ((with_reducible first | refine x_guard_no ?hy ?_ | refine x_cond_true ?hy ?_); case hy => rfl)
    | ((with_reducible first | refine x_guard_none ?hy ?_ | refine x_cond_false ?hy ?_); case hy => rfl)
    | ((with_reducible refine block_exit_ne ?hy ?_); case hy => decide))
  refine Pkisthmuslaw09.pick_ok hs.1 hs.2 (by decide) ?_
  rw [ei]
  repeat' (first
    | (with_reducible first | refine seq_normal ?_ | (refine hK _ _ ?_; clear hK K) | refine x_seq (fun K hK => ?_) | refine x_nil ?_ | refine x_block ?_ | refine x_skip ?_ | refine x_exit ?_ | refine x_ret ?_ | refine x_label ?_ | refine x_scope ?_ | (refine seq_ret ?_; clear hK K) | (refine seq_exit ?_; clear hK K) | refine block_normal ?_ | refine block_ret ?_ | refine block_exit ?_ | refine loop_exit ?_ | refine loop_ret ?_)
    | ((with_reducible refine x_reg_lit ?hq ?_); case hq => rfl)
    | ((first | (with_reducible first | refine x_op (fun K hK => ?_) | refine end_ret ?_ | refine end_normal ?_) | ((with_reducible refine x_guard_yes ?hy (fun K hK => ?_)); case hy => rfl)); simp only [go_sem, Int.cast_ofNat_Int, Nat.reduceEqDiff, Nat.reduceAdd, Nat.reduceMul, Nat.reduceLeDiff, Nat.reduceLT, Int.reduceLT, Int.reduceLE, Int.reduceEq, Int.reduceNeg, Int.reduceToNat, Nat.reducePow, reduceIte, reduceCtorEq, hcell_push, hcell_top, okW_push, okW_top, hcell_hset_ne, hcell_hset_off, hcell_hset_eq, okW_hset, hset_size, Array.size_push, Nat.lt_add_one, ne_add_one, add_one_ne, Nat.add_assoc, add_same, add_lt_same, Nat.reduceEqDiff, lt_add_k, add_k_ne, ne_add_k])
    | ((with_reducible first | refine x_guard_no ?hy ?_ | refine x_cond_true ?hy ?_); case hy => rfl)
    | ((with_reducible first | refine x_guard_none ?hy ?_ | refine x_cond_false ?hy ?_); case hy => rfl)
    | ((with_reducible refine block_exit_ne ?hy ?_); case hy => decide))
  refine Pkisthmuslaw09.pick_ok ht.1 ht.2 (by decide) ?_
  rw [ek]
  repeat' (first
    | (with_reducible first | refine seq_normal ?_ | (refine hK _ _ ?_; clear hK K) | refine x_seq (fun K hK => ?_) | refine x_nil ?_ | refine x_block ?_ | refine x_skip ?_ | refine x_exit ?_ | refine x_ret ?_ | refine x_label ?_ | refine x_scope ?_ | (refine seq_ret ?_; clear hK K) | (refine seq_exit ?_; clear hK K) | refine block_normal ?_ | refine block_ret ?_ | refine block_exit ?_ | refine loop_exit ?_ | refine loop_ret ?_)
    | ((with_reducible refine x_reg_lit ?hq ?_); case hq => rfl)
    | ((first | (with_reducible first | refine x_op (fun K hK => ?_) | refine end_ret ?_ | refine end_normal ?_) | ((with_reducible refine x_guard_yes ?hy (fun K hK => ?_)); case hy => rfl)); simp only [go_sem, Int.cast_ofNat_Int, Nat.reduceEqDiff, Nat.reduceAdd, Nat.reduceMul, Nat.reduceLeDiff, Nat.reduceLT, Int.reduceLT, Int.reduceLE, Int.reduceEq, Int.reduceNeg, Int.reduceToNat, Nat.reducePow, reduceIte, reduceCtorEq, hcell_push, hcell_top, okW_push, okW_top, hcell_hset_ne, hcell_hset_off, hcell_hset_eq, okW_hset, hset_size, Array.size_push, Nat.lt_add_one, ne_add_one, add_one_ne, Nat.add_assoc, add_same, add_lt_same, Nat.reduceEqDiff, lt_add_k, add_k_ne, ne_add_k])
    | ((with_reducible first | refine x_guard_no ?hy ?_ | refine x_cond_true ?hy ?_); case hy => rfl)
    | ((with_reducible first | refine x_guard_none ?hy ?_ | refine x_cond_false ?hy ?_); case hy => rfl)
    | ((with_reducible refine block_exit_ne ?hy ?_); case hy => decide))
  have f1 : Fr (fun _ => False) H (H.push (.cells #[.int .i64 3, .int .i64 s, .int .i64 t, .int .i64 n, .slice la ln lc] 49)) := (Fr.refl _ _).push _
  have q : MS bk xs va vw H.size (opL kind s t n la ln lc) (H.push (.cells #[.int .i64 3, .int .i64 s, .int .i64 t, .int .i64 n, .slice la ln lc] 49)) := ⟨hB.frame f1 (fun h => h), by subst hkind; exact Blk.new H _ _⟩
  have s1 := f1.size
  generalize H.push (.cells #[.int .i64 3, .int .i64 s, .int .i64 t, .int .i64 n, .slice la ln lc] 49) = H1 at q f1 s1 ⊢
  generalize hb3 : H.size = b3 at *
  have t4 : ((i : Int) < 4) = True := eq_true (by omega)
  have hltH1 : b3 < H1.size := q.2.lt
  refine x_env fun e1 he1 => ?_
  have j0 : e1 0 = .pointer (some ⟨bk, 0, none⟩) := by rw [he1]; rfl
  have j3 : e1 3 = .pointer (some ⟨b3, 0, none⟩) := by rw [he1]; rfl
  have j5 : e1 5 = .int .i64 (i : Int) := by rw [he1]; rfl
  clear he1
  have tailA : ∀ (e' : Env) (H' : Heap) (qq : Nat), e' 0 = e1 0 → e' 3 = e1 3 → e' 5 = e1 5 → e' 19 = .int .i64 (withoutQ x n).2 → e' 18 = .pointer (some ⟨qq, 0, none⟩) → H1.size ≤ qq → Blk H' qq [.int .u64 (((withoutQ x n).1).toNat : Int)] → Fr (fun _ => False) H1 H' → K e' H' := by
    intro e2 H2 q14 p0 p3 p5 p15 p14 hq14 b14 fA
    have r0 := p0.trans j0
    have r3 := p3.trans j3
    have r5 := p5.trans j5
    clear p0 p3 p5 j0 j3 j5
    have qA := q.grow fA
    have fA' := f1.trans fA
    clear q f1
    refine hK _ _ ?_
    clear hK K
    generalize hs1' : H1.size = z1 at *
    clear fA
    repeat' (first
      | (with_reducible first | refine seq_normal ?_ | (refine hK _ _ ?_; clear hK K) | refine x_seq (fun K hK => ?_) | refine x_nil ?_ | refine x_block ?_ | refine x_skip ?_ | refine x_exit ?_ | refine x_ret ?_ | refine x_label ?_ | refine x_scope ?_ | (refine seq_ret ?_; clear hK K) | (refine seq_exit ?_; clear hK K) | refine block_normal ?_ | refine block_ret ?_ | refine block_exit ?_ | refine loop_exit ?_ | refine loop_ret ?_)
      | ((with_reducible refine x_reg_lit ?hq ?_); case hq => rfl)
      | ((first | (with_reducible first | refine x_op (fun K hK => ?_) | refine end_ret ?_ | refine end_normal ?_) | ((with_reducible refine x_guard_yes ?hy (fun K hK => ?_)); case hy => rfl)); simp only [go_sem, Int.cast_ofNat_Int, Nat.reduceEqDiff, Nat.reduceAdd, Nat.reduceMul, Nat.reduceLeDiff, Nat.reduceLT, Int.reduceLT, Int.reduceLE, Int.reduceEq, Int.reduceNeg, Int.reduceToNat, Nat.reducePow, reduceIte, reduceCtorEq])
      | ((with_reducible first | refine x_guard_no ?hy ?_ | refine x_cond_true ?hy ?_); case hy => rfl)
      | ((with_reducible first | refine x_guard_none ?hy ?_ | refine x_cond_false ?hy ?_); case hy => rfl)
      | ((with_reducible refine block_exit_ne ?hy ?_); case hy => decide))
    have tailB : ∀ (e' : Env) (H' : Heap) (qq : Nat), e' 0 = e2 0 → e' 3 = e2 3 → e' 5 = e2 5 → e' 21 = .int .i64 (withoutQ x n).2 → e' 20 = .pointer (some ⟨qq, 0, none⟩) → e' 18 = e2 18 → e' 19 = e2 19 → H2.size ≤ qq → Blk H' qq (bools (withoutQ x n).1) → Fr (fun _ => False) H2 H' → K e' H' := by
      intro e3 H3 q16 s0 s3 s5 s17 s16 s14 s15 hq16 b16 fB
      have u0 := s0.trans r0
      have u5 := s5.trans r5
      have u14 := s14.trans p14
      have u15 := s15.trans p15
      have b14' := b14.frame fB (fun h => h)
      have c14 := b14'.cellOf (i := 0) rfl
      have hB3 := qA.1.frame fB (fun h => h)
      have fC := fA'.trans fB
      refine hK _ _ ?_
      clear hK K
      repeat' (first
        | (with_reducible first | refine seq_normal ?_ | (refine hK _ _ ?_; clear hK K) | refine x_seq (fun K hK => ?_) | refine x_nil ?_ | refine x_block ?_ | refine x_skip ?_ | refine x_exit ?_ | refine x_ret ?_ | refine x_label ?_ | refine x_scope ?_ | (refine seq_ret ?_; clear hK K) | (refine seq_exit ?_; clear hK K) | refine block_normal ?_ | refine block_ret ?_ | refine block_exit ?_ | refine loop_exit ?_ | refine loop_ret ?_)
        | ((with_reducible refine x_reg_lit ?hq ?_); case hq => rfl)
        | ((first | (with_reducible first | refine x_op (fun K hK => ?_) | refine end_ret ?_ | refine end_normal ?_) | ((with_reducible refine x_guard_yes ?hy (fun K hK => ?_)); case hy => rfl)); simp only [go_sem, Int.cast_ofNat_Int, Nat.reduceEqDiff, Nat.reduceAdd, Nat.reduceMul, Nat.reduceLeDiff, Nat.reduceLT, Int.reduceLT, Int.reduceLE, Int.reduceEq, Int.reduceNeg, Int.reduceToNat, Nat.reducePow, reduceIte, reduceCtorEq, u0, u5, u14, u15, s17, s16, c14])
        | ((with_reducible first | refine x_guard_no ?hy ?_ | refine x_cond_true ?hy ?_); case hy => rfl)
        | ((with_reducible first | refine x_guard_none ?hy ?_ | refine x_cond_false ?hy ?_); case hy => rfl)
        | ((with_reducible refine block_exit_ne ?hy ?_); case hy => decide))
      refine load64z b16 ?_
      simp only [dv_fold, ← hs0]
      repeat' (first
        | (with_reducible first | refine seq_normal ?_ | (refine hK _ _ ?_; clear hK K) | refine x_seq (fun K hK => ?_) | refine x_nil ?_ | refine x_block ?_ | refine x_skip ?_ | refine x_exit ?_ | refine x_ret ?_ | refine x_label ?_ | refine x_scope ?_ | (refine seq_ret ?_; clear hK K) | (refine seq_exit ?_; clear hK K) | refine block_normal ?_ | refine block_ret ?_ | refine block_exit ?_ | refine loop_exit ?_ | refine loop_ret ?_)
        | ((with_reducible refine x_reg_lit ?hq ?_); case hq => rfl)
        | ((first | (with_reducible first | refine x_op (fun K hK => ?_) | refine end_ret ?_ | refine end_normal ?_) | ((with_reducible refine x_guard_yes ?hy (fun K hK => ?_)); case hy => rfl)); simp only [go_sem, Int.cast_ofNat_Int, Nat.reduceEqDiff, Nat.reduceAdd, Nat.reduceMul, Nat.reduceLeDiff, Nat.reduceLT, Int.reduceLT, Int.reduceLE, Int.reduceEq, Int.reduceNeg, Int.reduceToNat, Nat.reducePow, reduceIte, reduceCtorEq, u0, u5, u14, u15, s17, s16, c14])
        | ((with_reducible first | refine x_guard_no ?hy ?_ | refine x_cond_true ?hy ?_); case hy => rfl)
        | ((with_reducible first | refine x_guard_none ?hy ?_ | refine x_cond_false ?hy ?_); case hy => rfl)
        | ((with_reducible refine block_exit_ne ?hy ?_); case hy => decide))
      refine lays_ok hB3 hi (without_cases x n) fun H4 hB4 f4 => ?_
      repeat' (first
        | (with_reducible first | refine seq_normal ?_ | (refine hK _ _ ?_; clear hK K) | refine x_seq (fun K hK => ?_) | refine x_nil ?_ | refine x_block ?_ | refine x_skip ?_ | refine x_exit ?_ | refine x_ret ?_ | refine x_label ?_ | refine x_scope ?_ | (refine seq_ret ?_; clear hK K) | (refine seq_exit ?_; clear hK K) | refine block_normal ?_ | refine block_ret ?_ | refine block_exit ?_ | refine loop_exit ?_ | refine loop_ret ?_)
        | ((with_reducible refine x_reg_lit ?hq ?_); case hq => rfl)
        | ((first | (with_reducible first | refine x_op (fun K hK => ?_) | refine end_ret ?_ | refine end_normal ?_) | ((with_reducible refine x_guard_yes ?hy (fun K hK => ?_)); case hy => rfl)); simp only [go_sem, Int.cast_ofNat_Int, Nat.reduceEqDiff, Nat.reduceAdd, Nat.reduceMul, Nat.reduceLeDiff, Nat.reduceLT, Int.reduceLT, Int.reduceLE, Int.reduceEq, Int.reduceNeg, Int.reduceToNat, Nat.reducePow, reduceIte, reduceCtorEq])
        | ((with_reducible first | refine x_guard_no ?hy ?_ | refine x_cond_true ?hy ?_); case hy => rfl)
        | ((with_reducible first | refine x_guard_none ?hy ?_ | refine x_cond_false ?hy ?_); case hy => rfl)
        | ((with_reducible refine block_exit_ne ?hy ?_); case hy => decide))
      exact hk _ _ hB4 ((fC.mono fun _ _ h => h.elim).trans f4)
    clear hK
    refine x_draw rfl (MS bk xs va vw b3 (opL kind s t n la ln lc)) [] qA ?_
    refine anyH_take (i := 0) (v := .pointer (some ⟨bk, 0, none⟩)) (show _ = some (Oper.mk (some 129) _ _ _ _ none) from rfl) (by kernel_rfl) (still_of rfl fun H' hS => by simp only [go_sem, Int.cast_ofNat_Int, Nat.reduceEqDiff, Nat.reduceAdd, Nat.reduceMul, Nat.reduceLeDiff, Nat.reduceLT, Int.reduceLT, Int.reduceLE, Int.reduceEq, Int.reduceNeg, Int.reduceToNat, Nat.reducePow, reduceIte, reduceCtorEq, r0]) qA ?_
    refine anyH_take (i := 1) (v := .int .i64 (i : Int)) (show _ = some (Oper.mk (some 130) _ _ _ _ none) from rfl) (by kernel_rfl) (still_of rfl fun H' hS => by simp only [go_sem, Int.cast_ofNat_Int, Nat.reduceEqDiff, Nat.reduceAdd, Nat.reduceMul, Nat.reduceLeDiff, Nat.reduceLT, Int.reduceLT, Int.reduceLE, Int.reduceEq, Int.reduceNeg, Int.reduceToNat, Nat.reducePow, reduceIte, reduceCtorEq, r5]) qA ?_
    refine anyH_take (i := 2) (v := .pointer (some ⟨bk, 0, none⟩)) (show _ = some (Oper.mk (some 131) _ _ _ _ none) from rfl) (by kernel_rfl) (still_of rfl fun H' hS => by simp only [go_sem, Int.cast_ofNat_Int, Nat.reduceEqDiff, Nat.reduceAdd, Nat.reduceMul, Nat.reduceLeDiff, Nat.reduceLT, Int.reduceLT, Int.reduceLE, Int.reduceEq, Int.reduceNeg, Int.reduceToNat, Nat.reducePow, reduceIte, reduceCtorEq]) qA ?_
    refine anyH_take (i := 3) (v := .pointer (some ⟨bk, 4, none⟩)) (show _ = some (Oper.mk (some 132) _ _ _ _ none) from rfl) (by kernel_rfl) (still_of rfl fun H' hS => by simp only [go_sem, Int.cast_ofNat_Int, Nat.reduceEqDiff, Nat.reduceAdd, Nat.reduceMul, Nat.reduceLeDiff, Nat.reduceLT, Int.reduceLT, Int.reduceLE, Int.reduceEq, Int.reduceNeg, Int.reduceToNat, Nat.reducePow, reduceIte, reduceCtorEq]) qA ?_
    refine anyH_take (i := 4) (v := .pointer (some ⟨bk, 4 + i * 64, none⟩)) (show _ = some (Oper.mk (some 133) _ _ _ _ none) from rfl) (by kernel_rfl) (still_of rfl fun H' hS => by simp only [go_sem, Int.cast_ofNat_Int, Nat.reduceEqDiff, Nat.reduceAdd, Nat.reduceMul, Nat.reduceLeDiff, Nat.reduceLT, Int.reduceLT, Int.reduceLE, Int.reduceEq, Int.reduceNeg, Int.reduceToNat, Nat.reducePow, reduceIte, reduceCtorEq, t4]) qA ?_
    refine anyH_take (i := 5) (v := dv x) (show _ = some (Oper.mk (some 134) _ _ _ _ none) from rfl) (by kernel_rfl) (still_of rfl fun H' hS => by simp only [go_sem, Int.cast_ofNat_Int, Nat.reduceEqDiff, Nat.reduceAdd, Nat.reduceMul, Nat.reduceLeDiff, Nat.reduceLT, Int.reduceLT, Int.reduceLE, Int.reduceEq, Int.reduceNeg, Int.reduceToNat, Nat.reducePow, reduceIte, reduceCtorEq, dv_fold]; exact hS.1.loadX hx rfl) qA ?_
    refine anyH_take (i := 6) (v := .pointer (some ⟨b3, 3, none⟩)) (show _ = some (Oper.mk (some 135) _ _ _ _ none) from rfl) (by kernel_rfl) (still_of rfl fun H' hS => by simp only [go_sem, Int.cast_ofNat_Int, Nat.reduceEqDiff, Nat.reduceAdd, Nat.reduceMul, Nat.reduceLeDiff, Nat.reduceLT, Int.reduceLT, Int.reduceLE, Int.reduceEq, Int.reduceNeg, Int.reduceToNat, Nat.reducePow, reduceIte, reduceCtorEq, r3]) qA ?_
    refine anyH_take (i := 7) (v := .int .i64 n) (show _ = some (Oper.mk (some 136) _ _ _ _ none) from rfl) (by kernel_rfl) (still_of rfl fun H' hS => by simp only [go_sem, Int.cast_ofNat_Int, Nat.reduceEqDiff, Nat.reduceAdd, Nat.reduceMul, Nat.reduceLeDiff, Nat.reduceLT, Int.reduceLT, Int.reduceLE, Int.reduceEq, Int.reduceNeg, Int.reduceToNat, Nat.reducePow, reduceIte, reduceCtorEq, hS.2.cellOf (i := 3) rfl]) qA ?_
    refine anyH_two (i := 8) (j := 12) (by kernel_rfl) (show _ = some (Oper.mk (some 137) _ _ _ _ none) from rfl) (show _ = some (Oper.mk (some 20) _ _ _ _ none) from rfl) rfl rfl (fun K' hK' => ?_) (fun K' hK' => ?_)
    · simp only [go_sem, Int.cast_ofNat_Int, Nat.reduceEqDiff, Nat.reduceAdd, Nat.reduceMul, Nat.reduceLeDiff, Nat.reduceLT, Int.reduceLT, Int.reduceLE, Int.reduceEq, Int.reduceNeg, Int.reduceToNat, Nat.reducePow, reduceIte, reduceCtorEq]
      refine dwith_ok_off fun H3 f3 => ?_
      refine hK' _ _ ⟨fun _ => qA.grow f3, ?_⟩
      refine anyH_take (i := 9) (v := .tuple #[dv (withoutQ x n).1, .int .i64 (withoutQ x n).2]) (show _ = some (Oper.mk (some 128) _ _ _ _ none) from rfl) (by kernel_rfl) (still_of rfl fun H' hS => by simp only [go_sem, Int.cast_ofNat_Int, Nat.reduceEqDiff, Nat.reduceAdd, Nat.reduceMul, Nat.reduceLeDiff, Nat.reduceLT, Int.reduceLT, Int.reduceLE, Int.reduceEq, Int.reduceNeg, Int.reduceToNat, Nat.reducePow, reduceIte, reduceCtorEq]) (qA.grow f3) ?_
      refine anyH_take (i := 10) (v := dv (withoutQ x n).1) (show _ = some (Oper.mk (some 138) _ _ _ _ none) from rfl) (by kernel_rfl) (still_of rfl fun H' hS => by simp only [go_sem, Int.cast_ofNat_Int, Nat.reduceEqDiff, Nat.reduceAdd, Nat.reduceMul, Nat.reduceLeDiff, Nat.reduceLT, Int.reduceLT, Int.reduceLE, Int.reduceEq, Int.reduceNeg, Int.reduceToNat, Nat.reducePow, reduceIte, reduceCtorEq]) (qA.grow f3) ?_
      refine anyH_take (i := 11) (v := .int .i64 (withoutQ x n).2) (show _ = some (Oper.mk (some 139) _ _ _ _ none) from rfl) (by kernel_rfl) (still_of rfl fun H' hS => by simp only [go_sem, Int.cast_ofNat_Int, Nat.reduceEqDiff, Nat.reduceAdd, Nat.reduceMul, Nat.reduceLeDiff, Nat.reduceLT, Int.reduceLT, Int.reduceLE, Int.reduceEq, Int.reduceNeg, Int.reduceToNat, Nat.reducePow, reduceIte, reduceCtorEq]) (qA.grow f3) ?_
      refine anyH_one (i := 12) (by kernel_rfl) (show _ = some (Oper.mk (some 20) _ _ _ _ none) from rfl) rfl (fun K' hK' => ?_)
      simp only [go_sem, Int.cast_ofNat_Int, Nat.reduceEqDiff, Nat.reduceAdd, Nat.reduceMul, Nat.reduceLeDiff, Nat.reduceLT, Int.reduceLT, Int.reduceLE, Int.reduceEq, Int.reduceNeg, Int.reduceToNat, Nat.reducePow, reduceIte, reduceCtorEq]
      have f4 : Fr (fun _ => False) H2 (H3.push (.cells (bools 0#64).toArray 42)) := f3.push _
      have b4 := Blk.new H3 (bools 0#64) 42
      have s3 := f3.size
      refine hK' _ _ ⟨fun _ => qA.grow f4, ?_⟩
      refine anyH_one (i := 13) (by kernel_rfl) (show _ = some (Oper.mk none _ _ _ _ none) from rfl) rfl (fun K' hK' => ?_)
      simp only [go_sem, Int.cast_ofNat_Int, Nat.reduceEqDiff, Nat.reduceAdd, Nat.reduceMul, Nat.reduceLeDiff, Nat.reduceLT, Int.reduceLT, Int.reduceLE, Int.reduceEq, Int.reduceNeg, Int.reduceToNat, Nat.reducePow, reduceIte, reduceCtorEq]
      refine ⟨bools_len _, store64 (o := 0) b4 (by rw [bools_len]; decide) fun H9 h9 f9 s9 => ?_⟩
      rw [over64] at h9
      have F9 : Fr (fun _ => False) H2 H9 := f4.trans' f9 fun b hb e => by subst e; omega
      have B9 := h9
      generalize hq9 : H3.size = qq at *
      refine hK' _ _ ⟨fun _ => qA.grow F9, ?_⟩
      refine anyH_one (i := 14) (by kernel_rfl) (show _ = some (Oper.mk (some 21) _ _ _ _ none) from rfl) rfl (fun K' hK' => ?_)
      simp only [go_sem, Int.cast_ofNat_Int, Nat.reduceEqDiff, Nat.reduceAdd, Nat.reduceMul, Nat.reduceLeDiff, Nat.reduceLT, Int.reduceLT, Int.reduceLE, Int.reduceEq, Int.reduceNeg, Int.reduceToNat, Nat.reducePow, reduceIte, reduceCtorEq]
      refine hK' _ _ ⟨fun _ => qA.grow F9, ?_⟩
      refine anyH_done (by kernel_rfl) ?_
      exact tailB _ _ qq rfl rfl rfl rfl rfl rfl rfl (by omega) B9 F9
    · simp only [go_sem, Int.cast_ofNat_Int, Nat.reduceEqDiff, Nat.reduceAdd, Nat.reduceMul, Nat.reduceLeDiff, Nat.reduceLT, Int.reduceLT, Int.reduceLE, Int.reduceEq, Int.reduceNeg, Int.reduceToNat, Nat.reducePow, reduceIte, reduceCtorEq]
      have f2 : Fr (fun _ => False) H2 (H2.push (.cells (bools 0#64).toArray 42)) := (Fr.refl _ _).push _
      have b2' := Blk.new H2 (bools 0#64) 42
      refine hK' _ _ ⟨fun _ => qA.grow f2, ?_⟩
      refine anyH_one (i := 8) (by kernel_rfl) (show _ = some (Oper.mk (some 137) _ _ _ _ none) from rfl) rfl (fun K' hK' => ?_)
      simp only [go_sem, Int.cast_ofNat_Int, Nat.reduceEqDiff, Nat.reduceAdd, Nat.reduceMul, Nat.reduceLeDiff, Nat.reduceLT, Int.reduceLT, Int.reduceLE, Int.reduceEq, Int.reduceNeg, Int.reduceToNat, Nat.reducePow, reduceIte, reduceCtorEq]
      refine dwith_ok_off fun H3 f3 => ?_
      have b3' := b2'.frame f3 (fun h => h)
      have f3' := f2.trans f3
      refine hK' _ _ ⟨fun _ => qA.grow f3', ?_⟩
      refine anyH_take (i := 9) (v := .tuple #[dv (withoutQ x n).1, .int .i64 (withoutQ x n).2]) (show _ = some (Oper.mk (some 128) _ _ _ _ none) from rfl) (by kernel_rfl) (still_of rfl fun H' hS => by simp only [go_sem, Int.cast_ofNat_Int, Nat.reduceEqDiff, Nat.reduceAdd, Nat.reduceMul, Nat.reduceLeDiff, Nat.reduceLT, Int.reduceLT, Int.reduceLE, Int.reduceEq, Int.reduceNeg, Int.reduceToNat, Nat.reducePow, reduceIte, reduceCtorEq]) (qA.grow f3') ?_
      refine anyH_take (i := 10) (v := dv (withoutQ x n).1) (show _ = some (Oper.mk (some 138) _ _ _ _ none) from rfl) (by kernel_rfl) (still_of rfl fun H' hS => by simp only [go_sem, Int.cast_ofNat_Int, Nat.reduceEqDiff, Nat.reduceAdd, Nat.reduceMul, Nat.reduceLeDiff, Nat.reduceLT, Int.reduceLT, Int.reduceLE, Int.reduceEq, Int.reduceNeg, Int.reduceToNat, Nat.reducePow, reduceIte, reduceCtorEq]) (qA.grow f3') ?_
      refine anyH_take (i := 11) (v := .int .i64 (withoutQ x n).2) (show _ = some (Oper.mk (some 139) _ _ _ _ none) from rfl) (by kernel_rfl) (still_of rfl fun H' hS => by simp only [go_sem, Int.cast_ofNat_Int, Nat.reduceEqDiff, Nat.reduceAdd, Nat.reduceMul, Nat.reduceLeDiff, Nat.reduceLT, Int.reduceLT, Int.reduceLE, Int.reduceEq, Int.reduceNeg, Int.reduceToNat, Nat.reducePow, reduceIte, reduceCtorEq]) (qA.grow f3') ?_
      refine anyH_one (i := 13) (by kernel_rfl) (show _ = some (Oper.mk none _ _ _ _ none) from rfl) rfl (fun K' hK' => ?_)
      simp only [go_sem, Int.cast_ofNat_Int, Nat.reduceEqDiff, Nat.reduceAdd, Nat.reduceMul, Nat.reduceLeDiff, Nat.reduceLT, Int.reduceLT, Int.reduceLE, Int.reduceEq, Int.reduceNeg, Int.reduceToNat, Nat.reducePow, reduceIte, reduceCtorEq]
      refine ⟨bools_len _, store64 (o := 0) b3' (by rw [bools_len]; decide) fun H9 h9 f9 s9 => ?_⟩
      rw [over64] at h9
      have F9 : Fr (fun _ => False) H2 H9 := f3'.trans' f9 fun b hb e => by subst e; omega
      have B9 := h9
      generalize hq9 : H2.size = qq at *
      refine hK' _ _ ⟨fun _ => qA.grow F9, ?_⟩
      refine anyH_one (i := 14) (by kernel_rfl) (show _ = some (Oper.mk (some 21) _ _ _ _ none) from rfl) rfl (fun K' hK' => ?_)
      simp only [go_sem, Int.cast_ofNat_Int, Nat.reduceEqDiff, Nat.reduceAdd, Nat.reduceMul, Nat.reduceLeDiff, Nat.reduceLT, Int.reduceLT, Int.reduceLE, Int.reduceEq, Int.reduceNeg, Int.reduceToNat, Nat.reducePow, reduceIte, reduceCtorEq]
      refine hK' _ _ ⟨fun _ => qA.grow F9, ?_⟩
      refine anyH_done (by kernel_rfl) ?_
      exact tailB _ _ qq rfl rfl rfl rfl rfl rfl rfl (by omega) B9 F9
  clear hK
  refine x_draw rfl (MS bk xs va vw b3 (opL kind s t n la ln lc)) [] q ?_
  refine anyH_take (i := 0) (v := .pointer (some ⟨bk, 0, none⟩)) (show _ = some (Oper.mk (some 117) _ _ _ _ none) from rfl) (by kernel_rfl) (still_of rfl fun H' hS => by simp only [go_sem, Int.cast_ofNat_Int, Nat.reduceEqDiff, Nat.reduceAdd, Nat.reduceMul, Nat.reduceLeDiff, Nat.reduceLT, Int.reduceLT, Int.reduceLE, Int.reduceEq, Int.reduceNeg, Int.reduceToNat, Nat.reducePow, reduceIte, reduceCtorEq, j0]) q ?_
  refine anyH_take (i := 1) (v := .int .i64 (i : Int)) (show _ = some (Oper.mk (some 118) _ _ _ _ none) from rfl) (by kernel_rfl) (still_of rfl fun H' hS => by simp only [go_sem, Int.cast_ofNat_Int, Nat.reduceEqDiff, Nat.reduceAdd, Nat.reduceMul, Nat.reduceLeDiff, Nat.reduceLT, Int.reduceLT, Int.reduceLE, Int.reduceEq, Int.reduceNeg, Int.reduceToNat, Nat.reducePow, reduceIte, reduceCtorEq, j5]) q ?_
  refine anyH_take (i := 2) (v := .pointer (some ⟨bk, 0, none⟩)) (show _ = some (Oper.mk (some 119) _ _ _ _ none) from rfl) (by kernel_rfl) (still_of rfl fun H' hS => by simp only [go_sem, Int.cast_ofNat_Int, Nat.reduceEqDiff, Nat.reduceAdd, Nat.reduceMul, Nat.reduceLeDiff, Nat.reduceLT, Int.reduceLT, Int.reduceLE, Int.reduceEq, Int.reduceNeg, Int.reduceToNat, Nat.reducePow, reduceIte, reduceCtorEq]) q ?_
  refine anyH_take (i := 3) (v := .pointer (some ⟨bk, 0, none⟩)) (show _ = some (Oper.mk (some 120) _ _ _ _ none) from rfl) (by kernel_rfl) (still_of rfl fun H' hS => by simp only [go_sem, Int.cast_ofNat_Int, Nat.reduceEqDiff, Nat.reduceAdd, Nat.reduceMul, Nat.reduceLeDiff, Nat.reduceLT, Int.reduceLT, Int.reduceLE, Int.reduceEq, Int.reduceNeg, Int.reduceToNat, Nat.reducePow, reduceIte, reduceCtorEq]) q ?_
  refine anyH_take (i := 4) (v := .pointer (some ⟨bk, i, none⟩)) (show _ = some (Oper.mk (some 121) _ _ _ _ none) from rfl) (by kernel_rfl) (still_of rfl fun H' hS => by simp only [go_sem, Int.cast_ofNat_Int, Nat.reduceEqDiff, Nat.reduceAdd, Nat.reduceMul, Nat.reduceLeDiff, Nat.reduceLT, Int.reduceLT, Int.reduceLE, Int.reduceEq, Int.reduceNeg, Int.reduceToNat, Nat.reducePow, reduceIte, reduceCtorEq, t4]) q ?_
  refine anyH_take (i := 5) (v := sv x) (show _ = some (Oper.mk (some 122) _ _ _ _ none) from rfl) (by kernel_rfl) (still_of rfl fun H' hS => by simp only [go_sem, Int.cast_ofNat_Int, Nat.reduceEqDiff, Nat.reduceAdd, Nat.reduceMul, Nat.reduceLeDiff, Nat.reduceLT, Int.reduceLT, Int.reduceLE, Int.reduceEq, Int.reduceNeg, Int.reduceToNat, Nat.reducePow, reduceIte, reduceCtorEq, hS.1.s hx]; rfl) q ?_
  refine anyH_take (i := 6) (v := .pointer (some ⟨b3, 3, none⟩)) (show _ = some (Oper.mk (some 123) _ _ _ _ none) from rfl) (by kernel_rfl) (still_of rfl fun H' hS => by simp only [go_sem, Int.cast_ofNat_Int, Nat.reduceEqDiff, Nat.reduceAdd, Nat.reduceMul, Nat.reduceLeDiff, Nat.reduceLT, Int.reduceLT, Int.reduceLE, Int.reduceEq, Int.reduceNeg, Int.reduceToNat, Nat.reducePow, reduceIte, reduceCtorEq, j3]) q ?_
  refine anyH_take (i := 7) (v := .int .i64 n) (show _ = some (Oper.mk (some 124) _ _ _ _ none) from rfl) (by kernel_rfl) (still_of rfl fun H' hS => by simp only [go_sem, Int.cast_ofNat_Int, Nat.reduceEqDiff, Nat.reduceAdd, Nat.reduceMul, Nat.reduceLeDiff, Nat.reduceLT, Int.reduceLT, Int.reduceLE, Int.reduceEq, Int.reduceNeg, Int.reduceToNat, Nat.reducePow, reduceIte, reduceCtorEq, hS.2.cellOf (i := 3) rfl]) q ?_
  refine anyH_two (i := 8) (j := 12) (by kernel_rfl) (show _ = some (Oper.mk (some 125) _ _ _ _ none) from rfl) (show _ = some (Oper.mk (some 18) _ _ _ _ none) from rfl) rfl rfl (fun K' hK' => ?_) (fun K' hK' => ?_)
  · simp only [go_sem, Int.cast_ofNat_Int, Nat.reduceEqDiff, Nat.reduceAdd, Nat.reduceMul, Nat.reduceLeDiff, Nat.reduceLT, Int.reduceLT, Int.reduceLE, Int.reduceEq, Int.reduceNeg, Int.reduceToNat, Nat.reducePow, reduceIte, reduceCtorEq]
    refine without_ok fun H3 f3 => ?_
    refine hK' _ _ ⟨fun _ => q.grow f3, ?_⟩
    refine anyH_take (i := 9) (v := .tuple #[sv (withoutQ x n).1, .int .i64 (withoutQ x n).2]) (show _ = some (Oper.mk (some 116) _ _ _ _ none) from rfl) (by kernel_rfl) (still_of rfl fun H' hS => by simp only [go_sem, Int.cast_ofNat_Int, Nat.reduceEqDiff, Nat.reduceAdd, Nat.reduceMul, Nat.reduceLeDiff, Nat.reduceLT, Int.reduceLT, Int.reduceLE, Int.reduceEq, Int.reduceNeg, Int.reduceToNat, Nat.reducePow, reduceIte, reduceCtorEq]) (q.grow f3) ?_
    refine anyH_take (i := 10) (v := sv (withoutQ x n).1) (show _ = some (Oper.mk (some 126) _ _ _ _ none) from rfl) (by kernel_rfl) (still_of rfl fun H' hS => by simp only [go_sem, Int.cast_ofNat_Int, Nat.reduceEqDiff, Nat.reduceAdd, Nat.reduceMul, Nat.reduceLeDiff, Nat.reduceLT, Int.reduceLT, Int.reduceLE, Int.reduceEq, Int.reduceNeg, Int.reduceToNat, Nat.reducePow, reduceIte, reduceCtorEq]) (q.grow f3) ?_
    refine anyH_take (i := 11) (v := .int .i64 (withoutQ x n).2) (show _ = some (Oper.mk (some 127) _ _ _ _ none) from rfl) (by kernel_rfl) (still_of rfl fun H' hS => by simp only [go_sem, Int.cast_ofNat_Int, Nat.reduceEqDiff, Nat.reduceAdd, Nat.reduceMul, Nat.reduceLeDiff, Nat.reduceLT, Int.reduceLT, Int.reduceLE, Int.reduceEq, Int.reduceNeg, Int.reduceToNat, Nat.reducePow, reduceIte, reduceCtorEq]) (q.grow f3) ?_
    refine anyH_one (i := 12) (by kernel_rfl) (show _ = some (Oper.mk (some 18) _ _ _ _ none) from rfl) rfl (fun K' hK' => ?_)
    simp only [go_sem, Int.cast_ofNat_Int, Nat.reduceEqDiff, Nat.reduceAdd, Nat.reduceMul, Nat.reduceLeDiff, Nat.reduceLT, Int.reduceLT, Int.reduceLE, Int.reduceEq, Int.reduceNeg, Int.reduceToNat, Nat.reducePow, reduceIte, reduceCtorEq]
    have f4 : Fr (fun _ => False) H1 (H3.push (.cells #[.int .u64 0] 26)) := f3.push _
    have b4 := Blk.new H3 [.int .u64 0] 26
    have s3 := f3.size
    refine hK' _ _ ⟨fun _ => q.grow f4, ?_⟩
    refine anyH_one (i := 13) (by kernel_rfl) (show _ = some (Oper.mk none _ _ _ _ none) from rfl) rfl (fun K' hK' => ?_)
    have wq := b4.okW (i := 0) (by simp)
    simp only [sv]
    simp only [go_sem, Int.cast_ofNat_Int, Nat.reduceEqDiff, Nat.reduceAdd, Nat.reduceMul, Nat.reduceLeDiff, Nat.reduceLT, Int.reduceLT, Int.reduceLE, Int.reduceEq, Int.reduceNeg, Int.reduceToNat, Nat.reducePow, reduceIte, reduceCtorEq, wq]
    have B9 := b4.set_same 0 (.int .u64 (((withoutQ x n).1).toNat : Int))
    have F9 : Fr (fun _ => False) H1 (hset (H3.push (.cells #[.int .u64 0] 26)) ⟨H3.size, 0, none⟩ (.int .u64 (((withoutQ x n).1).toNat : Int))) := Fr.set f4 (.inr (by show H1.size ≤ H3.size; omega)) _
    refine hK' _ _ ⟨fun _ => q.grow F9, ?_⟩
    refine anyH_one (i := 14) (by kernel_rfl) (show _ = some (Oper.mk (some 19) _ _ _ _ none) from rfl) rfl (fun K' hK' => ?_)
    simp only [go_sem, Int.cast_ofNat_Int, Nat.reduceEqDiff, Nat.reduceAdd, Nat.reduceMul, Nat.reduceLeDiff, Nat.reduceLT, Int.reduceLT, Int.reduceLE, Int.reduceEq, Int.reduceNeg, Int.reduceToNat, Nat.reducePow, reduceIte, reduceCtorEq]
    refine hK' _ _ ⟨fun _ => q.grow F9, ?_⟩
    refine anyH_done (by kernel_rfl) ?_
    exact tailA _ _ H3.size rfl rfl rfl rfl rfl  (by omega) B9 F9
  · simp only [go_sem, Int.cast_ofNat_Int, Nat.reduceEqDiff, Nat.reduceAdd, Nat.reduceMul, Nat.reduceLeDiff, Nat.reduceLT, Int.reduceLT, Int.reduceLE, Int.reduceEq, Int.reduceNeg, Int.reduceToNat, Nat.reducePow, reduceIte, reduceCtorEq]
    have f2 : Fr (fun _ => False) H1 (H1.push (.cells #[.int .u64 0] 26)) := (Fr.refl _ _).push _
    have b2' := Blk.new H1 [.int .u64 0] 26
    refine hK' _ _ ⟨fun _ => q.grow f2, ?_⟩
    refine anyH_one (i := 8) (by kernel_rfl) (show _ = some (Oper.mk (some 125) _ _ _ _ none) from rfl) rfl (fun K' hK' => ?_)
    simp only [go_sem, Int.cast_ofNat_Int, Nat.reduceEqDiff, Nat.reduceAdd, Nat.reduceMul, Nat.reduceLeDiff, Nat.reduceLT, Int.reduceLT, Int.reduceLE, Int.reduceEq, Int.reduceNeg, Int.reduceToNat, Nat.reducePow, reduceIte, reduceCtorEq]
    refine without_ok fun H3 f3 => ?_
    have b3' := b2'.frame f3 (fun h => h)
    have f3' := f2.trans f3
    refine hK' _ _ ⟨fun _ => q.grow f3', ?_⟩
    refine anyH_take (i := 9) (v := .tuple #[sv (withoutQ x n).1, .int .i64 (withoutQ x n).2]) (show _ = some (Oper.mk (some 116) _ _ _ _ none) from rfl) (by kernel_rfl) (still_of rfl fun H' hS => by simp only [go_sem, Int.cast_ofNat_Int, Nat.reduceEqDiff, Nat.reduceAdd, Nat.reduceMul, Nat.reduceLeDiff, Nat.reduceLT, Int.reduceLT, Int.reduceLE, Int.reduceEq, Int.reduceNeg, Int.reduceToNat, Nat.reducePow, reduceIte, reduceCtorEq]) (q.grow f3') ?_
    refine anyH_take (i := 10) (v := sv (withoutQ x n).1) (show _ = some (Oper.mk (some 126) _ _ _ _ none) from rfl) (by kernel_rfl) (still_of rfl fun H' hS => by simp only [go_sem, Int.cast_ofNat_Int, Nat.reduceEqDiff, Nat.reduceAdd, Nat.reduceMul, Nat.reduceLeDiff, Nat.reduceLT, Int.reduceLT, Int.reduceLE, Int.reduceEq, Int.reduceNeg, Int.reduceToNat, Nat.reducePow, reduceIte, reduceCtorEq]) (q.grow f3') ?_
    refine anyH_take (i := 11) (v := .int .i64 (withoutQ x n).2) (show _ = some (Oper.mk (some 127) _ _ _ _ none) from rfl) (by kernel_rfl) (still_of rfl fun H' hS => by simp only [go_sem, Int.cast_ofNat_Int, Nat.reduceEqDiff, Nat.reduceAdd, Nat.reduceMul, Nat.reduceLeDiff, Nat.reduceLT, Int.reduceLT, Int.reduceLE, Int.reduceEq, Int.reduceNeg, Int.reduceToNat, Nat.reducePow, reduceIte, reduceCtorEq]) (q.grow f3') ?_
    refine anyH_one (i := 13) (by kernel_rfl) (show _ = some (Oper.mk none _ _ _ _ none) from rfl) rfl (fun K' hK' => ?_)
    have wq := b3'.okW (i := 0) (by simp)
    simp only [sv]
    simp only [go_sem, Int.cast_ofNat_Int, Nat.reduceEqDiff, Nat.reduceAdd, Nat.reduceMul, Nat.reduceLeDiff, Nat.reduceLT, Int.reduceLT, Int.reduceLE, Int.reduceEq, Int.reduceNeg, Int.reduceToNat, Nat.reducePow, reduceIte, reduceCtorEq, wq]
    have B9 := b3'.set_same 0 (.int .u64 (((withoutQ x n).1).toNat : Int))
    have F9 : Fr (fun _ => False) H1 (hset H3 ⟨H1.size, 0, none⟩ (.int .u64 (((withoutQ x n).1).toNat : Int))) := Fr.set f3' (.inr (by show H1.size ≤ H1.size; omega)) _
    refine hK' _ _ ⟨fun _ => q.grow F9, ?_⟩
    refine anyH_one (i := 14) (by kernel_rfl) (show _ = some (Oper.mk (some 19) _ _ _ _ none) from rfl) rfl (fun K' hK' => ?_)
    simp only [go_sem, Int.cast_ofNat_Int, Nat.reduceEqDiff, Nat.reduceAdd, Nat.reduceMul, Nat.reduceLeDiff, Nat.reduceLT, Int.reduceLT, Int.reduceLE, Int.reduceEq, Int.reduceNeg, Int.reduceToNat, Nat.reducePow, reduceIte, reduceCtorEq]
    refine hK' _ _ ⟨fun _ => q.grow F9, ?_⟩
    refine anyH_done (by kernel_rfl) ?_
    exact tailA _ _ H1.size rfl rfl rfl rfl rfl  (by omega) B9 F9
end Go.Proofs.YtdhepjcdlkahnaaDoor
