/-
  The helpers of the laws of layer 3: stands, awake.
-/
import Derived.Test.YtndkbhlfbeiniaaSpLB
namespace Go.Proofs.Ytndkbhlfbeiniaa
open Go Go.Hp Go.Sp
set_option linter.all false
set_option maxRecDepth 100000
set_option maxHeartbeats 1600000

theorem RM.cell {H0 H : Heap} {f g n c : Nat} {T : Nat → Prop} {S : Sq} {all : List Nat} (h : RM H0 H f T S (some g) (.slice (some ⟨g, 0, none⟩) n c) all) {k x : Nat} (hk : all[k]? = some x) : hcell H ⟨g, k, none⟩ = some (.int .i64 (x : Nat)) :=
  h.ir.cell (by rw [List.getElem?_map, hk]; rfl)
theorem RM.open {H0 H : Heap} {f : Nat} {T : Nat → Prop} {S : Sq} {B : Option Nat} {v : Value} {all : List Nat} (h : RM H0 H f T S B v all) (hne : all ≠ []) :
    ∃ g c, B = some g ∧ v = .slice (some ⟨g, 0, none⟩) all.length c ∧ all.length ≤ c := by
  obtain ⟨g, c, h1, h2, _, h3⟩ := h.ir.rowAt (i := 0) (by rw [List.length_map]; exact List.length_pos_iff.2 hne)
  rw [List.length_map] at h2 h3
  exact ⟨g, c, h1, h2, h3⟩
theorem split_at' {l : List Nat} {i x : Nat} (h : l[i]? = some x) : l = l.take i ++ x :: l.drop (i + 1) := by
  have hlt := (List.getElem?_eq_some_iff.1 h).1
  have e : l[i] = x := (List.getElem?_eq_some_iff.1 h).2
  rw [← e, ← List.drop_eq_getElem_cons hlt, List.take_append_drop]
theorem stands_ok {H0 H : Heap} {f : Nat} {T : Nat → Prop} {S : Sq} {B : Option Nat} {v : Value} {all : List Nat} {K : Value → Heap → Prop} (hM : RM H0 H f T S B v all) (hr : S.rows = [all]) (hne : all ≠ [])
    (fin : ∀ H', RM H0 H' f T S B v all → K (.bool true) H') : CallsH Try.prog 26 #[.pointer (some ⟨f, 0, none⟩), v] H K := by
  obtain ⟨g, c, rfl, rfl, hc⟩ := hM.open hne
  have hpos := List.length_pos_iff.2 hne
  have hx : all ∈ S.rows := by rw [hr]; exact .head _
  have hlen : all.length ≤ 4096 := by have := hM.fo.len; rw [hr] at this; simpa using this
  obtain ⟨n, hn⟩ : ∃ n, n = all.length := ⟨_, rfl⟩
  rw [← hn] at hpos hlen hM fin ⊢
  have eq : IntKind.i64.wrap ((n : Int).tdiv 2) = ((n / 2 : Nat) : Int) := by
    rw [Int.tdiv_eq_ediv_of_nonneg (by omega), wrap_i64] <;> omega
  have hmid : n / 2 < n := by omega
  obtain ⟨w, hw⟩ : ∃ w, all[n / 2]? = some w := ⟨_, List.getElem?_eq_getElem (by omega)⟩
  obtain ⟨w0, hw0⟩ : ∃ w, all[0]? = some w := ⟨_, List.getElem?_eq_getElem (by omega)⟩
  have two : ((2 : Int) = 0) = False := by simp
  refine call26 (by simp) ?_
  simp only [Try.f26, Option.getD_some]
  have cw := hM.cell hw
  repeat' (first
    | (with_reducible first | refine seq_normal ?_ | (refine hK _ _ ?_; clear hK K) | refine x_seq (fun K hK => ?_) | refine x_nil ?_ | refine x_block ?_ | refine x_skip ?_ | refine x_exit ?_ | refine x_ret ?_ | refine x_label ?_ | refine x_scope ?_ | (refine seq_ret ?_; clear hK K) | (refine seq_exit ?_; clear hK K) | refine block_normal ?_ | refine block_ret ?_ | refine block_exit ?_ | refine loop_exit ?_ | refine loop_ret ?_)
    | ((with_reducible refine x_reg_lit ?hq ?_); case hq => rfl)
    | ((first | (with_reducible first | refine x_op (fun K hK => ?_) | refine end_ret ?_ | refine end_normal ?_) | ((with_reducible refine x_guard_yes ?hy (fun K hK => ?_)); case hy => rfl)); simp only [go_sem, Int.cast_ofNat_Int, Nat.reduceEqDiff, Nat.reduceAdd, Nat.reduceMul, Nat.reduceLeDiff, Nat.reduceLT, Int.reduceLT, Int.reduceLE, Int.reduceEq, Int.reduceNeg, Int.reduceToNat, Nat.reducePow, reduceIte, reduceCtorEq, eq, two, hmid, cw])
    | ((with_reducible first | refine x_guard_no ?hy ?_ | refine x_cond_true ?hy ?_); case hy => rfl)
    | ((with_reducible first | refine x_guard_none ?hy ?_ | refine x_cond_false ?hy ?_); case hy => rfl)
    | ((with_reducible refine block_exit_ne ?hy ?_); case hy => decide))
  refine m_all hM.fo hx (List.mem_of_getElem? hw) ?_
  intro H1 B1 v1 hF1 hi1 hB1 hf1
  have hM1 := hM.op hF1 hf1
  repeat' (first
    | (with_reducible first | refine seq_normal ?_ | (refine hK _ _ ?_; clear hK K) | refine x_seq (fun K hK => ?_) | refine x_nil ?_ | refine x_block ?_ | refine x_skip ?_ | refine x_exit ?_ | refine x_ret ?_ | refine x_label ?_ | refine x_scope ?_ | (refine seq_ret ?_; clear hK K) | (refine seq_exit ?_; clear hK K) | refine block_normal ?_ | refine block_ret ?_ | refine block_exit ?_ | refine loop_exit ?_ | refine loop_ret ?_)
    | ((with_reducible refine x_reg_lit ?hq ?_); case hq => rfl)
    | ((first | (with_reducible first | refine x_op (fun K hK => ?_) | refine end_ret ?_ | refine end_normal ?_) | ((with_reducible refine x_guard_yes ?hy (fun K hK => ?_)); case hy => rfl)); simp only [go_sem, Int.cast_ofNat_Int, Nat.reduceEqDiff, Nat.reduceAdd, Nat.reduceMul, Nat.reduceLeDiff, Nat.reduceLT, Int.reduceLT, Int.reduceLE, Int.reduceEq, Int.reduceNeg, Int.reduceToNat, Nat.reducePow, reduceIte, reduceCtorEq])
    | ((with_reducible first | refine x_guard_no ?hy ?_ | refine x_cond_true ?hy ?_); case hy => rfl)
    | ((with_reducible first | refine x_guard_none ?hy ?_ | refine x_cond_false ?hy ?_); case hy => rfl)
    | ((with_reducible refine block_exit_ne ?hy ?_); case hy => decide))
  refine Pkisthmuslaw03.same_ok hi1.rds hM1.ir.rds (by simp; omega) ?_
  have dt : decide (List.map Int.ofNat all = List.map Int.ofNat all) = true := by simp
  rw [dt]
  repeat' (first
    | (with_reducible first | refine seq_normal ?_ | (refine hK _ _ ?_; clear hK K) | refine x_seq (fun K hK => ?_) | refine x_nil ?_ | refine x_block ?_ | refine x_skip ?_ | refine x_exit ?_ | refine x_ret ?_ | refine x_label ?_ | refine x_scope ?_ | (refine seq_ret ?_; clear hK K) | (refine seq_exit ?_; clear hK K) | refine block_normal ?_ | refine block_ret ?_ | refine block_exit ?_ | refine loop_exit ?_ | refine loop_ret ?_)
    | ((with_reducible refine x_reg_lit ?hq ?_); case hq => rfl)
    | ((first | (with_reducible first | refine x_op (fun K hK => ?_) | refine end_ret ?_ | refine end_normal ?_) | ((with_reducible refine x_guard_yes ?hy (fun K hK => ?_)); case hy => rfl)); simp only [go_sem, Int.cast_ofNat_Int, Nat.reduceEqDiff, Nat.reduceAdd, Nat.reduceMul, Nat.reduceLeDiff, Nat.reduceLT, Int.reduceLT, Int.reduceLE, Int.reduceEq, Int.reduceNeg, Int.reduceToNat, Nat.reducePow, reduceIte, reduceCtorEq])
    | ((with_reducible first | refine x_guard_no ?hy ?_ | refine x_cond_true ?hy ?_); case hy => rfl)
    | ((with_reducible first | refine x_guard_none ?hy ?_ | refine x_cond_false ?hy ?_); case hy => rfl)
    | ((with_reducible refine block_exit_ne ?hy ?_); case hy => decide))
  refine x_loop (fun m e' H' => ∃ i : Nat, RM H0 H' f T S (some g) (.slice (some ⟨g, 0, none⟩) n c) all ∧ e' 8 = .int .i64 (i : Nat) ∧ i ≤ n ∧ m = n - i) n ⟨0, hM1, rfl, Nat.zero_le _, rfl⟩ ?_
  rintro m e1 H2 ⟨i, hM2, i8, hi, rfl⟩ hoff
  have i0 := (hoff 0 rfl).trans rfl
  have i1 := (hoff 1 rfl).trans rfl
  clear hoff
  by_cases hlt : i < n
  · obtain ⟨x, hxi⟩ : ∃ x, all[i]? = some x := ⟨_, List.getElem?_eq_getElem (by omega)⟩
    obtain ⟨y, hy⟩ : ∃ y, all[n - 1 - i]? = some y := ⟨_, List.getElem?_eq_getElem (by omega)⟩
    have cx := hM2.cell hxi
    have ew1 : IntKind.i64.wrap ((n : Int) - 1) = ((n - 1 : Nat) : Int) := by rw [wrap_i64] <;> omega
    have ew2 : IntKind.i64.wrap (((n - 1 : Nat) : Int) - (i : Int)) = ((n - 1 - i : Nat) : Int) := by rw [wrap_i64] <;> omega
    have ew : IntKind.i64.wrap ((i : Int) + 1) = ((i + 1 : Nat) : Int) := by rw [wrap_i64] <;> omega
    have hlt2 : n - 1 - i < n := by omega
    repeat' (first
      | (with_reducible first | refine seq_normal ?_ | (refine hK _ _ ?_; clear hK K) | refine x_seq (fun K hK => ?_) | refine x_nil ?_ | refine x_block ?_ | refine x_skip ?_ | refine x_exit ?_ | refine x_ret ?_ | refine x_label ?_ | refine x_scope ?_ | (refine seq_ret ?_; clear hK K) | (refine seq_exit ?_; clear hK K) | refine block_normal ?_ | refine block_ret ?_ | refine block_exit ?_ | refine loop_exit ?_ | refine loop_ret ?_)
      | ((with_reducible refine x_reg_lit ?hq ?_); case hq => rfl)
      | ((first | (with_reducible first | refine x_op (fun K hK => ?_) | refine end_ret ?_ | refine end_normal ?_) | ((with_reducible refine x_guard_yes ?hy (fun K hK => ?_)); case hy => rfl)); simp only [go_sem, Int.cast_ofNat_Int, Nat.reduceEqDiff, Nat.reduceAdd, Nat.reduceMul, Nat.reduceLeDiff, Nat.reduceLT, Int.reduceLT, Int.reduceLE, Int.reduceEq, Int.reduceNeg, Int.reduceToNat, Nat.reducePow, reduceIte, reduceCtorEq, i0, i1, i8, hlt, cx])
      | ((with_reducible first | refine x_guard_no ?hy ?_ | refine x_cond_true ?hy ?_); case hy => rfl)
      | ((with_reducible first | refine x_guard_none ?hy ?_ | refine x_cond_false ?hy ?_); case hy => rfl)
      | ((with_reducible refine block_exit_ne ?hy ?_); case hy => decide))
    refine m_rank hM2.fo hx (split_at' hxi) ?_
    intro H3 hF3 hf3
    have hM3 := hM2.op hF3 hf3
    have cy := hM3.cell hy
    have etl : (all.take i).length = i := by simp; omega
    rw [etl]
    repeat' (first
      | (with_reducible first | refine seq_normal ?_ | (refine hK _ _ ?_; clear hK K) | refine x_seq (fun K hK => ?_) | refine x_nil ?_ | refine x_block ?_ | refine x_skip ?_ | refine x_exit ?_ | refine x_ret ?_ | refine x_label ?_ | refine x_scope ?_ | (refine seq_ret ?_; clear hK K) | (refine seq_exit ?_; clear hK K) | refine block_normal ?_ | refine block_ret ?_ | refine block_exit ?_ | refine loop_exit ?_ | refine loop_ret ?_)
      | ((with_reducible refine x_reg_lit ?hq ?_); case hq => rfl)
      | ((first | (with_reducible first | refine x_op (fun K hK => ?_) | refine end_ret ?_ | refine end_normal ?_) | ((with_reducible refine x_guard_yes ?hy (fun K hK => ?_)); case hy => rfl)); simp only [go_sem, Int.cast_ofNat_Int, Nat.reduceEqDiff, Nat.reduceAdd, Nat.reduceMul, Nat.reduceLeDiff, Nat.reduceLT, Int.reduceLT, Int.reduceLE, Int.reduceEq, Int.reduceNeg, Int.reduceToNat, Nat.reducePow, reduceIte, reduceCtorEq, i0, i1, i8, ew1, ew2, hlt2, cy])
      | ((with_reducible first | refine x_guard_no ?hy ?_ | refine x_cond_true ?hy ?_); case hy => rfl)
      | ((with_reducible first | refine x_guard_none ?hy ?_ | refine x_cond_false ?hy ?_); case hy => rfl)
      | ((with_reducible refine block_exit_ne ?hy ?_); case hy => decide))
    refine m_at (n := i) hM3.fo hx (List.mem_of_getElem? hy) hxi ?_
    intro H4 hF4 hf4
    have hM4 := hM3.op hF4 hf4
    have cx4 := hM4.cell hxi
    have z1 : ((i : Int) != (i : Int)) = false := by simp
    have z2 : ((x : Int) != (x : Int)) = false := by simp
    repeat' (first
      | (with_reducible first | refine seq_normal ?_ | (refine hK _ _ ?_; clear hK K) | refine x_seq (fun K hK => ?_) | refine x_nil ?_ | refine x_block ?_ | refine x_skip ?_ | refine x_exit ?_ | refine x_ret ?_ | refine x_label ?_ | refine x_scope ?_ | (refine seq_ret ?_; clear hK K) | (refine seq_exit ?_; clear hK K) | refine block_normal ?_ | refine block_ret ?_ | refine block_exit ?_ | refine loop_exit ?_ | refine loop_ret ?_)
      | ((with_reducible refine x_reg_lit ?hq ?_); case hq => rfl)
      | ((first | (with_reducible first | refine x_op (fun K hK => ?_) | refine end_ret ?_ | refine end_normal ?_) | ((with_reducible refine x_guard_yes ?hy (fun K hK => ?_)); case hy => rfl)); simp only [go_sem, Int.cast_ofNat_Int, Nat.reduceEqDiff, Nat.reduceAdd, Nat.reduceMul, Nat.reduceLeDiff, Nat.reduceLT, Int.reduceLT, Int.reduceLE, Int.reduceEq, Int.reduceNeg, Int.reduceToNat, Nat.reducePow, reduceIte, reduceCtorEq, i0, i1, i8, hlt, cx4, z1, z2, ew])
      | ((with_reducible first | refine x_guard_no ?hy ?_ | refine x_cond_true ?hy ?_); case hy => rfl)
      | ((with_reducible first | refine x_guard_none ?hy ?_ | refine x_cond_false ?hy ?_); case hy => rfl)
      | ((with_reducible refine block_exit_ne ?hy ?_); case hy => decide))
    exact loop_normal (m' := n - (i + 1)) (by omega) ⟨i + 1, hM4, rfl, by omega, rfl⟩
  · have t1 : (i < n) = False := by simp; omega
    have c0 := hM2.cell hw0
    have t2 : (0 < n) = True := by simp; omega
    have t3 : ((0 : Int) < (n : Int)) = True := by simp; omega
    repeat' (first
      | (with_reducible first | refine seq_normal ?_ | (refine hK _ _ ?_; clear hK K) | refine x_seq (fun K hK => ?_) | refine x_nil ?_ | refine x_block ?_ | refine x_skip ?_ | refine x_exit ?_ | refine x_ret ?_ | refine x_label ?_ | refine x_scope ?_ | (refine seq_ret ?_; clear hK K) | (refine seq_exit ?_; clear hK K) | refine block_normal ?_ | refine block_ret ?_ | refine block_exit ?_ | refine loop_exit ?_ | refine loop_ret ?_)
      | ((with_reducible refine x_reg_lit ?hq ?_); case hq => rfl)
      | ((first | (with_reducible first | refine x_op (fun K hK => ?_) | refine end_ret ?_ | refine end_normal ?_) | ((with_reducible refine x_guard_yes ?hy (fun K hK => ?_)); case hy => rfl)); simp only [go_sem, Int.cast_ofNat_Int, Nat.reduceEqDiff, Nat.reduceAdd, Nat.reduceMul, Nat.reduceLeDiff, Nat.reduceLT, Int.reduceLT, Int.reduceLE, Int.reduceEq, Int.reduceNeg, Int.reduceToNat, Nat.reducePow, reduceIte, reduceCtorEq, i0, i1, i8, t1, t2, t3, c0])
      | ((with_reducible first | refine x_guard_no ?hy ?_ | refine x_cond_true ?hy ?_); case hy => rfl)
      | ((with_reducible first | refine x_guard_none ?hy ?_ | refine x_cond_false ?hy ?_); case hy => rfl)
      | ((with_reducible refine block_exit_ne ?hy ?_); case hy => decide))
    refine m_at_bad (n := (n : Int)) hM2.fo hx (List.mem_of_getElem? hw0) (.inr (by omega)) ?_
    intro H3 hF3 hf3
    have hM3 := hM2.op hF3 hf3
    have c0' := hM3.cell hw0
    repeat' (first
      | (with_reducible first | refine seq_normal ?_ | (refine hK _ _ ?_; clear hK K) | refine x_seq (fun K hK => ?_) | refine x_nil ?_ | refine x_block ?_ | refine x_skip ?_ | refine x_exit ?_ | refine x_ret ?_ | refine x_label ?_ | refine x_scope ?_ | (refine seq_ret ?_; clear hK K) | (refine seq_exit ?_; clear hK K) | refine block_normal ?_ | refine block_ret ?_ | refine block_exit ?_ | refine loop_exit ?_ | refine loop_ret ?_)
      | ((with_reducible refine x_reg_lit ?hq ?_); case hq => rfl)
      | ((first | (with_reducible first | refine x_op (fun K hK => ?_) | refine end_ret ?_ | refine end_normal ?_) | ((with_reducible refine x_guard_yes ?hy (fun K hK => ?_)); case hy => rfl)); simp only [go_sem, Int.cast_ofNat_Int, Nat.reduceEqDiff, Nat.reduceAdd, Nat.reduceMul, Nat.reduceLeDiff, Nat.reduceLT, Int.reduceLT, Int.reduceLE, Int.reduceEq, Int.reduceNeg, Int.reduceToNat, Nat.reducePow, reduceIte, reduceCtorEq, i0, i1, i8, t2, t3, c0'])
      | ((with_reducible first | refine x_guard_no ?hy ?_ | refine x_cond_true ?hy ?_); case hy => rfl)
      | ((with_reducible first | refine x_guard_none ?hy ?_ | refine x_cond_false ?hy ?_); case hy => rfl)
      | ((with_reducible refine block_exit_ne ?hy ?_); case hy => decide))
    refine m_at_bad (n := -1) hM3.fo hx (List.mem_of_getElem? hw0) (.inl (by omega)) ?_
    intro H4 hF4 hf4
    have hM4 := hM3.op hF4 hf4
    repeat' (first
      | (with_reducible first | refine seq_normal ?_ | (refine hK _ _ ?_; clear hK K) | refine x_seq (fun K hK => ?_) | refine x_nil ?_ | refine x_block ?_ | refine x_skip ?_ | refine x_exit ?_ | refine x_ret ?_ | refine x_label ?_ | refine x_scope ?_ | (refine seq_ret ?_; clear hK K) | (refine seq_exit ?_; clear hK K) | refine block_normal ?_ | refine block_ret ?_ | refine block_exit ?_ | refine loop_exit ?_ | refine loop_ret ?_)
      | ((with_reducible refine x_reg_lit ?hq ?_); case hq => rfl)
      | ((first | (with_reducible first | refine x_op (fun K hK => ?_) | refine end_ret ?_ | refine end_normal ?_) | ((with_reducible refine x_guard_yes ?hy (fun K hK => ?_)); case hy => rfl)); simp only [go_sem, Int.cast_ofNat_Int, Nat.reduceEqDiff, Nat.reduceAdd, Nat.reduceMul, Nat.reduceLeDiff, Nat.reduceLT, Int.reduceLT, Int.reduceLE, Int.reduceEq, Int.reduceNeg, Int.reduceToNat, Nat.reducePow, reduceIte, reduceCtorEq])
      | ((with_reducible first | refine x_guard_no ?hy ?_ | refine x_cond_true ?hy ?_); case hy => rfl)
      | ((with_reducible first | refine x_guard_none ?hy ?_ | refine x_cond_false ?hy ?_); case hy => rfl)
      | ((with_reducible refine block_exit_ne ?hy ?_); case hy => decide))
    exact fin _ hM4
theorem aggFlat : flatS Try.prog 42 = some [(.int .i64, 0), (.int .i64, 1), (.int .i64, 2), (.int .i64, 3), (.int .i64, 4)] := by kernel_rfl
theorem agg_eq {op : BinOp} {ox oy : Operand} {a b : Agg} {H : Heap} {K : Value → Prop} (hK : match op with | .eql => K (.bool (decide (a = b))) | .neq => K (.bool (!decide (a = b))) | _ => False) : binX Try.prog op 42 ox oy a.val b.val H K := by
  refine binX_flat aggFlat (b := decide (a = b)) ?_ hK
  obtain ⟨a1, a2, a3, a4, a5⟩ := a
  obtain ⟨b1, b2, b3, b4, b5⟩ := b
  simp only [allEq, sEq, List.getElem?_toArray, List.getElem?_cons_zero, List.getElem?_cons_succ, if_true, Agg.mk.injEq]
  have key : ∀ x y : Int, (x == y) = decide (x = y) := fun x y => by by_cases h : x = y <;> simp [h]
  simp only [key]
  by_cases h1 : a1 = b1 <;> by_cases h2 : a2 = b2 <;> by_cases h3 : a3 = b3 <;> by_cases h4 : a4 = b4 <;> by_cases h5 : a5 = b5 <;> simp [h1, h2, h3, h4, h5]
theorem awake_ok {H : Heap} {K : Value → Heap → Prop} (fin : ∀ H', Fr (fun _ => False) H H' → K (.bool true) H') : CallsH Try.prog 11 #[] H K := by
  refine call11 (by simp) ?_
  simp only [Try.f11, Option.getD_some]
  repeat' (first
    | (with_reducible first | refine seq_normal ?_ | (refine hK _ _ ?_; clear hK K) | refine x_seq (fun K hK => ?_) | refine x_nil ?_ | refine x_block ?_ | refine x_skip ?_ | refine x_exit ?_ | refine x_ret ?_ | refine x_label ?_ | refine x_scope ?_ | (refine seq_ret ?_; clear hK K) | (refine seq_exit ?_; clear hK K) | refine block_normal ?_ | refine block_ret ?_ | refine block_exit ?_ | refine loop_exit ?_ | refine loop_ret ?_)
    | ((with_reducible refine x_reg_lit ?hq ?_); case hq => rfl)
    | ((first | (with_reducible first | refine x_op (fun K hK => ?_) | refine end_ret ?_ | refine end_normal ?_) | ((with_reducible refine x_guard_yes ?hy (fun K hK => ?_)); case hy => rfl)); simp only [go_sem, Int.cast_ofNat_Int, Nat.reduceEqDiff, Nat.reduceAdd, Nat.reduceMul, Nat.reduceLeDiff, Nat.reduceLT, Int.reduceLT, Int.reduceLE, Int.reduceEq, Int.reduceNeg, Int.reduceToNat, Nat.reducePow, reduceIte, reduceCtorEq])
    | ((with_reducible first | refine x_guard_no ?hy ?_ | refine x_cond_true ?hy ?_); case hy => rfl)
    | ((with_reducible first | refine x_guard_none ?hy ?_ | refine x_cond_false ?hy ?_); case hy => rfl)
    | ((with_reducible refine block_exit_ne ?hy ?_); case hy => decide))
  refine new_ok (n := 3) (by omega) ?_
  intro H1 f T1 hF1 hf1 hT1 hTf
  repeat' (first
    | (with_reducible first | refine seq_normal ?_ | (refine hK _ _ ?_; clear hK K) | refine x_seq (fun K hK => ?_) | refine x_nil ?_ | refine x_block ?_ | refine x_skip ?_ | refine x_exit ?_ | refine x_ret ?_ | refine x_label ?_ | refine x_scope ?_ | (refine seq_ret ?_; clear hK K) | (refine seq_exit ?_; clear hK K) | refine block_normal ?_ | refine block_ret ?_ | refine block_exit ?_ | refine loop_exit ?_ | refine loop_ret ?_)
    | ((with_reducible refine x_reg_lit ?hq ?_); case hq => rfl)
    | ((first | (with_reducible first | refine x_op (fun K hK => ?_) | refine end_ret ?_ | refine end_normal ?_) | ((with_reducible refine x_guard_yes ?hy (fun K hK => ?_)); case hy => rfl)); simp only [go_sem, Int.cast_ofNat_Int, Nat.reduceEqDiff, Nat.reduceAdd, Nat.reduceMul, Nat.reduceLeDiff, Nat.reduceLT, Int.reduceLT, Int.reduceLE, Int.reduceEq, Int.reduceNeg, Int.reduceToNat, Nat.reducePow, reduceIte, reduceCtorEq])
    | ((with_reducible first | refine x_guard_no ?hy ?_ | refine x_cond_true ?hy ?_); case hy => rfl)
    | ((with_reducible first | refine x_guard_none ?hy ?_ | refine x_cond_false ?hy ?_); case hy => rfl)
    | ((with_reducible refine block_exit_ne ?hy ?_); case hy => decide))
  refine make_ok (x := ⟨5, true, 1⟩) hF1 ⟨⟨by decide, by decide⟩, by decide, by decide⟩ ⟨by decide, by decide, by decide, by decide⟩ (by decide) ?_
  intro H2 T2 hF2 hf2 hT2 _
  have n1 : (Sq.new 3).next = 1 := rfl
  rw [n1]
  repeat' (first
    | (with_reducible first | refine seq_normal ?_ | (refine hK _ _ ?_; clear hK K) | refine x_seq (fun K hK => ?_) | refine x_nil ?_ | refine x_block ?_ | refine x_skip ?_ | refine x_exit ?_ | refine x_ret ?_ | refine x_label ?_ | refine x_scope ?_ | (refine seq_ret ?_; clear hK K) | (refine seq_exit ?_; clear hK K) | refine block_normal ?_ | refine block_ret ?_ | refine block_exit ?_ | refine loop_exit ?_ | refine loop_ret ?_)
    | ((with_reducible refine x_reg_lit ?hq ?_); case hq => rfl)
    | ((first | (with_reducible first | refine x_op (fun K hK => ?_) | refine end_ret ?_ | refine end_normal ?_) | ((with_reducible refine x_guard_yes ?hy (fun K hK => ?_)); case hy => rfl)); simp only [go_sem, Int.cast_ofNat_Int, Nat.reduceEqDiff, Nat.reduceAdd, Nat.reduceMul, Nat.reduceLeDiff, Nat.reduceLT, Int.reduceLT, Int.reduceLE, Int.reduceEq, Int.reduceNeg, Int.reduceToNat, Nat.reducePow, reduceIte, reduceCtorEq])
    | ((with_reducible first | refine x_guard_no ?hy ?_ | refine x_cond_true ?hy ?_); case hy => rfl)
    | ((with_reducible first | refine x_guard_none ?hy ?_ | refine x_cond_false ?hy ?_); case hy => rfl)
    | ((with_reducible refine block_exit_ne ?hy ?_); case hy => decide))
  refine make_ok (x := ⟨7, false, 2⟩) hF2 ⟨⟨by decide, by decide⟩, by decide, by decide⟩ ⟨by decide, by decide, by decide, by decide⟩ (by decide) ?_
  intro H3 T3 hF3 hf3 hT3 _
  have n2 : ((Sq.new 3).made ⟨5, true, 1⟩).next = 2 := rfl
  rw [n2]
  repeat' (first
    | (with_reducible first | refine seq_normal ?_ | (refine hK _ _ ?_; clear hK K) | refine x_seq (fun K hK => ?_) | refine x_nil ?_ | refine x_block ?_ | refine x_skip ?_ | refine x_exit ?_ | refine x_ret ?_ | refine x_label ?_ | refine x_scope ?_ | (refine seq_ret ?_; clear hK K) | (refine seq_exit ?_; clear hK K) | refine block_normal ?_ | refine block_ret ?_ | refine block_exit ?_ | refine loop_exit ?_ | refine loop_ret ?_)
    | ((with_reducible refine x_reg_lit ?hq ?_); case hq => rfl)
    | ((first | (with_reducible first | refine x_op (fun K hK => ?_) | refine end_ret ?_ | refine end_normal ?_) | ((with_reducible refine x_guard_yes ?hy (fun K hK => ?_)); case hy => rfl)); simp only [go_sem, Int.cast_ofNat_Int, Nat.reduceEqDiff, Nat.reduceAdd, Nat.reduceMul, Nat.reduceLeDiff, Nat.reduceLT, Int.reduceLT, Int.reduceLE, Int.reduceEq, Int.reduceNeg, Int.reduceToNat, Nat.reducePow, reduceIte, reduceCtorEq])
    | ((with_reducible first | refine x_guard_no ?hy ?_ | refine x_cond_true ?hy ?_); case hy => rfl)
    | ((with_reducible first | refine x_guard_none ?hy ?_ | refine x_cond_false ?hy ?_); case hy => rfl)
    | ((with_reducible refine block_exit_ne ?hy ?_); case hy => decide))
  refine make_ok (x := ⟨-3, true, 0⟩) hF3 ⟨⟨by decide, by decide⟩, by decide, by decide⟩ ⟨by decide, by decide, by decide, by decide⟩ (by decide) ?_
  intro H4 T4 hF4 hf4 hT4 _
  have n3 : (((Sq.new 3).made ⟨5, true, 1⟩).made ⟨7, false, 2⟩).next = 3 := rfl
  rw [n3]
  repeat' (first
    | (with_reducible first | refine seq_normal ?_ | (refine hK _ _ ?_; clear hK K) | refine x_seq (fun K hK => ?_) | refine x_nil ?_ | refine x_block ?_ | refine x_skip ?_ | refine x_exit ?_ | refine x_ret ?_ | refine x_label ?_ | refine x_scope ?_ | (refine seq_ret ?_; clear hK K) | (refine seq_exit ?_; clear hK K) | refine block_normal ?_ | refine block_ret ?_ | refine block_exit ?_ | refine loop_exit ?_ | refine loop_ret ?_)
    | ((with_reducible refine x_reg_lit ?hq ?_); case hq => rfl)
    | ((first | (with_reducible first | refine x_op (fun K hK => ?_) | refine end_ret ?_ | refine end_normal ?_) | ((with_reducible refine x_guard_yes ?hy (fun K hK => ?_)); case hy => rfl)); simp only [go_sem, Int.cast_ofNat_Int, Nat.reduceEqDiff, Nat.reduceAdd, Nat.reduceMul, Nat.reduceLeDiff, Nat.reduceLT, Int.reduceLT, Int.reduceLE, Int.reduceEq, Int.reduceNeg, Int.reduceToNat, Nat.reducePow, reduceIte, reduceCtorEq])
    | ((with_reducible first | refine x_guard_no ?hy ?_ | refine x_cond_true ?hy ?_); case hy => rfl)
    | ((with_reducible first | refine x_guard_none ?hy ?_ | refine x_cond_false ?hy ?_); case hy => rfl)
    | ((with_reducible refine block_exit_ne ?hy ?_); case hy => decide))
  refine m_join (k := 1) (j := 2) (xs := [1]) (ys := [2]) (R := [[3]]) hF4 (by decide) (by decide) (by decide) ?_
  intro H5 hF5 hf5
  repeat' (first
    | (with_reducible first | refine seq_normal ?_ | (refine hK _ _ ?_; clear hK K) | refine x_seq (fun K hK => ?_) | refine x_nil ?_ | refine x_block ?_ | refine x_skip ?_ | refine x_exit ?_ | refine x_ret ?_ | refine x_label ?_ | refine x_scope ?_ | (refine seq_ret ?_; clear hK K) | (refine seq_exit ?_; clear hK K) | refine block_normal ?_ | refine block_ret ?_ | refine block_exit ?_ | refine loop_exit ?_ | refine loop_ret ?_)
    | ((with_reducible refine x_reg_lit ?hq ?_); case hq => rfl)
    | ((first | (with_reducible first | refine x_op (fun K hK => ?_) | refine end_ret ?_ | refine end_normal ?_) | ((with_reducible refine x_guard_yes ?hy (fun K hK => ?_)); case hy => rfl)); simp only [go_sem, Int.cast_ofNat_Int, Nat.reduceEqDiff, Nat.reduceAdd, Nat.reduceMul, Nat.reduceLeDiff, Nat.reduceLT, Int.reduceLT, Int.reduceLE, Int.reduceEq, Int.reduceNeg, Int.reduceToNat, Nat.reducePow, reduceIte, reduceCtorEq])
    | ((with_reducible first | refine x_guard_no ?hy ?_ | refine x_cond_true ?hy ?_); case hy => rfl)
    | ((with_reducible first | refine x_guard_none ?hy ?_ | refine x_cond_false ?hy ?_); case hy => rfl)
    | ((with_reducible refine block_exit_ne ?hy ?_); case hy => decide))
  refine m_join (k := 2) (j := 3) (xs := [1, 2]) (ys := [3]) (R := []) hF5 (by decide) (by decide) (by decide) ?_
  intro H6 hF6 hf6
  repeat' (first
    | (with_reducible first | refine seq_normal ?_ | (refine hK _ _ ?_; clear hK K) | refine x_seq (fun K hK => ?_) | refine x_nil ?_ | refine x_block ?_ | refine x_skip ?_ | refine x_exit ?_ | refine x_ret ?_ | refine x_label ?_ | refine x_scope ?_ | (refine seq_ret ?_; clear hK K) | (refine seq_exit ?_; clear hK K) | refine block_normal ?_ | refine block_ret ?_ | refine block_exit ?_ | refine loop_exit ?_ | refine loop_ret ?_)
    | ((with_reducible refine x_reg_lit ?hq ?_); case hq => rfl)
    | ((first | (with_reducible first | refine x_op (fun K hK => ?_) | refine end_ret ?_ | refine end_normal ?_) | ((with_reducible refine x_guard_yes ?hy (fun K hK => ?_)); case hy => rfl)); simp only [go_sem, Int.cast_ofNat_Int, Nat.reduceEqDiff, Nat.reduceAdd, Nat.reduceMul, Nat.reduceLeDiff, Nat.reduceLT, Int.reduceLT, Int.reduceLE, Int.reduceEq, Int.reduceNeg, Int.reduceToNat, Nat.reducePow, reduceIte, reduceCtorEq])
    | ((with_reducible first | refine x_guard_no ?hy ?_ | refine x_cond_true ?hy ?_); case hy => rfl)
    | ((with_reducible first | refine x_guard_none ?hy ?_ | refine x_cond_false ?hy ?_); case hy => rfl)
    | ((with_reducible refine block_exit_ne ?hy ?_); case hy => decide))
  refine m_sum (k := 2) (xs := [1, 2, 3]) hF6 (by decide) (by decide) ?_
  intro H7 hF7 hf7
  have ea : aggOf ((((Sq.new 3).made ⟨5, true, 1⟩).made ⟨7, false, 2⟩).made ⟨-3, true, 0⟩).it [1, 2, 3] = ⟨2, 2, -3, 5, 3⟩ := by decide
  have ea' : ∀ S : Sq, S.it = ((((Sq.new 3).made ⟨5, true, 1⟩).made ⟨7, false, 2⟩).made ⟨-3, true, 0⟩).it → aggOf S.it [1, 2, 3] = ⟨2, 2, -3, 5, 3⟩ := fun S h => by rw [h]; exact ea
  rw [ea' _ rfl]
  repeat' (first
    | (with_reducible first | refine seq_normal ?_ | (refine hK _ _ ?_; clear hK K) | refine x_seq (fun K hK => ?_) | refine x_nil ?_ | refine x_block ?_ | refine x_skip ?_ | refine x_exit ?_ | refine x_ret ?_ | refine x_label ?_ | refine x_scope ?_ | (refine seq_ret ?_; clear hK K) | (refine seq_exit ?_; clear hK K) | refine block_normal ?_ | refine block_ret ?_ | refine block_exit ?_ | refine loop_exit ?_ | refine loop_ret ?_)
    | ((with_reducible refine x_reg_lit ?hq ?_); case hq => rfl)
    | ((first | (with_reducible first | refine x_op (fun K hK => ?_) | refine end_ret ?_ | refine end_normal ?_) | ((with_reducible refine x_guard_yes ?hy (fun K hK => ?_)); case hy => rfl)); simp only [go_sem, Int.cast_ofNat_Int, Nat.reduceEqDiff, Nat.reduceAdd, Nat.reduceMul, Nat.reduceLeDiff, Nat.reduceLT, Int.reduceLT, Int.reduceLE, Int.reduceEq, Int.reduceNeg, Int.reduceToNat, Nat.reducePow, reduceIte, reduceCtorEq, Agg.val, hcell_push, hcell_top, okW_push, okW_top, hcell_hset_ne, hcell_hset_off, hcell_hset_eq, okW_hset, hset_size, Array.size_push, Nat.lt_add_one, ne_add_one, add_one_ne, Nat.add_assoc, add_same, add_lt_same, Nat.reduceEqDiff, lt_add_k, add_k_ne, ne_add_k])
    | ((with_reducible first | refine x_guard_no ?hy ?_ | refine x_cond_true ?hy ?_); case hy => rfl)
    | ((with_reducible first | refine x_guard_none ?hy ?_ | refine x_cond_false ?hy ?_); case hy => rfl)
    | ((with_reducible refine block_exit_ne ?hy ?_); case hy => decide))
  generalize hH8 : hset _ _ _ = H8
  have hf8 : Fr (fun _ => False) H7 H8 := by rw [← hH8]; exact (by ((repeat (first | refine Fr.set ?_ (by simp) _ | refine Fr.push ?_ _)); exact Fr.refl _ _))
  have q8 : Cells [(H7.size, 0, .int .i64 2), (H7.size, 1, .int .i64 2), (H7.size, 2, .int .i64 (-3)), (H7.size, 3, .int .i64 5), (H7.size, 4, .int .i64 3)] H8 := by
    rw [← hH8]
    simp only [go_sem, Int.cast_ofNat_Int, Nat.reduceEqDiff, Nat.reduceAdd, Nat.reduceMul, Nat.reduceLeDiff, Nat.reduceLT, Int.reduceLT, Int.reduceLE, Int.reduceEq, Int.reduceNeg, Int.reduceToNat, Nat.reducePow, reduceIte, reduceCtorEq, Cells, and_true, hcell_push, hcell_top, okW_push, okW_top, hcell_hset_ne, hcell_hset_off, hcell_hset_eq, okW_hset, hset_size, Array.size_push, Nat.lt_add_one, ne_add_one, add_one_ne, Nat.add_assoc, add_same, add_lt_same, Nat.reduceEqDiff, lt_add_k, add_k_ne, ne_add_k]
  clear hH8
  have hF8 := hF7.grow hf8
  have hnT : ¬ T4 H7.size := fun h => by have := hF7.lt h; omega
  refine m_rank (k := 3) (l := [1, 2]) (r := []) (xs := [1, 2, 3]) hF8 (by decide) rfl ?_
  intro H9 hF9 hf9
  have q9 := q8.frame hf9 (by simp; exact hnT)
  repeat' (first
    | (with_reducible first | refine seq_normal ?_ | (refine hK _ _ ?_; clear hK K) | refine x_seq (fun K hK => ?_) | refine x_nil ?_ | refine x_block ?_ | refine x_skip ?_ | refine x_exit ?_ | refine x_ret ?_ | refine x_label ?_ | refine x_scope ?_ | (refine seq_ret ?_; clear hK K) | (refine seq_exit ?_; clear hK K) | refine block_normal ?_ | refine block_ret ?_ | refine block_exit ?_ | refine loop_exit ?_ | refine loop_ret ?_)
    | ((with_reducible refine x_reg_lit ?hq ?_); case hq => rfl)
    | ((first | (with_reducible first | refine x_op (fun K hK => ?_) | refine end_ret ?_ | refine end_normal ?_) | ((with_reducible refine x_guard_yes ?hy (fun K hK => ?_)); case hy => rfl)); simp only [go_sem, Int.cast_ofNat_Int, Nat.reduceEqDiff, Nat.reduceAdd, Nat.reduceMul, Nat.reduceLeDiff, Nat.reduceLT, Int.reduceLT, Int.reduceLE, Int.reduceEq, Int.reduceNeg, Int.reduceToNat, Nat.reducePow, reduceIte, reduceCtorEq])
    | ((with_reducible first | refine x_guard_no ?hy ?_ | refine x_cond_true ?hy ?_); case hy => rfl)
    | ((with_reducible first | refine x_guard_none ?hy ?_ | refine x_cond_false ?hy ?_); case hy => rfl)
    | ((with_reducible refine block_exit_ne ?hy ?_); case hy => decide))
  refine m_flagged (k := 1) (fl := 6) (xs := [1, 2, 3]) hF9 (by decide) (by decide) (by decide) ?_
  intro H10 hF10 hf10
  have q10 := q9.frame hf10 (by simp; exact hnT)
  have ef : ∀ S : Sq, S.it = ((((Sq.new 3).made ⟨5, true, 1⟩).made ⟨7, false, 2⟩).made ⟨-3, true, 0⟩).it → firstF S.it 6 [1, 2, 3] = some 2 := fun S h => by rw [h]; decide
  rw [ef _ rfl]
  simp only [Cells, and_true] at q10
  repeat' (first
    | (with_reducible first | refine seq_normal ?_ | (refine hK _ _ ?_; clear hK K) | refine x_seq (fun K hK => ?_) | refine x_nil ?_ | refine x_block ?_ | refine x_skip ?_ | refine x_exit ?_ | refine x_ret ?_ | refine x_label ?_ | refine x_scope ?_ | (refine seq_ret ?_; clear hK K) | (refine seq_exit ?_; clear hK K) | refine block_normal ?_ | refine block_ret ?_ | refine block_exit ?_ | refine loop_exit ?_ | refine loop_ret ?_)
    | ((with_reducible refine x_reg_lit ?hq ?_); case hq => rfl)
    | ((first | (with_reducible first | refine x_op (fun K hK => ?_) | refine end_ret ?_ | refine end_normal ?_) | ((with_reducible refine x_guard_yes ?hy (fun K hK => ?_)); case hy => rfl)); simp only [go_sem, Int.cast_ofNat_Int, Nat.reduceEqDiff, Nat.reduceAdd, Nat.reduceMul, Nat.reduceLeDiff, Nat.reduceLT, Int.reduceLT, Int.reduceLE, Int.reduceEq, Int.reduceNeg, Int.reduceToNat, Nat.reducePow, reduceIte, reduceCtorEq, q10])
    | ((with_reducible first | refine x_guard_no ?hy ?_ | refine x_cond_true ?hy ?_); case hy => rfl)
    | ((with_reducible first | refine x_guard_none ?hy ?_ | refine x_cond_false ?hy ?_); case hy => rfl)
    | ((with_reducible refine block_exit_ne ?hy ?_); case hy => decide))
  refine agg_eq (op := .eql) (a := ⟨2, 2, -3, 5, 3⟩) (b := ⟨2, 2, -3, 5, 3⟩) ?_
  simp only [decide_true]
  repeat' (first
    | (with_reducible first | refine seq_normal ?_ | (refine hK _ _ ?_; clear hK K) | refine x_seq (fun K hK => ?_) | refine x_nil ?_ | refine x_block ?_ | refine x_skip ?_ | refine x_exit ?_ | refine x_ret ?_ | refine x_label ?_ | refine x_scope ?_ | (refine seq_ret ?_; clear hK K) | (refine seq_exit ?_; clear hK K) | refine block_normal ?_ | refine block_ret ?_ | refine block_exit ?_ | refine loop_exit ?_ | refine loop_ret ?_)
    | ((with_reducible refine x_reg_lit ?hq ?_); case hq => rfl)
    | ((first | (with_reducible first | refine x_op (fun K hK => ?_) | refine end_ret ?_ | refine end_normal ?_) | ((with_reducible refine x_guard_yes ?hy (fun K hK => ?_)); case hy => rfl)); simp only [go_sem, Int.cast_ofNat_Int, Nat.reduceEqDiff, Nat.reduceAdd, Nat.reduceMul, Nat.reduceLeDiff, Nat.reduceLT, Int.reduceLT, Int.reduceLE, Int.reduceEq, Int.reduceNeg, Int.reduceToNat, Nat.reducePow, reduceIte, reduceCtorEq])
    | ((with_reducible first | refine x_guard_no ?hy ?_ | refine x_cond_true ?hy ?_); case hy => rfl)
    | ((with_reducible first | refine x_guard_none ?hy ?_ | refine x_cond_false ?hy ?_); case hy => rfl)
    | ((with_reducible refine block_exit_ne ?hy ?_); case hy => decide))
  have hs1 := hf1.size
  have hs2 := hf2.size
  have hs3 := hf3.size
  have g1 : ∀ b, T2 b → H.size ≤ b := fun b hb => by rcases hT2 b hb with h | h; · exact hT1 b h
                                                     omega
  have g2 : ∀ b, T3 b → H.size ≤ b := fun b hb => by rcases hT3 b hb with h | h; · exact g1 b h
                                                     omega
  have g3 : ∀ b, T4 b → H.size ≤ b := fun b hb => by rcases hT4 b hb with h | h; · exact g2 b h
                                                     omega
  have a2 : Fr (fun _ => False) H H2 := hf1.trans' hf2 fun b hb e => by have := hT1 b e; omega
  have a3 : Fr (fun _ => False) H H3 := a2.trans' hf3 fun b hb e => by have := g1 b e; omega
  have a4 : Fr (fun _ => False) H H4 := a3.trans' hf4 fun b hb e => by have := g2 b e; omega
  have lift : ∀ {H' H'' : Heap}, Fr (fun _ => False) H H' → Fr T4 H' H'' → Fr (fun _ => False) H H'' := fun a b => a.trans' b fun b hb e => by have := g3 b e; omega
  exact fin _ (lift (lift ((lift (lift (lift a4 hf5) hf6) hf7).trans hf8) hf9) hf10)
end Go.Proofs.Ytndkbhlfbeiniaa
