/-
  of: the set of raw numbers (the law's own helper).
-/
import Derived.Test.YtdhepjcdlkahnaaDoorVsC
namespace Go.Hp
open Go
set_option linter.unusedVariables false
theorem anyH_two {P : Program} {ops : Array Oper} {S : Heap → Prop} {Z : List Nat} {K : Env → Heap → Prop} {i j : Nat} {oi oj : Oper} {fuel : Nat} {listed : Array Bool} {e : Env} {H : Heap}
    (hr : Region.ready .any ops listed = [i, j]) (hi : ops[i]? = some oi) (hj : ops[j]? = some oj) (gi : oi.guard = none) (gj : oj.guard = none)
    (h1 : ∀ K' : Value → Heap → Prop, (∀ v H', (Z.contains i = false → S H') ∧ anyH P ops S Z K fuel (listed.setIfInBounds i true) (e.put oi.dst v) H' → K' v H') → opX P oi (Env.eval e) H K')
    (h2 : ∀ K' : Value → Heap → Prop, (∀ v H', (Z.contains j = false → S H') ∧ anyH P ops S Z K fuel (listed.setIfInBounds j true) (e.put oj.dst v) H' → K' v H') → opX P oj (Env.eval e) H K') :
    anyH P ops S Z K (fuel + 1) listed e H := by
  refine ⟨fun h => (by rw [h] at hr; cases hr), fun k hk => ?_⟩
  rw [hr] at hk
  rcases List.mem_cons.1 hk with rfl | hk
  · simp only [hi]
    refine opAtR_of ?_
    unfold opAt
    rw [gi]
    exact h1 _ fun v H' h => h
  · obtain rfl := List.mem_singleton.1 hk
    simp only [hj]
    refine opAtR_of ?_
    unfold opAt
    rw [gj]
    exact h2 _ fun v H' h => h
end Go.Hp
namespace Go.Proofs.YtdhepjcdlkahnaaDoor
open Go Go.Hp Go.Vs
set_option linter.all false
set_option maxRecDepth 100000
set_option maxHeartbeats 1600000

theorem pick_ofok {H : Heap} {len : Nat} {a : Option Addr} {zs : Nat → Int} (hin : InInts H a len zs) {i : Nat} (hi : i < len) : 0 ≤ pickN (zs i) 64 ∧ pickN (zs i) 64 < 64 := pickN_range _ (by decide)
theorem ofFrom_mono (x : B64) (l : List Int) (k : Nat) (h : x.getLsbD k = true) : (ofFrom x l).getLsbD k = true := by
  induction l generalizing x with
  | nil => exact h
  | cons n l ih => exact ih _ (by rw [BitVec.getLsbD_or, h]; rfl)
theorem ofFrom_mem (x : B64) (l : List Int) (n : Int) (hn : okN n = true) (h : n ∈ l) : (ofFrom x l).getLsbD n.toNat = true := by
  induction l generalizing x with
  | nil => cases h
  | cons m l ih =>
    rcases List.mem_cons.1 h with rfl | h
    · show (ofFrom (x ||| bitN n) l).getLsbD n.toNat = true
      exact ofFrom_mono _ _ _ (by rw [BitVec.getLsbD_or, bitN_bit, hn]; simp)
    · exact ih _ h
/-- What the first loop of 'of' gathers. -/
def thirds (zs : Nat → Int) (n : Nat) : List Int := ((List.range n).filter (fun i => i % 3 == 0)).map (fun i => pickN (zs i) 64)
theorem thirds_succ (zs : Nat → Int) (n : Nat) : thirds zs (n + 1) = thirds zs n ++ (if n % 3 = 0 then [pickN (zs n) 64] else []) := by
  unfold thirds
  rw [List.range_succ, List.filter_append, List.map_append]
  by_cases h : n % 3 = 0 <;> simp [h]
theorem thirds_len (zs : Nat → Int) (n : Nat) : (thirds zs n).length ≤ n := by
  unfold thirds
  rw [List.length_map]
  exact Nat.le_trans (List.length_filter_le _ _) (by simp)
theorem of0 {H0 H : Heap} {e : Env} {Q : HX → Env → Heap → Prop} {b2 : Nat} {a : Option Addr} {len cap : Nat} {zs : Nat → Int} (hin : InInts H0 a len zs) (hf : Fr (fun _ => False) H0 H) (e0 : e 0 = .slice a len cap) (e2 : e 2 = .pointer (some ⟨b2, 0, none⟩)) (e3 : e 3 = .slice none 0 0) (e4 : e 4 = .int .i64 0)
    (hQ : ∀ e' H' B v, e' 0 = .slice a len cap → e' 2 = .pointer (some ⟨b2, 0, none⟩) → e' 3 = v → IR H' B v (thirds zs (min len 100)) → Fr (fun _ => False) H H' → Q .normal e' H') :
    codeX Tryd.prog [] (loopAt Tryd.f10.body 0) (blockQ 0 Q) e H := by
  refine x_loop (fun m e' H' => ∃ (i : Nat) (B : Option Nat) (v : Value), e' 4 = .int .i64 (i : Nat) ∧ e' 3 = v ∧ IR H' B v (thirds zs i) ∧ (∀ g, B = some g → H.size ≤ g) ∧ Fr (fun _ => False) H H' ∧ i ≤ min len 100 ∧ m = 100 - i) 100 ⟨0, none, _, e4, e3, IR.nil H, (fun g h => by cases h), .refl _ _, by omega, rfl⟩ ?_
  rintro m e1 H1 ⟨i, B, v, i4, i3, hr, hB, hf1, hi, rfl⟩ hoff
  have i0 := (hoff 0 rfl).trans e0
  have i2 := (hoff 2 rfl).trans e2
  clear hoff
  by_cases hlt : i < len
  · have t1 : (i < len) = True := by simp [hlt]
    by_cases h100 : i < 100
    · have t2 : ((i : Int) < 100) = True := by simp; omega
      obtain ⟨p, rfl, cz, hz1, hz2⟩ := (hin.frame (hf.trans hf1)) i hlt
      have ew : IntKind.i64.wrap ((i : Int) + 1) = ((i + 1 : Nat) : Int) := by rw [wrap_i64] <;> omega
      have em : (i : Int).tmod 3 = ((i % 3 : Nat) : Int) := by rw [Int.tmod_eq_emod_of_nonneg (by omega)]; rfl
      obtain ⟨a, c, hv⟩ := hr.slice
      rw [hv] at i3
      by_cases h3 : i % 3 = 0
      · have t3 : (((i % 3 : Nat) : Int) == 0) = true := by rw [h3]; rfl
        have h30 : ((3 : Int) = 0) = False := by simp
        repeat' (first
          | (with_reducible first | refine seq_normal ?_ | (refine hK _ _ ?_; clear hK K) | refine x_seq (fun K hK => ?_) | refine x_nil ?_ | refine x_block ?_ | refine x_skip ?_ | refine x_exit ?_ | refine x_ret ?_ | refine x_label ?_ | refine x_scope ?_ | (refine seq_ret ?_; clear hK K) | (refine seq_exit ?_; clear hK K) | refine block_normal ?_ | refine block_ret ?_ | refine block_exit ?_ | refine loop_exit ?_ | refine loop_ret ?_)
          | ((with_reducible refine x_reg_lit ?hq ?_); case hq => rfl)
          | ((first | (with_reducible first | refine x_op (fun K hK => ?_) | refine end_ret ?_ | refine end_normal ?_) | ((with_reducible refine x_guard_yes ?hy (fun K hK => ?_)); case hy => rfl)); simp only [go_sem, Int.cast_ofNat_Int, Nat.reduceEqDiff, Nat.reduceAdd, Nat.reduceMul, Nat.reduceLeDiff, Nat.reduceLT, Int.reduceLT, Int.reduceLE, Int.reduceEq, Int.reduceNeg, Int.reduceToNat, Nat.reducePow, reduceIte, reduceCtorEq, i0, i3, i4, t1, t2, em, t3, cz, h30])
          | ((with_reducible first | refine x_guard_no ?hy ?_ | refine x_cond_true ?hy ?_); case hy => rfl)
          | ((with_reducible first | refine x_guard_none ?hy ?_ | refine x_cond_false ?hy ?_); case hy => rfl)
          | ((with_reducible refine block_exit_ne ?hy ?_); case hy => decide))
        refine Pkisthmuslaw09.pick_ok hz1 hz2 (by decide) ?_
        repeat' (first
          | (with_reducible first | refine seq_normal ?_ | (refine hK _ _ ?_; clear hK K) | refine x_seq (fun K hK => ?_) | refine x_nil ?_ | refine x_block ?_ | refine x_skip ?_ | refine x_exit ?_ | refine x_ret ?_ | refine x_label ?_ | refine x_scope ?_ | (refine seq_ret ?_; clear hK K) | (refine seq_exit ?_; clear hK K) | refine block_normal ?_ | refine block_ret ?_ | refine block_exit ?_ | refine loop_exit ?_ | refine loop_ret ?_)
          | ((with_reducible refine x_reg_lit ?hq ?_); case hq => rfl)
          | ((first | (with_reducible first | refine x_op (fun K hK => ?_) | refine end_ret ?_ | refine end_normal ?_) | ((with_reducible refine x_guard_yes ?hy (fun K hK => ?_)); case hy => rfl)); simp only [go_sem, Int.cast_ofNat_Int, Nat.reduceEqDiff, Nat.reduceAdd, Nat.reduceMul, Nat.reduceLeDiff, Nat.reduceLT, Int.reduceLT, Int.reduceLE, Int.reduceEq, Int.reduceNeg, Int.reduceToNat, Nat.reducePow, reduceIte, reduceCtorEq, i0, i3, i4])
          | ((with_reducible first | refine x_guard_no ?hy ?_ | refine x_cond_true ?hy ?_); case hy => rfl)
          | ((with_reducible first | refine x_guard_none ?hy ?_ | refine x_cond_false ?hy ?_); case hy => rfl)
          | ((with_reducible refine block_exit_ne ?hy ?_); case hy => decide))
        rw [hv] at hr
        have hl := thirds_len zs i
        refine append_ir elems22 tl3 hr rfl (by decide) (by simp; omega) rfl fun v' H5 B' hr' hf' hB' => ?_
        repeat' (first
          | (with_reducible first | refine seq_normal ?_ | (refine hK _ _ ?_; clear hK K) | refine x_seq (fun K hK => ?_) | refine x_nil ?_ | refine x_block ?_ | refine x_skip ?_ | refine x_exit ?_ | refine x_ret ?_ | refine x_label ?_ | refine x_scope ?_ | (refine seq_ret ?_; clear hK K) | (refine seq_exit ?_; clear hK K) | refine block_normal ?_ | refine block_ret ?_ | refine block_exit ?_ | refine loop_exit ?_ | refine loop_ret ?_)
          | ((with_reducible refine x_reg_lit ?hq ?_); case hq => rfl)
          | ((first | (with_reducible first | refine x_op (fun K hK => ?_) | refine end_ret ?_ | refine end_normal ?_) | ((with_reducible refine x_guard_yes ?hy (fun K hK => ?_)); case hy => rfl)); simp only [go_sem, Int.cast_ofNat_Int, Nat.reduceEqDiff, Nat.reduceAdd, Nat.reduceMul, Nat.reduceLeDiff, Nat.reduceLT, Int.reduceLT, Int.reduceLE, Int.reduceEq, Int.reduceNeg, Int.reduceToNat, Nat.reducePow, reduceIte, reduceCtorEq, i4, ew])
          | ((with_reducible first | refine x_guard_no ?hy ?_ | refine x_cond_true ?hy ?_); case hy => rfl)
          | ((with_reducible first | refine x_guard_none ?hy ?_ | refine x_cond_false ?hy ?_); case hy => rfl)
          | ((with_reducible refine block_exit_ne ?hy ?_); case hy => decide))
        refine loop_normal (m' := 100 - (i + 1)) (by omega) ⟨i + 1, B', v', rfl, rfl, ?_, ?_, hf1.trans' hf' (fun b hb e => by have := hB b e; omega), by omega, rfl⟩
        · rw [thirds_succ, if_pos h3]; exact hr'
        · intro g hg
          have := hf1.size
          rcases hB' with rfl | ⟨g', rfl, hg'⟩
          · exact hB g hg
          · obtain rfl := Option.some.inj hg; omega
      · have t3 : (((i % 3 : Nat) : Int) == 0) = false := by simp only [beq_eq_false_iff_ne, ne_eq]; omega
        have h30 : ((3 : Int) = 0) = False := by simp
        repeat' (first
          | (with_reducible first | refine seq_normal ?_ | (refine hK _ _ ?_; clear hK K) | refine x_seq (fun K hK => ?_) | refine x_nil ?_ | refine x_block ?_ | refine x_skip ?_ | refine x_exit ?_ | refine x_ret ?_ | refine x_label ?_ | refine x_scope ?_ | (refine seq_ret ?_; clear hK K) | (refine seq_exit ?_; clear hK K) | refine block_normal ?_ | refine block_ret ?_ | refine block_exit ?_ | refine loop_exit ?_ | refine loop_ret ?_)
          | ((with_reducible refine x_reg_lit ?hq ?_); case hq => rfl)
          | ((first | (with_reducible first | refine x_op (fun K hK => ?_) | refine end_ret ?_ | refine end_normal ?_) | ((with_reducible refine x_guard_yes ?hy (fun K hK => ?_)); case hy => rfl)); simp only [go_sem, Int.cast_ofNat_Int, Nat.reduceEqDiff, Nat.reduceAdd, Nat.reduceMul, Nat.reduceLeDiff, Nat.reduceLT, Int.reduceLT, Int.reduceLE, Int.reduceEq, Int.reduceNeg, Int.reduceToNat, Nat.reducePow, reduceIte, reduceCtorEq, i0, i3, i4, t1, t2, em, t3, h30, ew])
          | ((with_reducible first | refine x_guard_no ?hy ?_ | refine x_cond_true ?hy ?_); case hy => rfl)
          | ((with_reducible first | refine x_guard_none ?hy ?_ | refine x_cond_false ?hy ?_); case hy => rfl)
          | ((with_reducible refine block_exit_ne ?hy ?_); case hy => decide))
        refine loop_normal (m' := 100 - (i + 1)) (by omega) ⟨i + 1, B, v, rfl, by rw [hv]; exact i3, ?_, hB, hf1, by omega, rfl⟩
        rw [thirds_succ, if_neg h3, List.append_nil]; exact hr
    · have t2 : ((i : Int) < 100) = False := by simp; omega
      repeat' (first
        | (with_reducible first | refine seq_normal ?_ | (refine hK _ _ ?_; clear hK K) | refine x_seq (fun K hK => ?_) | refine x_nil ?_ | refine x_block ?_ | refine x_skip ?_ | refine x_exit ?_ | refine x_ret ?_ | refine x_label ?_ | refine x_scope ?_ | (refine seq_ret ?_; clear hK K) | (refine seq_exit ?_; clear hK K) | refine block_normal ?_ | refine block_ret ?_ | refine block_exit ?_ | refine loop_exit ?_ | refine loop_ret ?_)
        | ((with_reducible refine x_reg_lit ?hq ?_); case hq => rfl)
        | ((first | (with_reducible first | refine x_op (fun K hK => ?_) | refine end_ret ?_ | refine end_normal ?_) | ((with_reducible refine x_guard_yes ?hy (fun K hK => ?_)); case hy => rfl)); simp only [go_sem, Int.cast_ofNat_Int, Nat.reduceEqDiff, Nat.reduceAdd, Nat.reduceMul, Nat.reduceLeDiff, Nat.reduceLT, Int.reduceLT, Int.reduceLE, Int.reduceEq, Int.reduceNeg, Int.reduceToNat, Nat.reducePow, reduceIte, reduceCtorEq, i0, i4, t1, t2])
        | ((with_reducible first | refine x_guard_no ?hy ?_ | refine x_cond_true ?hy ?_); case hy => rfl)
        | ((with_reducible first | refine x_guard_none ?hy ?_ | refine x_cond_false ?hy ?_); case hy => rfl)
        | ((with_reducible refine block_exit_ne ?hy ?_); case hy => decide))
      refine hQ _ _ B v i0 i2 i3 ?_ hf1
      rw [show min len 100 = i by omega]; exact hr
  · have t1 : (i < len) = False := by simp [hlt]
    repeat' (first
      | (with_reducible first | refine seq_normal ?_ | (refine hK _ _ ?_; clear hK K) | refine x_seq (fun K hK => ?_) | refine x_nil ?_ | refine x_block ?_ | refine x_skip ?_ | refine x_exit ?_ | refine x_ret ?_ | refine x_label ?_ | refine x_scope ?_ | (refine seq_ret ?_; clear hK K) | (refine seq_exit ?_; clear hK K) | refine block_normal ?_ | refine block_ret ?_ | refine block_exit ?_ | refine loop_exit ?_ | refine loop_ret ?_)
      | ((with_reducible refine x_reg_lit ?hq ?_); case hq => rfl)
      | ((first | (with_reducible first | refine x_op (fun K hK => ?_) | refine end_ret ?_ | refine end_normal ?_) | ((with_reducible refine x_guard_yes ?hy (fun K hK => ?_)); case hy => rfl)); simp only [go_sem, Int.cast_ofNat_Int, Nat.reduceEqDiff, Nat.reduceAdd, Nat.reduceMul, Nat.reduceLeDiff, Nat.reduceLT, Int.reduceLT, Int.reduceLE, Int.reduceEq, Int.reduceNeg, Int.reduceToNat, Nat.reducePow, reduceIte, reduceCtorEq, i0, i4, t1])
      | ((with_reducible first | refine x_guard_no ?hy ?_ | refine x_cond_true ?hy ?_); case hy => rfl)
      | ((with_reducible first | refine x_guard_none ?hy ?_ | refine x_cond_false ?hy ?_); case hy => rfl)
      | ((with_reducible refine block_exit_ne ?hy ?_); case hy => decide))
    refine hQ _ _ B v i0 i2 i3 ?_ hf1
    rw [show min len 100 = i by omega]; exact hr
/-- All numbers of the first n that were there (those of place i, i %% 3 = 0, anyway) are in x. -/
def Has (zs : Nat → Int) (x : B64) (n m : Nat) : Prop := ∀ i, i < n → (i % 3 = 0 ∨ i < m) → x.getLsbD (pickN (zs i) 64).toNat = true
theorem of1 {H0 H : Heap} {e : Env} {Q : HX → Env → Heap → Prop} {b2 b5 : Nat} {a : Option Addr} {len cap : Nat} {zs : Nat → Int} {x : B64} (hin : InInts H0 a len zs) (hf : Fr (fun _ => False) H0 H) (e0 : e 0 = .slice a len cap) (e2 : e 2 = .pointer (some ⟨b2, 0, none⟩)) (e5 : e 5 = .pointer (some ⟨b5, 0, none⟩)) (e7 : e 7 = .int .i64 0)
    (hb2 : H0.size ≤ b2) (hb5 : H0.size ≤ b5) (hne : b2 ≠ b5) (B2 : Blk H b2 [.int .u64 0]) (B5 : Blk H b5 [.int .u64 (x.toNat : Int)]) (hx : Has zs x (min len 100) 0)
    (hQ : ∀ e' H' y, e' 2 = .pointer (some ⟨b2, 0, none⟩) → e' 5 = .pointer (some ⟨b5, 0, none⟩) → Blk H' b2 [.int .u64 0] → Blk H' b5 [.int .u64 (y.toNat : Int)] → Has zs y (min len 100) (min len 100) → Fr (fun _ => False) H0 H' → Q .normal e' H') :
    codeX Tryd.prog [] (loopAt Tryd.f10.body 1) (blockQ 2 Q) e H := by
  refine x_loop (fun m e' H' => ∃ (i : Nat) (y : B64), e' 7 = .int .i64 (i : Nat) ∧ Blk H' b2 [.int .u64 0] ∧ Blk H' b5 [.int .u64 (y.toNat : Int)] ∧ Has zs y (min len 100) i ∧ Fr (fun _ => False) H0 H' ∧ i ≤ min len 100 ∧ m = 100 - i) 100 ⟨0, x, e7, B2, B5, hx, hf, by omega, rfl⟩ ?_
  rintro m e1 H1 ⟨i, y, i7, B2, B5, hx, hf1, hi, rfl⟩ hoff
  have i0 := (hoff 0 rfl).trans e0
  have i2 := (hoff 2 rfl).trans e2
  have i5 := (hoff 5 rfl).trans e5
  clear hoff hf
  by_cases hlt : i < len
  · have t1 : (i < len) = True := by simp [hlt]
    by_cases h100 : i < 100
    · have t2 : ((i : Int) < 100) = True := by simp; omega
      obtain ⟨p, rfl, cz, hz1, hz2⟩ := (hin.frame hf1) i hlt
      have ew : IntKind.i64.wrap ((i : Int) + 1) = ((i + 1 : Nat) : Int) := by rw [wrap_i64] <;> omega
      have em : (i : Int).tmod 3 = ((i % 3 : Nat) : Int) := by rw [Int.tmod_eq_emod_of_nonneg (by omega)]; rfl
      have h30 : ((3 : Int) = 0) = False := by simp
      by_cases h3 : i % 3 = 0
      · have t3 : ((0 : Int) < ((i % 3 : Nat) : Int)) = False := by simp [h3]
        repeat' (first
          | (with_reducible first | refine seq_normal ?_ | (refine hK _ _ ?_; clear hK K) | refine x_seq (fun K hK => ?_) | refine x_nil ?_ | refine x_block ?_ | refine x_skip ?_ | refine x_exit ?_ | refine x_ret ?_ | refine x_label ?_ | refine x_scope ?_ | (refine seq_ret ?_; clear hK K) | (refine seq_exit ?_; clear hK K) | refine block_normal ?_ | refine block_ret ?_ | refine block_exit ?_ | refine loop_exit ?_ | refine loop_ret ?_)
          | ((with_reducible refine x_reg_lit ?hq ?_); case hq => rfl)
          | ((first | (with_reducible first | refine x_op (fun K hK => ?_) | refine end_ret ?_ | refine end_normal ?_) | ((with_reducible refine x_guard_yes ?hy (fun K hK => ?_)); case hy => rfl)); simp only [go_sem, Int.cast_ofNat_Int, Nat.reduceEqDiff, Nat.reduceAdd, Nat.reduceMul, Nat.reduceLeDiff, Nat.reduceLT, Int.reduceLT, Int.reduceLE, Int.reduceEq, Int.reduceNeg, Int.reduceToNat, Nat.reducePow, reduceIte, reduceCtorEq, i0, i7, t1, t2, em, t3, h30, ew])
          | ((with_reducible first | refine x_guard_no ?hy ?_ | refine x_cond_true ?hy ?_); case hy => rfl)
          | ((with_reducible first | refine x_guard_none ?hy ?_ | refine x_cond_false ?hy ?_); case hy => rfl)
          | ((with_reducible refine block_exit_ne ?hy ?_); case hy => decide))
        refine loop_normal (m' := 100 - (i + 1)) (by omega) ⟨i + 1, y, rfl, B2, B5, ?_, hf1, by omega, rfl⟩
        intro k hk hk3
        by_cases hki : k = i
        · subst hki; exact hx k hk (.inl h3)
        · exact hx k hk (by omega)
      · have t3 : ((0 : Int) < ((i % 3 : Nat) : Int)) = True := by simp; omega
        have c5 := B5.cellOf (i := 0) rfl
        repeat' (first
          | (with_reducible first | refine seq_normal ?_ | (refine hK _ _ ?_; clear hK K) | refine x_seq (fun K hK => ?_) | refine x_nil ?_ | refine x_block ?_ | refine x_skip ?_ | refine x_exit ?_ | refine x_ret ?_ | refine x_label ?_ | refine x_scope ?_ | (refine seq_ret ?_; clear hK K) | (refine seq_exit ?_; clear hK K) | refine block_normal ?_ | refine block_ret ?_ | refine block_exit ?_ | refine loop_exit ?_ | refine loop_ret ?_)
          | ((with_reducible refine x_reg_lit ?hq ?_); case hq => rfl)
          | ((first | (with_reducible first | refine x_op (fun K hK => ?_) | refine end_ret ?_ | refine end_normal ?_) | ((with_reducible refine x_guard_yes ?hy (fun K hK => ?_)); case hy => rfl)); simp only [go_sem, Int.cast_ofNat_Int, Nat.reduceEqDiff, Nat.reduceAdd, Nat.reduceMul, Nat.reduceLeDiff, Nat.reduceLT, Int.reduceLT, Int.reduceLE, Int.reduceEq, Int.reduceNeg, Int.reduceToNat, Nat.reducePow, reduceIte, reduceCtorEq, i0, i7, t1, t2, em, t3, h30])
          | ((with_reducible first | refine x_guard_no ?hy ?_ | refine x_cond_true ?hy ?_); case hy => rfl)
          | ((with_reducible first | refine x_guard_none ?hy ?_ | refine x_cond_false ?hy ?_); case hy => rfl)
          | ((with_reducible refine block_exit_ne ?hy ?_); case hy => decide))
        have tail : ∀ (e' : Env) (H' : Heap) (q : Nat), e' 0 = e1 0 → e' 2 = e1 2 → e' 5 = e1 5 → e' 7 = e1 7 → e' 8 = .pointer (some ⟨q, 0, none⟩) → H1.size ≤ q → Blk H' q [.int .u64 ((y ||| bitN (pickN (zs i) 64)).toNat : Int)] → Fr (fun _ => False) H1 H' → K e' H' := by
          intro e' H' q h0 h2 h5 h7 h8 hq1 hq hf'
          refine hK _ _ ?_
          clear hK K
          have j5 := h5.trans i5
          have j7 := h7.trans i7
          have B5' := B5.frame hf' (fun h => h)
          have w5 := B5'.okW (i := 0) (by simp)
          have cq := hq.cellOf (i := 0) rfl
          have hl5 := B5.lt
          have hl2 := B2.lt
          have hs := hf1.size
          repeat' (first
            | (with_reducible first | refine seq_normal ?_ | (refine hK _ _ ?_; clear hK K) | refine x_seq (fun K hK => ?_) | refine x_nil ?_ | refine x_block ?_ | refine x_skip ?_ | refine x_exit ?_ | refine x_ret ?_ | refine x_label ?_ | refine x_scope ?_ | (refine seq_ret ?_; clear hK K) | (refine seq_exit ?_; clear hK K) | refine block_normal ?_ | refine block_ret ?_ | refine block_exit ?_ | refine loop_exit ?_ | refine loop_ret ?_)
            | ((with_reducible refine x_reg_lit ?hq ?_); case hq => rfl)
            | ((first | (with_reducible first | refine x_op (fun K hK => ?_) | refine end_ret ?_ | refine end_normal ?_) | ((with_reducible refine x_guard_yes ?hy (fun K hK => ?_)); case hy => rfl)); simp only [go_sem, Int.cast_ofNat_Int, Nat.reduceEqDiff, Nat.reduceAdd, Nat.reduceMul, Nat.reduceLeDiff, Nat.reduceLT, Int.reduceLT, Int.reduceLE, Int.reduceEq, Int.reduceNeg, Int.reduceToNat, Nat.reducePow, reduceIte, reduceCtorEq, h8, j5, j7, cq, w5, ew])
            | ((with_reducible first | refine x_guard_no ?hy ?_ | refine x_cond_true ?hy ?_); case hy => rfl)
            | ((with_reducible first | refine x_guard_none ?hy ?_ | refine x_cond_false ?hy ?_); case hy => rfl)
            | ((with_reducible refine block_exit_ne ?hy ?_); case hy => decide))
          refine loop_normal (m' := 100 - (i + 1)) (by omega) ⟨i + 1, y ||| bitN (pickN (zs i) 64), rfl, (B2.frame hf' (fun h => h)).set_ne (by simpa using hne) _, B5'.set_same 0 _, ?_, (hf1.trans hf').set (.inr hb5) _, by omega, rfl⟩
          intro k hk hk3
          obtain ⟨r0, r1⟩ := pick_ofok hin (i := k) (by omega)
          by_cases hki : k = i
          · subst hki
            rw [BitVec.getLsbD_or, bitN_bit]
            have : okN (pickN (zs k) 64) = true := by unfold okN; simp; omega
            rw [this]; simp
          · rw [BitVec.getLsbD_or, hx k hk (by omega)]; rfl
        clear hK
        have cS : (fun H' => hcell H' (p.add i) = some (.int .i64 (zs i)) ∧ hcell H' ⟨b5, 0, none⟩ = some (.int .u64 (y.toNat : Int))) H1 := ⟨cz, c5⟩
        have grow : ∀ H' : Heap, Fr (fun _ => False) H1 H' → hcell H' (p.add i) = some (.int .i64 (zs i)) ∧ hcell H' ⟨b5, 0, none⟩ = some (.int .u64 (y.toNat : Int)) := fun H' hf' => ⟨by rw [hf'.cell (hcell_lt cz) (fun h => h)]; exact cz, by rw [hf'.cell (hcell_lt c5) (fun h => h)]; exact c5⟩
        refine x_draw rfl (fun H' => hcell H' (p.add i) = some (.int .i64 (zs i)) ∧ hcell H' ⟨b5, 0, none⟩ = some (.int .u64 (y.toNat : Int))) [] cS ?_
        refine anyH_take (i := 0) (v := sv y) (show _ = some (Oper.mk (some 50) _ _ _ _ none) from rfl) (by kernel_rfl) (still_of rfl fun H' hS => by simp only [go_sem, Int.cast_ofNat_Int, Nat.reduceEqDiff, Nat.reduceAdd, Nat.reduceMul, Nat.reduceLeDiff, Nat.reduceLT, Int.reduceLT, Int.reduceLE, Int.reduceEq, Int.reduceNeg, Int.reduceToNat, Nat.reducePow, reduceIte, reduceCtorEq, i5, hS.2]; rfl) cS ?_
        refine anyH_take (i := 1) (v := .slice (some p) len cap) (show _ = some (Oper.mk (some 51) _ _ _ _ none) from rfl) (by kernel_rfl) (still_of rfl fun H' hS => by simp only [go_sem, Int.cast_ofNat_Int, Nat.reduceEqDiff, Nat.reduceAdd, Nat.reduceMul, Nat.reduceLeDiff, Nat.reduceLT, Int.reduceLT, Int.reduceLE, Int.reduceEq, Int.reduceNeg, Int.reduceToNat, Nat.reducePow, reduceIte, reduceCtorEq, i0]) cS ?_
        refine anyH_take (i := 2) (v := .int .i64 (i : Int)) (show _ = some (Oper.mk (some 52) _ _ _ _ none) from rfl) (by kernel_rfl) (still_of rfl fun H' hS => by simp only [go_sem, Int.cast_ofNat_Int, Nat.reduceEqDiff, Nat.reduceAdd, Nat.reduceMul, Nat.reduceLeDiff, Nat.reduceLT, Int.reduceLT, Int.reduceLE, Int.reduceEq, Int.reduceNeg, Int.reduceToNat, Nat.reducePow, reduceIte, reduceCtorEq, i7]) cS ?_
        refine anyH_take (i := 3) (v := .pointer (some (p.add i))) (show _ = some (Oper.mk (some 53) _ _ _ _ none) from rfl) (by kernel_rfl) (still_of rfl fun H' hS => by simp only [go_sem, Int.cast_ofNat_Int, Nat.reduceEqDiff, Nat.reduceAdd, Nat.reduceMul, Nat.reduceLeDiff, Nat.reduceLT, Int.reduceLT, Int.reduceLE, Int.reduceEq, Int.reduceNeg, Int.reduceToNat, Nat.reducePow, reduceIte, reduceCtorEq, t1]) cS ?_
        refine anyH_take (i := 4) (v := .int .i64 (zs i)) (show _ = some (Oper.mk (some 54) _ _ _ _ none) from rfl) (by kernel_rfl) (still_of rfl fun H' hS => by simp only [go_sem, Int.cast_ofNat_Int, Nat.reduceEqDiff, Nat.reduceAdd, Nat.reduceMul, Nat.reduceLeDiff, Nat.reduceLT, Int.reduceLT, Int.reduceLE, Int.reduceEq, Int.reduceNeg, Int.reduceToNat, Nat.reducePow, reduceIte, reduceCtorEq, hS.1]) cS ?_
        have hw : withQ y (pickN (zs i) 64) = ((y ||| bitN (pickN (zs i) 64)), 0) := by
          obtain ⟨r0, r1⟩ := pick_ofok hin hlt
          unfold withQ
          rw [if_pos (by unfold okN; simp; omega)]
        refine anyH_two (i := 5) (j := 10) (by kernel_rfl) (show _ = some (Oper.mk (some 55) _ _ _ _ none) from rfl) (show _ = some (Oper.mk (some 8) _ _ _ _ none) from rfl) rfl rfl (fun K' hK' => ?_) (fun K' hK' => ?_)
        · simp only [go_sem, Int.cast_ofNat_Int, Nat.reduceEqDiff, Nat.reduceAdd, Nat.reduceMul, Nat.reduceLeDiff, Nat.reduceLT, Int.reduceLT, Int.reduceLE, Int.reduceEq, Int.reduceNeg, Int.reduceToNat, Nat.reducePow, reduceIte, reduceCtorEq]
          refine Pkisthmuslaw09.pick_ok hz1 hz2 (by decide) ?_
          refine hK' _ _ ⟨fun _ => cS, ?_⟩
          refine anyH_two (i := 6) (j := 10) (by kernel_rfl) (show _ = some (Oper.mk (some 56) _ _ _ _ none) from rfl) (show _ = some (Oper.mk (some 8) _ _ _ _ none) from rfl) rfl rfl (fun K' hK' => ?_) (fun K' hK' => ?_)
          · simp only [go_sem, Int.cast_ofNat_Int, Nat.reduceEqDiff, Nat.reduceAdd, Nat.reduceMul, Nat.reduceLeDiff, Nat.reduceLT, Int.reduceLT, Int.reduceLE, Int.reduceEq, Int.reduceNeg, Int.reduceToNat, Nat.reducePow, reduceIte, reduceCtorEq]
            refine with_ok fun H3 f3 => ?_
            rw [hw]
            refine hK' _ _ ⟨fun _ => grow _ f3, ?_⟩
            refine anyH_take (i := 7) (v := .tuple #[sv (y ||| bitN (pickN (zs i) 64)), .int .i64 0]) (show _ = some (Oper.mk (some 49) _ _ _ _ none) from rfl) (by kernel_rfl) (still_of rfl fun H' hS => by simp only [go_sem, Int.cast_ofNat_Int, Nat.reduceEqDiff, Nat.reduceAdd, Nat.reduceMul, Nat.reduceLeDiff, Nat.reduceLT, Int.reduceLT, Int.reduceLE, Int.reduceEq, Int.reduceNeg, Int.reduceToNat, Nat.reducePow, reduceIte, reduceCtorEq]) (grow _ f3) ?_
            refine anyH_take (i := 8) (v := sv (y ||| bitN (pickN (zs i) 64))) (show _ = some (Oper.mk (some 57) _ _ _ _ none) from rfl) (by kernel_rfl) (still_of rfl fun H' hS => by simp only [go_sem, Int.cast_ofNat_Int, Nat.reduceEqDiff, Nat.reduceAdd, Nat.reduceMul, Nat.reduceLeDiff, Nat.reduceLT, Int.reduceLT, Int.reduceLE, Int.reduceEq, Int.reduceNeg, Int.reduceToNat, Nat.reducePow, reduceIte, reduceCtorEq]) (grow _ f3) ?_
            refine anyH_take (i := 9) (v := .int .i64 0) (show _ = some (Oper.mk (some 58) _ _ _ _ none) from rfl) (by kernel_rfl) (still_of rfl fun H' hS => by simp only [go_sem, Int.cast_ofNat_Int, Nat.reduceEqDiff, Nat.reduceAdd, Nat.reduceMul, Nat.reduceLeDiff, Nat.reduceLT, Int.reduceLT, Int.reduceLE, Int.reduceEq, Int.reduceNeg, Int.reduceToNat, Nat.reducePow, reduceIte, reduceCtorEq]) (grow _ f3) ?_
            refine anyH_one (i := 10) (by kernel_rfl) (show _ = some (Oper.mk (some 8) _ _ _ _ none) from rfl) rfl (fun K' hK' => ?_)
            simp only [go_sem, Int.cast_ofNat_Int, Nat.reduceEqDiff, Nat.reduceAdd, Nat.reduceMul, Nat.reduceLeDiff, Nat.reduceLT, Int.reduceLT, Int.reduceLE, Int.reduceEq, Int.reduceNeg, Int.reduceToNat, Nat.reducePow, reduceIte, reduceCtorEq]
            have f4 : Fr (fun _ => False) H1 (H3.push (.cells #[.int .u64 0] 26)) := f3.push _
            have b4 := Blk.new H3 [.int .u64 0] 26
            have s3 := f3.size
            refine hK' _ _ ⟨fun _ => grow _ f4, ?_⟩
            refine anyH_one (i := 11) (by kernel_rfl) (show _ = some (Oper.mk none _ _ _ _ none) from rfl) rfl (fun K' hK' => ?_)
            have wq := b4.okW (i := 0) (by simp)
            simp only [sv]
            simp only [go_sem, Int.cast_ofNat_Int, Nat.reduceEqDiff, Nat.reduceAdd, Nat.reduceMul, Nat.reduceLeDiff, Nat.reduceLT, Int.reduceLT, Int.reduceLE, Int.reduceEq, Int.reduceNeg, Int.reduceToNat, Nat.reducePow, reduceIte, reduceCtorEq, wq]
            have fq : Fr (fun _ => False) H1 (hset (H3.push (.cells #[.int .u64 0] 26)) ⟨H3.size, 0, none⟩ (.int .u64 ((y ||| bitN (pickN (zs i) 64)).toNat : Int))) := Fr.set f4 (.inr (by show H1.size ≤ H3.size; omega)) _
            have bq := b4.set_same 0 (.int .u64 ((y ||| bitN (pickN (zs i) 64)).toNat : Int))
            refine hK' _ _ ⟨fun _ => grow _ fq, ?_⟩
            refine anyH_one (i := 12) (by kernel_rfl) (show _ = some (Oper.mk (some 9) _ _ _ _ none) from rfl) rfl (fun K' hK' => ?_)
            simp only [go_sem, Int.cast_ofNat_Int, Nat.reduceEqDiff, Nat.reduceAdd, Nat.reduceMul, Nat.reduceLeDiff, Nat.reduceLT, Int.reduceLT, Int.reduceLE, Int.reduceEq, Int.reduceNeg, Int.reduceToNat, Nat.reducePow, reduceIte, reduceCtorEq]
            refine hK' _ _ ⟨fun _ => grow _ fq, ?_⟩
            refine anyH_done (by kernel_rfl) ?_
            exact tail _ _ H3.size rfl rfl rfl rfl rfl (by omega) bq fq
          · have f2 : Fr (fun _ => False) H1 (H1.push (.cells #[.int .u64 0] 26)) := (Fr.refl _ _).push _
            have b2' := Blk.new H1 [.int .u64 0] 26
            simp only [go_sem, Int.cast_ofNat_Int, Nat.reduceEqDiff, Nat.reduceAdd, Nat.reduceMul, Nat.reduceLeDiff, Nat.reduceLT, Int.reduceLT, Int.reduceLE, Int.reduceEq, Int.reduceNeg, Int.reduceToNat, Nat.reducePow, reduceIte, reduceCtorEq]
            refine hK' _ _ ⟨fun _ => grow _ f2, ?_⟩
            refine anyH_one (i := 6) (by kernel_rfl) (show _ = some (Oper.mk (some 56) _ _ _ _ none) from rfl) rfl (fun K' hK' => ?_)
            simp only [go_sem, Int.cast_ofNat_Int, Nat.reduceEqDiff, Nat.reduceAdd, Nat.reduceMul, Nat.reduceLeDiff, Nat.reduceLT, Int.reduceLT, Int.reduceLE, Int.reduceEq, Int.reduceNeg, Int.reduceToNat, Nat.reducePow, reduceIte, reduceCtorEq]
            refine with_ok fun H3 f3 => ?_
            rw [hw]
            have b3 := b2'.frame f3 (fun h => h)
            have f3' := f2.trans f3
            refine hK' _ _ ⟨fun _ => grow _ f3', ?_⟩
            refine anyH_take (i := 7) (v := .tuple #[sv (y ||| bitN (pickN (zs i) 64)), .int .i64 0]) (show _ = some (Oper.mk (some 49) _ _ _ _ none) from rfl) (by kernel_rfl) (still_of rfl fun H' hS => by simp only [go_sem, Int.cast_ofNat_Int, Nat.reduceEqDiff, Nat.reduceAdd, Nat.reduceMul, Nat.reduceLeDiff, Nat.reduceLT, Int.reduceLT, Int.reduceLE, Int.reduceEq, Int.reduceNeg, Int.reduceToNat, Nat.reducePow, reduceIte, reduceCtorEq]) (grow _ f3') ?_
            refine anyH_take (i := 8) (v := sv (y ||| bitN (pickN (zs i) 64))) (show _ = some (Oper.mk (some 57) _ _ _ _ none) from rfl) (by kernel_rfl) (still_of rfl fun H' hS => by simp only [go_sem, Int.cast_ofNat_Int, Nat.reduceEqDiff, Nat.reduceAdd, Nat.reduceMul, Nat.reduceLeDiff, Nat.reduceLT, Int.reduceLT, Int.reduceLE, Int.reduceEq, Int.reduceNeg, Int.reduceToNat, Nat.reducePow, reduceIte, reduceCtorEq]) (grow _ f3') ?_
            refine anyH_take (i := 9) (v := .int .i64 0) (show _ = some (Oper.mk (some 58) _ _ _ _ none) from rfl) (by kernel_rfl) (still_of rfl fun H' hS => by simp only [go_sem, Int.cast_ofNat_Int, Nat.reduceEqDiff, Nat.reduceAdd, Nat.reduceMul, Nat.reduceLeDiff, Nat.reduceLT, Int.reduceLT, Int.reduceLE, Int.reduceEq, Int.reduceNeg, Int.reduceToNat, Nat.reducePow, reduceIte, reduceCtorEq]) (grow _ f3') ?_
            refine anyH_one (i := 11) (by kernel_rfl) (show _ = some (Oper.mk none _ _ _ _ none) from rfl) rfl (fun K' hK' => ?_)
            have wq := b3.okW (i := 0) (by simp)
            simp only [sv]
            simp only [go_sem, Int.cast_ofNat_Int, Nat.reduceEqDiff, Nat.reduceAdd, Nat.reduceMul, Nat.reduceLeDiff, Nat.reduceLT, Int.reduceLT, Int.reduceLE, Int.reduceEq, Int.reduceNeg, Int.reduceToNat, Nat.reducePow, reduceIte, reduceCtorEq, wq]
            have fq : Fr (fun _ => False) H1 (hset H3 ⟨H1.size, 0, none⟩ (.int .u64 ((y ||| bitN (pickN (zs i) 64)).toNat : Int))) := Fr.set f3' (.inr (by show H1.size ≤ H1.size; omega)) _
            have bq := b3.set_same 0 (.int .u64 ((y ||| bitN (pickN (zs i) 64)).toNat : Int))
            refine hK' _ _ ⟨fun _ => grow _ fq, ?_⟩
            refine anyH_one (i := 12) (by kernel_rfl) (show _ = some (Oper.mk (some 9) _ _ _ _ none) from rfl) rfl (fun K' hK' => ?_)
            simp only [go_sem, Int.cast_ofNat_Int, Nat.reduceEqDiff, Nat.reduceAdd, Nat.reduceMul, Nat.reduceLeDiff, Nat.reduceLT, Int.reduceLT, Int.reduceLE, Int.reduceEq, Int.reduceNeg, Int.reduceToNat, Nat.reducePow, reduceIte, reduceCtorEq]
            refine hK' _ _ ⟨fun _ => grow _ fq, ?_⟩
            refine anyH_done (by kernel_rfl) ?_
            exact tail _ _ H1.size rfl rfl rfl rfl rfl (by omega) bq fq
        · have f2 : Fr (fun _ => False) H1 (H1.push (.cells #[.int .u64 0] 26)) := (Fr.refl _ _).push _
          have b2' := Blk.new H1 [.int .u64 0] 26
          simp only [go_sem, Int.cast_ofNat_Int, Nat.reduceEqDiff, Nat.reduceAdd, Nat.reduceMul, Nat.reduceLeDiff, Nat.reduceLT, Int.reduceLT, Int.reduceLE, Int.reduceEq, Int.reduceNeg, Int.reduceToNat, Nat.reducePow, reduceIte, reduceCtorEq]
          refine hK' _ _ ⟨fun _ => grow _ f2, ?_⟩
          refine anyH_one (i := 5) (by kernel_rfl) (show _ = some (Oper.mk (some 55) _ _ _ _ none) from rfl) rfl (fun K' hK' => ?_)
          simp only [go_sem, Int.cast_ofNat_Int, Nat.reduceEqDiff, Nat.reduceAdd, Nat.reduceMul, Nat.reduceLeDiff, Nat.reduceLT, Int.reduceLT, Int.reduceLE, Int.reduceEq, Int.reduceNeg, Int.reduceToNat, Nat.reducePow, reduceIte, reduceCtorEq]
          refine Pkisthmuslaw09.pick_ok hz1 hz2 (by decide) ?_
          refine hK' _ _ ⟨fun _ => grow _ f2, ?_⟩
          refine anyH_one (i := 6) (by kernel_rfl) (show _ = some (Oper.mk (some 56) _ _ _ _ none) from rfl) rfl (fun K' hK' => ?_)
          simp only [go_sem, Int.cast_ofNat_Int, Nat.reduceEqDiff, Nat.reduceAdd, Nat.reduceMul, Nat.reduceLeDiff, Nat.reduceLT, Int.reduceLT, Int.reduceLE, Int.reduceEq, Int.reduceNeg, Int.reduceToNat, Nat.reducePow, reduceIte, reduceCtorEq]
          refine with_ok fun H3 f3 => ?_
          rw [hw]
          have b3 := b2'.frame f3 (fun h => h)
          have f3' := f2.trans f3
          refine hK' _ _ ⟨fun _ => grow _ f3', ?_⟩
          refine anyH_take (i := 7) (v := .tuple #[sv (y ||| bitN (pickN (zs i) 64)), .int .i64 0]) (show _ = some (Oper.mk (some 49) _ _ _ _ none) from rfl) (by kernel_rfl) (still_of rfl fun H' hS => by simp only [go_sem, Int.cast_ofNat_Int, Nat.reduceEqDiff, Nat.reduceAdd, Nat.reduceMul, Nat.reduceLeDiff, Nat.reduceLT, Int.reduceLT, Int.reduceLE, Int.reduceEq, Int.reduceNeg, Int.reduceToNat, Nat.reducePow, reduceIte, reduceCtorEq]) (grow _ f3') ?_
          refine anyH_take (i := 8) (v := sv (y ||| bitN (pickN (zs i) 64))) (show _ = some (Oper.mk (some 57) _ _ _ _ none) from rfl) (by kernel_rfl) (still_of rfl fun H' hS => by simp only [go_sem, Int.cast_ofNat_Int, Nat.reduceEqDiff, Nat.reduceAdd, Nat.reduceMul, Nat.reduceLeDiff, Nat.reduceLT, Int.reduceLT, Int.reduceLE, Int.reduceEq, Int.reduceNeg, Int.reduceToNat, Nat.reducePow, reduceIte, reduceCtorEq]) (grow _ f3') ?_
          refine anyH_take (i := 9) (v := .int .i64 0) (show _ = some (Oper.mk (some 58) _ _ _ _ none) from rfl) (by kernel_rfl) (still_of rfl fun H' hS => by simp only [go_sem, Int.cast_ofNat_Int, Nat.reduceEqDiff, Nat.reduceAdd, Nat.reduceMul, Nat.reduceLeDiff, Nat.reduceLT, Int.reduceLT, Int.reduceLE, Int.reduceEq, Int.reduceNeg, Int.reduceToNat, Nat.reducePow, reduceIte, reduceCtorEq]) (grow _ f3') ?_
          refine anyH_one (i := 11) (by kernel_rfl) (show _ = some (Oper.mk none _ _ _ _ none) from rfl) rfl (fun K' hK' => ?_)
          have wq := b3.okW (i := 0) (by simp)
          simp only [sv]
          simp only [go_sem, Int.cast_ofNat_Int, Nat.reduceEqDiff, Nat.reduceAdd, Nat.reduceMul, Nat.reduceLeDiff, Nat.reduceLT, Int.reduceLT, Int.reduceLE, Int.reduceEq, Int.reduceNeg, Int.reduceToNat, Nat.reducePow, reduceIte, reduceCtorEq, wq]
          have fq : Fr (fun _ => False) H1 (hset H3 ⟨H1.size, 0, none⟩ (.int .u64 ((y ||| bitN (pickN (zs i) 64)).toNat : Int))) := Fr.set f3' (.inr (by show H1.size ≤ H1.size; omega)) _
          have bq := b3.set_same 0 (.int .u64 ((y ||| bitN (pickN (zs i) 64)).toNat : Int))
          refine hK' _ _ ⟨fun _ => grow _ fq, ?_⟩
          refine anyH_one (i := 12) (by kernel_rfl) (show _ = some (Oper.mk (some 9) _ _ _ _ none) from rfl) rfl (fun K' hK' => ?_)
          simp only [go_sem, Int.cast_ofNat_Int, Nat.reduceEqDiff, Nat.reduceAdd, Nat.reduceMul, Nat.reduceLeDiff, Nat.reduceLT, Int.reduceLT, Int.reduceLE, Int.reduceEq, Int.reduceNeg, Int.reduceToNat, Nat.reducePow, reduceIte, reduceCtorEq]
          refine hK' _ _ ⟨fun _ => grow _ fq, ?_⟩
          refine anyH_done (by kernel_rfl) ?_
          exact tail _ _ H1.size rfl rfl rfl rfl rfl (by omega) bq fq
    · have t2 : ((i : Int) < 100) = False := by simp; omega
      repeat' (first
        | (with_reducible first | refine seq_normal ?_ | (refine hK _ _ ?_; clear hK K) | refine x_seq (fun K hK => ?_) | refine x_nil ?_ | refine x_block ?_ | refine x_skip ?_ | refine x_exit ?_ | refine x_ret ?_ | refine x_label ?_ | refine x_scope ?_ | (refine seq_ret ?_; clear hK K) | (refine seq_exit ?_; clear hK K) | refine block_normal ?_ | refine block_ret ?_ | refine block_exit ?_ | refine loop_exit ?_ | refine loop_ret ?_)
        | ((with_reducible refine x_reg_lit ?hq ?_); case hq => rfl)
        | ((first | (with_reducible first | refine x_op (fun K hK => ?_) | refine end_ret ?_ | refine end_normal ?_) | ((with_reducible refine x_guard_yes ?hy (fun K hK => ?_)); case hy => rfl)); simp only [go_sem, Int.cast_ofNat_Int, Nat.reduceEqDiff, Nat.reduceAdd, Nat.reduceMul, Nat.reduceLeDiff, Nat.reduceLT, Int.reduceLT, Int.reduceLE, Int.reduceEq, Int.reduceNeg, Int.reduceToNat, Nat.reducePow, reduceIte, reduceCtorEq, i0, i7, t1, t2])
        | ((with_reducible first | refine x_guard_no ?hy ?_ | refine x_cond_true ?hy ?_); case hy => rfl)
        | ((with_reducible first | refine x_guard_none ?hy ?_ | refine x_cond_false ?hy ?_); case hy => rfl)
        | ((with_reducible refine block_exit_ne ?hy ?_); case hy => decide))
      refine hQ _ _ y i2 i5 B2 B5 ?_ hf1
      rw [show min len 100 = i by omega] at hx ⊢; exact hx
  · have t1 : (i < len) = False := by simp [hlt]
    repeat' (first
      | (with_reducible first | refine seq_normal ?_ | (refine hK _ _ ?_; clear hK K) | refine x_seq (fun K hK => ?_) | refine x_nil ?_ | refine x_block ?_ | refine x_skip ?_ | refine x_exit ?_ | refine x_ret ?_ | refine x_label ?_ | refine x_scope ?_ | (refine seq_ret ?_; clear hK K) | (refine seq_exit ?_; clear hK K) | refine block_normal ?_ | refine block_ret ?_ | refine block_exit ?_ | refine loop_exit ?_ | refine loop_ret ?_)
      | ((with_reducible refine x_reg_lit ?hq ?_); case hq => rfl)
      | ((first | (with_reducible first | refine x_op (fun K hK => ?_) | refine end_ret ?_ | refine end_normal ?_) | ((with_reducible refine x_guard_yes ?hy (fun K hK => ?_)); case hy => rfl)); simp only [go_sem, Int.cast_ofNat_Int, Nat.reduceEqDiff, Nat.reduceAdd, Nat.reduceMul, Nat.reduceLeDiff, Nat.reduceLT, Int.reduceLT, Int.reduceLE, Int.reduceEq, Int.reduceNeg, Int.reduceToNat, Nat.reducePow, reduceIte, reduceCtorEq, i0, i7, t1])
      | ((with_reducible first | refine x_guard_no ?hy ?_ | refine x_cond_true ?hy ?_); case hy => rfl)
      | ((with_reducible first | refine x_guard_none ?hy ?_ | refine x_cond_false ?hy ?_); case hy => rfl)
      | ((with_reducible refine block_exit_ne ?hy ?_); case hy => decide))
    refine hQ _ _ y i2 i5 B2 B5 ?_ hf1
    rw [show min len 100 = i by omega] at hx ⊢; exact hx
theorem thirds_ok (zs : Nat → Int) (n : Nat) : (thirds zs n).all okN = true := by
  rw [List.all_eq_true]
  intro x hx
  unfold thirds at hx
  obtain ⟨i, _, rfl⟩ := List.mem_map.1 hx
  obtain ⟨r0, r1⟩ := pickN_range (zs i) (n := 64) (by decide)
  unfold okN; simp; omega
theorem thirds_has (zs : Nat → Int) (n : Nat) : Has zs (ofFrom 0#64 (thirds zs n)) n 0 := by
  intro i hi h3
  obtain ⟨r0, r1⟩ := pickN_range (zs i) (n := 64) (by decide)
  refine ofFrom_mem _ _ _ (by unfold okN; simp; omega) ?_
  unfold thirds
  exact List.mem_map.2 ⟨i, List.mem_filter.2 ⟨List.mem_range.2 hi, by simp; omega⟩, rfl⟩
theorem ofLaw_ok {H : Heap} {a : Option Addr} {len cap : Nat} {zs : Nat → Int} {K : Value → Heap → Prop} (hin : InInts H a len zs) (hk : ∀ H' x, Has zs x (min len 100) (min len 100) → Fr (fun _ => False) H H' → K (sv x) H') :
    CallsH Tryd.prog 10 #[.slice a len cap] H K := by
  refine call10 (by simp) ?_
  simp only [Tryd.f10, Option.getD_some]
  repeat' (first
    | (with_reducible first | refine seq_normal ?_ | (refine hK _ _ ?_; clear hK K) | refine x_seq (fun K hK => ?_) | refine x_nil ?_ | refine x_block ?_ | refine x_skip ?_ | refine x_exit ?_ | refine x_ret ?_ | refine x_label ?_ | refine x_scope ?_ | (refine seq_ret ?_; clear hK K) | (refine seq_exit ?_; clear hK K) | refine block_normal ?_ | refine block_ret ?_ | refine block_exit ?_ | refine loop_exit ?_ | refine loop_ret ?_)
    | ((with_reducible refine x_reg_lit ?hq ?_); case hq => rfl)
    | ((first | (with_reducible first | refine x_op (fun K hK => ?_) | refine end_ret ?_ | refine end_normal ?_) | ((with_reducible refine x_guard_yes ?hy (fun K hK => ?_)); case hy => rfl)); simp only [go_sem, Int.cast_ofNat_Int, Nat.reduceEqDiff, Nat.reduceAdd, Nat.reduceMul, Nat.reduceLeDiff, Nat.reduceLT, Int.reduceLT, Int.reduceLE, Int.reduceEq, Int.reduceNeg, Int.reduceToNat, Nat.reducePow, reduceIte, reduceCtorEq])
    | ((with_reducible first | refine x_guard_no ?hy ?_ | refine x_cond_true ?hy ?_); case hy => rfl)
    | ((with_reducible first | refine x_guard_none ?hy ?_ | refine x_cond_false ?hy ?_); case hy => rfl)
    | ((with_reducible refine block_exit_ne ?hy ?_); case hy => decide))
  have f1 : Fr (fun _ => False) H (H.push (.cells #[.int .u64 0] 26)) := (Fr.refl _ _).push _
  have b1 := Blk.new H [.int .u64 0] 26
  refine of0 (a := a) (cap := cap) (b2 := H.size) hin f1 rfl rfl rfl rfl fun e' H2 B v q0 q2 q3 hr f2 => ?_
  have f2' := f1.trans f2
  have b2 := b1.frame f2 (fun h => h)
  repeat' (first
    | (with_reducible first | refine seq_normal ?_ | (refine hK _ _ ?_; clear hK K) | refine x_seq (fun K hK => ?_) | refine x_nil ?_ | refine x_block ?_ | refine x_skip ?_ | refine x_exit ?_ | refine x_ret ?_ | refine x_label ?_ | refine x_scope ?_ | (refine seq_ret ?_; clear hK K) | (refine seq_exit ?_; clear hK K) | refine block_normal ?_ | refine block_ret ?_ | refine block_exit ?_ | refine loop_exit ?_ | refine loop_ret ?_)
    | ((with_reducible refine x_reg_lit ?hq ?_); case hq => rfl)
    | ((first | (with_reducible first | refine x_op (fun K hK => ?_) | refine end_ret ?_ | refine end_normal ?_) | ((with_reducible refine x_guard_yes ?hy (fun K hK => ?_)); case hy => rfl)); simp only [go_sem, Int.cast_ofNat_Int, Nat.reduceEqDiff, Nat.reduceAdd, Nat.reduceMul, Nat.reduceLeDiff, Nat.reduceLT, Int.reduceLT, Int.reduceLE, Int.reduceEq, Int.reduceNeg, Int.reduceToNat, Nat.reducePow, reduceIte, reduceCtorEq, q3])
    | ((with_reducible first | refine x_guard_no ?hy ?_ | refine x_cond_true ?hy ?_); case hy => rfl)
    | ((with_reducible first | refine x_guard_none ?hy ?_ | refine x_cond_false ?hy ?_); case hy => rfl)
    | ((with_reducible refine block_exit_ne ?hy ?_); case hy => decide))
  have hlen := thirds_len zs (min len 100)
  refine of_ok hr.rds (by omega) fun H3 f3 => ?_
  have e1 : ofQ (thirds zs (min len 100)) = (ofFrom 0#64 (thirds zs (min len 100)), 0) := by unfold ofQ; rw [if_pos (thirds_ok _ _)]
  rw [e1]
  have f3' := f2'.trans f3
  have b3 := b2.frame f3 (fun h => h)
  have hx := thirds_has zs (min len 100)
  generalize ofFrom 0#64 (thirds zs (min len 100)) = x0 at *
  have e0 : sv x0 = .agg #[.int .u64 (x0.toNat : Int)] := rfl
  rw [e0]
  repeat' (first
    | (with_reducible first | refine seq_normal ?_ | (refine hK _ _ ?_; clear hK K) | refine x_seq (fun K hK => ?_) | refine x_nil ?_ | refine x_block ?_ | refine x_skip ?_ | refine x_exit ?_ | refine x_ret ?_ | refine x_label ?_ | refine x_scope ?_ | (refine seq_ret ?_; clear hK K) | (refine seq_exit ?_; clear hK K) | refine block_normal ?_ | refine block_ret ?_ | refine block_exit ?_ | refine loop_exit ?_ | refine loop_ret ?_)
    | ((with_reducible refine x_reg_lit ?hq ?_); case hq => rfl)
    | ((first | (with_reducible first | refine x_op (fun K hK => ?_) | refine end_ret ?_ | refine end_normal ?_) | ((with_reducible refine x_guard_yes ?hy (fun K hK => ?_)); case hy => rfl)); simp only [go_sem, Int.cast_ofNat_Int, Nat.reduceEqDiff, Nat.reduceAdd, Nat.reduceMul, Nat.reduceLeDiff, Nat.reduceLT, Int.reduceLT, Int.reduceLE, Int.reduceEq, Int.reduceNeg, Int.reduceToNat, Nat.reducePow, reduceIte, reduceCtorEq, hcell_push, hcell_top, okW_push, okW_top, hcell_hset_ne, hcell_hset_off, hcell_hset_eq, okW_hset, hset_size, Array.size_push, Nat.lt_add_one, ne_add_one, add_one_ne, Nat.add_assoc, add_same, add_lt_same, Nat.reduceEqDiff, lt_add_k, add_k_ne, ne_add_k])
    | ((with_reducible first | refine x_guard_no ?hy ?_ | refine x_cond_true ?hy ?_); case hy => rfl)
    | ((with_reducible first | refine x_guard_none ?hy ?_ | refine x_cond_false ?hy ?_); case hy => rfl)
    | ((with_reducible refine block_exit_ne ?hy ?_); case hy => decide))
  have f4 : Fr (fun _ => False) H3 (hset (H3.push (.cells #[.int .u64 0] 26)) ⟨H3.size, 0, none⟩ (.int .u64 (x0.toNat : Int))) := (by ((repeat (first | refine Fr.set ?_ (by simp) _ | refine Fr.push ?_ _)); exact Fr.refl _ _))
  have b5 := (Blk.new H3 [.int .u64 0] 26).set_same 0 (.int .u64 (x0.toNat : Int))
  simp only [List.set_cons_zero] at b5
  have b4 := b3.frame f4 (fun h => h)
  have f4' := f3'.trans f4
  have s3 := f3'.size
  have l3 := b3.lt
  generalize hset (H3.push (.cells #[.int .u64 0] 26)) ⟨H3.size, 0, none⟩ (.int .u64 (x0.toNat : Int)) = H4 at *
  refine of1 (a := a) (cap := cap) (b2 := H.size) (b5 := H3.size) hin f4' ?_ ?_ rfl rfl (Nat.le_refl _) s3 (by omega) b4 b5 hx fun e5 H5 y p2 p5 B2 B5 hy f5 => ?_
  · exact q0
  · exact q2
  have c2 := B2.cellOf (i := 0) rfl
  have w2 := B2.okW (i := 0) (by simp)
  have c5 := B5.cellOf (i := 0) rfl
  repeat' (first
    | (with_reducible first | refine seq_normal ?_ | (refine hK _ _ ?_; clear hK K) | refine x_seq (fun K hK => ?_) | refine x_nil ?_ | refine x_block ?_ | refine x_skip ?_ | refine x_exit ?_ | refine x_ret ?_ | refine x_label ?_ | refine x_scope ?_ | (refine seq_ret ?_; clear hK K) | (refine seq_exit ?_; clear hK K) | refine block_normal ?_ | refine block_ret ?_ | refine block_exit ?_ | refine loop_exit ?_ | refine loop_ret ?_)
    | ((with_reducible refine x_reg_lit ?hq ?_); case hq => rfl)
    | ((first | (with_reducible first | refine x_op (fun K hK => ?_) | refine end_ret ?_ | refine end_normal ?_) | ((with_reducible refine x_guard_yes ?hy (fun K hK => ?_)); case hy => rfl)); simp only [go_sem, Int.cast_ofNat_Int, Nat.reduceEqDiff, Nat.reduceAdd, Nat.reduceMul, Nat.reduceLeDiff, Nat.reduceLT, Int.reduceLT, Int.reduceLE, Int.reduceEq, Int.reduceNeg, Int.reduceToNat, Nat.reducePow, reduceIte, reduceCtorEq, hcell_push, hcell_top, okW_push, okW_top, hcell_hset_ne, hcell_hset_off, hcell_hset_eq, okW_hset, hset_size, Array.size_push, Nat.lt_add_one, ne_add_one, add_one_ne, Nat.add_assoc, add_same, add_lt_same, Nat.reduceEqDiff, lt_add_k, add_k_ne, ne_add_k, p2, p5, c5, w2])
    | ((with_reducible first | refine x_guard_no ?hy ?_ | refine x_cond_true ?hy ?_); case hy => rfl)
    | ((with_reducible first | refine x_guard_none ?hy ?_ | refine x_cond_false ?hy ?_); case hy => rfl)
    | ((with_reducible refine block_exit_ne ?hy ?_); case hy => decide))
  exact hk _ y hy (f5.set (.inr (Nat.le_refl _)) _)
end Go.Proofs.YtdhepjcdlkahnaaDoor
