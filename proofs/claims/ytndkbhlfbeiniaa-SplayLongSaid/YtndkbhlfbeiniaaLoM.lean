/-
  SplayLong returns true, whatever it is given, and writes nothing that was there.
-/
import Derived.Test.YtndkbhlfbeiniaaStM
namespace Go.Sp
open Go Go.Hp
set_option linter.unusedVariables false
theorem sum_perm {l l' : List Int} (h : l.Perm l') : l.sum = l'.sum := by
  induction h with
  | nil => rfl
  | cons x _ ih => simp [ih]
  | swap x y l => simp; omega
  | trans _ _ h1 h2 => exact h1.trans h2
theorem minL_mem : ∀ {l : List Int}, l ≠ [] → minL l ∈ l
  | [], h => absurd rfl h
  | [v], _ => by simp [minL]
  | v :: w :: vs, _ => by
    have := minL_mem (l := w :: vs) (by simp)
    unfold minL minI
    split
    · exact .tail _ this
    · exact .head _
theorem minL_le : ∀ {l : List Int} {x : Int}, x ∈ l → minL l ≤ x
  | [v], x, h => by simp at h; simp [minL, h]
  | v :: w :: vs, x, h => by
    have ih : ∀ y ∈ w :: vs, minL (w :: vs) ≤ y := fun y hy => minL_le hy
    unfold minL minI
    rcases List.mem_cons.1 h with rfl | h
    · split <;> omega
    · have := ih x h
      split <;> omega
theorem maxL_mem : ∀ {l : List Int}, l ≠ [] → maxL l ∈ l
  | [], h => absurd rfl h
  | [v], _ => by simp [maxL]
  | v :: w :: vs, _ => by
    have := maxL_mem (l := w :: vs) (by simp)
    unfold maxL maxI
    split
    · exact .tail _ this
    · exact .head _
theorem maxL_ge : ∀ {l : List Int} {x : Int}, x ∈ l → x ≤ maxL l
  | [v], x, h => by simp at h; simp [maxL, h]
  | v :: w :: vs, x, h => by
    have ih : ∀ y ∈ w :: vs, y ≤ maxL (w :: vs) := fun y hy => maxL_ge hy
    unfold maxL maxI
    rcases List.mem_cons.1 h with rfl | h
    · split <;> omega
    · have := ih x h
      split <;> omega
theorem minL_perm {l l' : List Int} (h : l.Perm l') : minL l = minL l' := by
  by_cases hl : l = []
  · subst hl; rw [List.nil_perm.1 h]
  · have hl' : l' ≠ [] := fun e => hl (by rw [e] at h; exact List.perm_nil.1 h)
    have h1 := minL_le (h.mem_iff.2 (minL_mem hl'))
    have h2 := minL_le (h.mem_iff.1 (minL_mem hl))
    omega
theorem maxL_perm {l l' : List Int} (h : l.Perm l') : maxL l = maxL l' := by
  by_cases hl : l = []
  · subst hl; rw [List.nil_perm.1 h]
  · have hl' : l' ≠ [] := fun e => hl (by rw [e] at h; exact List.perm_nil.1 h)
    have h1 := maxL_ge (h.mem_iff.2 (maxL_mem hl'))
    have h2 := maxL_ge (h.mem_iff.1 (maxL_mem hl))
    omega
theorem flagsL_perm {l l' : List Item} (h : l.Perm l') : flagsL l = flagsL l' := by
  induction h with
  | nil => rfl
  | cons x _ ih => simp only [flagsL, ih]
  | swap x y l => simp only [flagsL, ← Nat.or_assoc, Nat.or_comm x.flags.toNat]
  | trans _ _ h1 h2 => exact h1.trans h2
theorem aggL_perm {l l' : List Item} (h : l.Perm l') : aggL l = aggL l' := by
  have hv : (valsL l).Perm (valsL l') := (h.filter _).map _
  unfold aggL
  rw [hv.length_eq, sum_perm hv, minL_perm hv, maxL_perm hv, flagsL_perm h]
def longL (n : Nat) : List Item := (List.range n).map fun (i : Nat) => ⟨(i : Int), true, 0⟩
set_option maxRecDepth 1000000 in
theorem longL_agg : aggL (longL 1024) = ⟨1024, 523776, 0, 1023, 0⟩ := by decide +kernel
theorem tdiv_small (z : Int) (h1 : -9223372036854775808 ≤ z) (h2 : z ≤ 9223372036854775807) : -9223372036854775808 ≤ z.tdiv 1024 ∧ z.tdiv 1024 ≤ 9223372036854775807 := by
  rcases Int.lt_or_le z 0 with h | h
  · have : z.tdiv 1024 = -((-z) / 1024) := by
      rw [← Int.tdiv_eq_ediv_of_nonneg (by omega), Int.neg_tdiv, Int.neg_neg]
    omega
  · rw [Int.tdiv_eq_ediv_of_nonneg h]; omega
theorem longL_may : ∀ x ∈ longL 1024, May x := fun x hx => by
  obtain ⟨i, hi, rfl⟩ := List.mem_map.1 hx
  rw [List.mem_range] at hi
  exact ⟨by simp only []; omega, by simp only []; omega, by simp only []; omega, by simp only []; omega⟩
end Go.Sp
namespace Go.Proofs.Ytndkbhlfbeiniaa
open Go Go.Hp Go.Sp
set_option linter.all false
set_option maxRecDepth 100000
set_option maxHeartbeats 1600000

section
variable {H0 H : Heap} {e : Env} {Q : HX → Env → Heap → Prop} {f : Nat} {T : Nat → Prop} {S : Sq} {B : Option Nat} {v : Value} {all : List Nat}
theorem longA {go co : Nat} (ho : Its H (some go) (.slice (some ⟨go, 0, none⟩) 1024 co) (List.replicate 1024 Sp.Item.zero)) (hf : Fr (fun _ => False) H0 H) (hgo : H0.size ≤ go) (e6 : e 6 = .slice (some ⟨go, 0, none⟩) 1024 co) (e7 : e 7 = .int .i64 0)
    (hQ : ∀ e' H', e' 0 = e 0 → e' 1 = e 1 → e' 5 = e 5 → e' 6 = e 6 → Its H' (some go) (.slice (some ⟨go, 0, none⟩) 1024 co) (longL 1024) → Fr (fun _ => False) H0 H' → Q .normal e' H') :
    codeX Try.prog [] (loopAt Try.f4.body 0) (blockQ 0 Q) e H := by
  have hll : (longL 1024).length = 1024 := by simp [longL]
  refine x_loop (fun m e' H' => ∃ j : Nat, e' 7 = .int .i64 (j : Nat) ∧ Its H' (some go) (.slice (some ⟨go, 0, none⟩) 1024 co) ((longL 1024).take j ++ List.replicate (1024 - j) Sp.Item.zero) ∧ Fr (fun _ => False) H0 H' ∧ j ≤ 1024 ∧ m = 1024 - j) 1024 ⟨0, e7, by rw [List.take_zero, List.nil_append]; exact ho, hf, by omega, rfl⟩ ?_
  rintro m e1 H1 ⟨j, i7, ho1, hf1, hj, rfl⟩ hoff
  have i6 := (hoff 6 rfl).trans e6
  have keep : e1 0 = e 0 ∧ e1 1 = e 1 ∧ e1 5 = e 5 ∧ e1 6 = e 6 := ⟨hoff 0 rfl, hoff 1 rfl, hoff 5 rfl, hoff 6 rfl⟩
  clear hoff e6 e7
  by_cases hlt : j < 1024
  · have t1 : ((j : Int) < 1024) = True := by simp; omega
    have t2 : (j < 1024) = True := by simp [hlt]
    have ew : IntKind.i64.wrap ((j : Int) + 1) = ((j + 1 : Nat) : Int) := by rw [wrap_i64] <;> omega
    have hjl : j < ((longL 1024).take j ++ List.replicate (1024 - j) Sp.Item.zero).length := by rw [List.length_append, List.length_take, List.length_replicate, hll]; omega
    obtain ⟨⟨w0, w1, w2⟩, ho2, hf2⟩ := ho1.write hjl ⟨(j : Int), true, 0⟩
    have hget : (longL 1024)[j]? = some ⟨(j : Int), true, 0⟩ := by unfold longL; rw [List.getElem?_map, List.getElem?_range hlt]; rfl
    rw [set_step hll hget] at ho2
    repeat' (first
      | (with_reducible first | refine seq_normal ?_ | (refine hK _ _ ?_; clear hK K) | refine x_seq (fun K hK => ?_) | refine x_nil ?_ | refine x_block ?_ | refine x_skip ?_ | refine x_exit ?_ | refine x_ret ?_ | refine x_label ?_ | refine x_scope ?_ | (refine seq_ret ?_; clear hK K) | (refine seq_exit ?_; clear hK K) | refine block_normal ?_ | refine block_ret ?_ | refine block_exit ?_ | refine loop_exit ?_ | refine loop_ret ?_)
      | ((with_reducible refine x_reg_lit ?hq ?_); case hq => rfl)
      | ((first | (with_reducible first | refine x_op (fun K hK => ?_) | refine end_ret ?_ | refine end_normal ?_) | ((with_reducible refine x_guard_yes ?hy (fun K hK => ?_)); case hy => rfl)); simp only [go_sem, Int.cast_ofNat_Int, Nat.reduceEqDiff, Nat.reduceAdd, Nat.reduceMul, Nat.reduceLeDiff, Nat.reduceLT, Int.reduceLT, Int.reduceLE, Int.reduceEq, Int.reduceNeg, Int.reduceToNat, Nat.reducePow, reduceIte, reduceCtorEq, i6, i7, t1, t2, w0, w1, w2, okW_hset, ew])
      | ((with_reducible first | refine x_guard_no ?hy ?_ | refine x_cond_true ?hy ?_); case hy => rfl)
      | ((with_reducible first | refine x_guard_none ?hy ?_ | refine x_cond_false ?hy ?_); case hy => rfl)
      | ((with_reducible refine block_exit_ne ?hy ?_); case hy => decide))
    exact loop_normal (m' := 1024 - (j + 1)) (by omega) ⟨j + 1, rfl, ho2, hf1.trans' hf2 (fun b hb e => by have := Option.some.inj e; omega), by omega, rfl⟩
  · have t1 : ((j : Int) < 1024) = False := by simp; omega
    have hj' : j = 1024 := by omega
    subst hj'
    repeat' (first
      | (with_reducible first | refine seq_normal ?_ | (refine hK _ _ ?_; clear hK K) | refine x_seq (fun K hK => ?_) | refine x_nil ?_ | refine x_block ?_ | refine x_skip ?_ | refine x_exit ?_ | refine x_ret ?_ | refine x_label ?_ | refine x_scope ?_ | (refine seq_ret ?_; clear hK K) | (refine seq_exit ?_; clear hK K) | refine block_normal ?_ | refine block_ret ?_ | refine block_exit ?_ | refine loop_exit ?_ | refine loop_ret ?_)
      | ((with_reducible refine x_reg_lit ?hq ?_); case hq => rfl)
      | ((first | (with_reducible first | refine x_op (fun K hK => ?_) | refine end_ret ?_ | refine end_normal ?_) | ((with_reducible refine x_guard_yes ?hy (fun K hK => ?_)); case hy => rfl)); simp only [go_sem, Int.cast_ofNat_Int, Nat.reduceEqDiff, Nat.reduceAdd, Nat.reduceMul, Nat.reduceLeDiff, Nat.reduceLT, Int.reduceLT, Int.reduceLE, Int.reduceEq, Int.reduceNeg, Int.reduceToNat, Nat.reducePow, reduceIte, reduceCtorEq, i7, t1])
      | ((with_reducible first | refine x_guard_no ?hy ?_ | refine x_cond_true ?hy ?_); case hy => rfl)
      | ((with_reducible first | refine x_guard_none ?hy ?_ | refine x_cond_false ?hy ?_); case hy => rfl)
      | ((with_reducible refine block_exit_ne ?hy ?_); case hy => decide))
    rw [List.take_of_length_le (by omega), Nat.sub_self, List.replicate_zero, List.append_nil] at ho1
    exact hQ _ _ keep.1 keep.2.1 keep.2.2.1 keep.2.2.2 ho1 hf1
theorem longB {a : Option Addr} {len cap : Nat} {zs : Nat → Int} (hin : InInts H0 a len zs) (hl : len ≤ 9223372036854775807) (hM : RM H0 H f T S B v all) (hr : S.rows = [all]) (hlen : all.length = 1024)
    (e1 : e 1 = .slice a len cap) (e8 : e 8 = .pointer (some ⟨f, 0, none⟩)) (e9 : e 9 = v) (e10 : e 10 = .int .i64 0)
    (hQ : ∀ e' H', e' 8 = .pointer (some ⟨f, 0, none⟩) → e' 9 = v → RM H0 H' f T S B v all → Q .normal e' H') :
    codeX Try.prog [] (loopAt Try.f4.body 1) (blockQ 2 Q) e H := by
  have hne : all ≠ [] := fun h => by rw [h] at hlen; simp at hlen
  obtain ⟨g, c, rfl, rfl, hc⟩ := hM.open hne
  have hx : all ∈ S.rows := by rw [hr]; exact .head _
  rw [hlen] at hM e9 hc hQ
  refine x_loop (fun m e' H' => ∃ i : Nat, e' 10 = .int .i64 (i : Nat) ∧ RM H0 H' f T S (some g) (.slice (some ⟨g, 0, none⟩) 1024 c) all ∧ i ≤ 30 ∧ i ≤ len ∧ m = 30 - i) 30 ⟨0, e10, hM, by omega, by omega, rfl⟩ ?_
  rintro m e1' H1 ⟨i, i10, hM1, hi30, hil, rfl⟩ hoff
  have i1 := (hoff 1 rfl).trans e1
  have i8 := (hoff 8 rfl).trans e8
  have i9 := (hoff 9 rfl).trans e9
  clear hoff e1 e8 e9 e10
  by_cases hgo : i < len ∧ i < 30
  · have t1 : (i < len) = True := by simp [hgo.1]
    have t2 : ((i : Int) < 30) = True := by simp; omega
    obtain ⟨p, rfl, cz, hz1, hz2⟩ := (hin.frame hM1.fr) i hgo.1
    obtain ⟨r0, r1⟩ := pickN_range (zs i) (n := 1024) (by omega)
    obtain ⟨k, ek⟩ := Int.eq_ofNat_of_zero_le r0
    have hk : k < 1024 := by omega
    obtain ⟨x, hxk⟩ : ∃ x, all[k]? = some x := ⟨_, List.getElem?_eq_getElem (by omega)⟩
    have cx := hM1.cell hxk
    have ew : IntKind.i64.wrap ((i : Int) + 1) = ((i + 1 : Nat) : Int) := by rw [wrap_i64] <;> omega
    have ewd : IntKind.i64.wrap ((zs i).tdiv 1024) = (zs i).tdiv 1024 := by
      have h1 := tdiv_small (zs i) hz1 hz2
      rw [wrap_i64] <;> omega
    have hd := tdiv_small (zs i) hz1 hz2
    obtain ⟨s0, s1⟩ := pickN_range ((zs i).tdiv 1024) (n := 1024) (by omega)
    obtain ⟨j, ej⟩ := Int.eq_ofNat_of_zero_le s0
    have hj : j < 1024 := by omega
    obtain ⟨y, hyj⟩ : ∃ y, all[j]? = some y := ⟨_, List.getElem?_eq_getElem (by omega)⟩
    have n0 : ((1024 : Int) = 0) = False := by simp
    have hk' : ((k : Int) < 1024) = True := by simp; omega
    have hj' : ((j : Int) < 1024) = True := by simp; omega
    repeat' (first
      | (with_reducible first | refine seq_normal ?_ | (refine hK _ _ ?_; clear hK K) | refine x_seq (fun K hK => ?_) | refine x_nil ?_ | refine x_block ?_ | refine x_skip ?_ | refine x_exit ?_ | refine x_ret ?_ | refine x_label ?_ | refine x_scope ?_ | (refine seq_ret ?_; clear hK K) | (refine seq_exit ?_; clear hK K) | refine block_normal ?_ | refine block_ret ?_ | refine block_exit ?_ | refine loop_exit ?_ | refine loop_ret ?_)
      | ((with_reducible refine x_reg_lit ?hq ?_); case hq => rfl)
      | ((first | (with_reducible first | refine x_op (fun K hK => ?_) | refine end_ret ?_ | refine end_normal ?_) | ((with_reducible refine x_guard_yes ?hy (fun K hK => ?_)); case hy => rfl)); simp only [go_sem, Int.cast_ofNat_Int, Nat.reduceEqDiff, Nat.reduceAdd, Nat.reduceMul, Nat.reduceLeDiff, Nat.reduceLT, Int.reduceLT, Int.reduceLE, Int.reduceEq, Int.reduceNeg, Int.reduceToNat, Nat.reducePow, reduceIte, reduceCtorEq, i1, i8, i9, i10, t1, t2, cz])
      | ((with_reducible first | refine x_guard_no ?hy ?_ | refine x_cond_true ?hy ?_); case hy => rfl)
      | ((with_reducible first | refine x_guard_none ?hy ?_ | refine x_cond_false ?hy ?_); case hy => rfl)
      | ((with_reducible refine block_exit_ne ?hy ?_); case hy => decide))
    refine Pkisthmuslaw03.pick_ok hz1 hz2 (by omega) ?_
    rw [ek]
    repeat' (first
      | (with_reducible first | refine seq_normal ?_ | (refine hK _ _ ?_; clear hK K) | refine x_seq (fun K hK => ?_) | refine x_nil ?_ | refine x_block ?_ | refine x_skip ?_ | refine x_exit ?_ | refine x_ret ?_ | refine x_label ?_ | refine x_scope ?_ | (refine seq_ret ?_; clear hK K) | (refine seq_exit ?_; clear hK K) | refine block_normal ?_ | refine block_ret ?_ | refine block_exit ?_ | refine loop_exit ?_ | refine loop_ret ?_)
      | ((with_reducible refine x_reg_lit ?hq ?_); case hq => rfl)
      | ((first | (with_reducible first | refine x_op (fun K hK => ?_) | refine end_ret ?_ | refine end_normal ?_) | ((with_reducible refine x_guard_yes ?hy (fun K hK => ?_)); case hy => rfl)); simp only [go_sem, Int.cast_ofNat_Int, Nat.reduceEqDiff, Nat.reduceAdd, Nat.reduceMul, Nat.reduceLeDiff, Nat.reduceLT, Int.reduceLT, Int.reduceLE, Int.reduceEq, Int.reduceNeg, Int.reduceToNat, Nat.reducePow, reduceIte, reduceCtorEq, i1, i8, i9, i10, hk, hk', cx])
      | ((with_reducible first | refine x_guard_no ?hy ?_ | refine x_cond_true ?hy ?_); case hy => rfl)
      | ((with_reducible first | refine x_guard_none ?hy ?_ | refine x_cond_false ?hy ?_); case hy => rfl)
      | ((with_reducible refine block_exit_ne ?hy ?_); case hy => decide))
    refine m_rank hM1.fo hx (split_at' hxk) ?_
    intro H2 hF2 hf2
    have hM2 := hM1.op hF2 hf2
    have etl : (all.take k).length = k := by simp; omega
    rw [etl]
    obtain ⟨_, cz2⟩ : True ∧ hcell H2 (p.add i) = some (.int .i64 (zs i)) := by
      obtain ⟨p', h1, h2, _⟩ := (hin.frame hM2.fr) i hgo.1
      obtain rfl := Option.some.inj h1
      exact ⟨trivial, h2⟩
    have cy := hM2.cell hyj
    repeat' (first
      | (with_reducible first | refine seq_normal ?_ | (refine hK _ _ ?_; clear hK K) | refine x_seq (fun K hK => ?_) | refine x_nil ?_ | refine x_block ?_ | refine x_skip ?_ | refine x_exit ?_ | refine x_ret ?_ | refine x_label ?_ | refine x_scope ?_ | (refine seq_ret ?_; clear hK K) | (refine seq_exit ?_; clear hK K) | refine block_normal ?_ | refine block_ret ?_ | refine block_exit ?_ | refine loop_exit ?_ | refine loop_ret ?_)
      | ((with_reducible refine x_reg_lit ?hq ?_); case hq => rfl)
      | ((first | (with_reducible first | refine x_op (fun K hK => ?_) | refine end_ret ?_ | refine end_normal ?_) | ((with_reducible refine x_guard_yes ?hy (fun K hK => ?_)); case hy => rfl)); simp only [go_sem, Int.cast_ofNat_Int, Nat.reduceEqDiff, Nat.reduceAdd, Nat.reduceMul, Nat.reduceLeDiff, Nat.reduceLT, Int.reduceLT, Int.reduceLE, Int.reduceEq, Int.reduceNeg, Int.reduceToNat, Nat.reducePow, reduceIte, reduceCtorEq, i1, i8, i9, i10, t1, cz2, ewd, n0])
      | ((with_reducible first | refine x_guard_no ?hy ?_ | refine x_cond_true ?hy ?_); case hy => rfl)
      | ((with_reducible first | refine x_guard_none ?hy ?_ | refine x_cond_false ?hy ?_); case hy => rfl)
      | ((with_reducible refine block_exit_ne ?hy ?_); case hy => decide))
    refine Pkisthmuslaw03.pick_ok hd.1 hd.2 (by omega) ?_
    rw [ej]
    repeat' (first
      | (with_reducible first | refine seq_normal ?_ | (refine hK _ _ ?_; clear hK K) | refine x_seq (fun K hK => ?_) | refine x_nil ?_ | refine x_block ?_ | refine x_skip ?_ | refine x_exit ?_ | refine x_ret ?_ | refine x_label ?_ | refine x_scope ?_ | (refine seq_ret ?_; clear hK K) | (refine seq_exit ?_; clear hK K) | refine block_normal ?_ | refine block_ret ?_ | refine block_exit ?_ | refine loop_exit ?_ | refine loop_ret ?_)
      | ((with_reducible refine x_reg_lit ?hq ?_); case hq => rfl)
      | ((first | (with_reducible first | refine x_op (fun K hK => ?_) | refine end_ret ?_ | refine end_normal ?_) | ((with_reducible refine x_guard_yes ?hy (fun K hK => ?_)); case hy => rfl)); simp only [go_sem, Int.cast_ofNat_Int, Nat.reduceEqDiff, Nat.reduceAdd, Nat.reduceMul, Nat.reduceLeDiff, Nat.reduceLT, Int.reduceLT, Int.reduceLE, Int.reduceEq, Int.reduceNeg, Int.reduceToNat, Nat.reducePow, reduceIte, reduceCtorEq, i1, i8, i9, i10, hj, hj', cy])
      | ((with_reducible first | refine x_guard_no ?hy ?_ | refine x_cond_true ?hy ?_); case hy => rfl)
      | ((with_reducible first | refine x_guard_none ?hy ?_ | refine x_cond_false ?hy ?_); case hy => rfl)
      | ((with_reducible refine block_exit_ne ?hy ?_); case hy => decide))
    refine m_at (n := k) hM2.fo hx (List.mem_of_getElem? hyj) hxk ?_
    intro H3 hF3 hf3
    have hM3 := hM2.op hF3 hf3
    have cx3 := hM3.cell hxk
    have z1 : ((k : Int) != (k : Int)) = false := by simp
    have z2 : ((x : Int) != (x : Int)) = false := by simp
    repeat' (first
      | (with_reducible first | refine seq_normal ?_ | (refine hK _ _ ?_; clear hK K) | refine x_seq (fun K hK => ?_) | refine x_nil ?_ | refine x_block ?_ | refine x_skip ?_ | refine x_exit ?_ | refine x_ret ?_ | refine x_label ?_ | refine x_scope ?_ | (refine seq_ret ?_; clear hK K) | (refine seq_exit ?_; clear hK K) | refine block_normal ?_ | refine block_ret ?_ | refine block_exit ?_ | refine loop_exit ?_ | refine loop_ret ?_)
      | ((with_reducible refine x_reg_lit ?hq ?_); case hq => rfl)
      | ((first | (with_reducible first | refine x_op (fun K hK => ?_) | refine end_ret ?_ | refine end_normal ?_) | ((with_reducible refine x_guard_yes ?hy (fun K hK => ?_)); case hy => rfl)); simp only [go_sem, Int.cast_ofNat_Int, Nat.reduceEqDiff, Nat.reduceAdd, Nat.reduceMul, Nat.reduceLeDiff, Nat.reduceLT, Int.reduceLT, Int.reduceLE, Int.reduceEq, Int.reduceNeg, Int.reduceToNat, Nat.reducePow, reduceIte, reduceCtorEq, i1, i8, i9, i10, hk, hk', cx3, z1, z2, ew])
      | ((with_reducible first | refine x_guard_no ?hy ?_ | refine x_cond_true ?hy ?_); case hy => rfl)
      | ((with_reducible first | refine x_guard_none ?hy ?_ | refine x_cond_false ?hy ?_); case hy => rfl)
      | ((with_reducible refine block_exit_ne ?hy ?_); case hy => decide))
    exact loop_normal (m' := 30 - (i + 1)) (by omega) ⟨i + 1, rfl, hM3, by omega, by omega, rfl⟩
  · have hor : ¬ i < len ∨ (i < len ∧ ¬ i < 30) := by
      by_cases h : i < len
      · exact .inr ⟨h, fun h2 => hgo ⟨h, h2⟩⟩
      · exact .inl h
    rcases hor with h | ⟨h, h2⟩
    case' inl =>
      have t1 : (i < len) = False := by simp [h]
      repeat' (first
        | (with_reducible first | refine seq_normal ?_ | (refine hK _ _ ?_; clear hK K) | refine x_seq (fun K hK => ?_) | refine x_nil ?_ | refine x_block ?_ | refine x_skip ?_ | refine x_exit ?_ | refine x_ret ?_ | refine x_label ?_ | refine x_scope ?_ | (refine seq_ret ?_; clear hK K) | (refine seq_exit ?_; clear hK K) | refine block_normal ?_ | refine block_ret ?_ | refine block_exit ?_ | refine loop_exit ?_ | refine loop_ret ?_)
        | ((with_reducible refine x_reg_lit ?hq ?_); case hq => rfl)
        | ((first | (with_reducible first | refine x_op (fun K hK => ?_) | refine end_ret ?_ | refine end_normal ?_) | ((with_reducible refine x_guard_yes ?hy (fun K hK => ?_)); case hy => rfl)); simp only [go_sem, Int.cast_ofNat_Int, Nat.reduceEqDiff, Nat.reduceAdd, Nat.reduceMul, Nat.reduceLeDiff, Nat.reduceLT, Int.reduceLT, Int.reduceLE, Int.reduceEq, Int.reduceNeg, Int.reduceToNat, Nat.reducePow, reduceIte, reduceCtorEq, i1, i10, t1])
        | ((with_reducible first | refine x_guard_no ?hy ?_ | refine x_cond_true ?hy ?_); case hy => rfl)
        | ((with_reducible first | refine x_guard_none ?hy ?_ | refine x_cond_false ?hy ?_); case hy => rfl)
        | ((with_reducible refine block_exit_ne ?hy ?_); case hy => decide))
    case' inr =>
      have t1 : (i < len) = True := by simp [h]
      have t2 : ((i : Int) < 30) = False := by simp; omega
      repeat' (first
        | (with_reducible first | refine seq_normal ?_ | (refine hK _ _ ?_; clear hK K) | refine x_seq (fun K hK => ?_) | refine x_nil ?_ | refine x_block ?_ | refine x_skip ?_ | refine x_exit ?_ | refine x_ret ?_ | refine x_label ?_ | refine x_scope ?_ | (refine seq_ret ?_; clear hK K) | (refine seq_exit ?_; clear hK K) | refine block_normal ?_ | refine block_ret ?_ | refine block_exit ?_ | refine loop_exit ?_ | refine loop_ret ?_)
        | ((with_reducible refine x_reg_lit ?hq ?_); case hq => rfl)
        | ((first | (with_reducible first | refine x_op (fun K hK => ?_) | refine end_ret ?_ | refine end_normal ?_) | ((with_reducible refine x_guard_yes ?hy (fun K hK => ?_)); case hy => rfl)); simp only [go_sem, Int.cast_ofNat_Int, Nat.reduceEqDiff, Nat.reduceAdd, Nat.reduceMul, Nat.reduceLeDiff, Nat.reduceLT, Int.reduceLT, Int.reduceLE, Int.reduceEq, Int.reduceNeg, Int.reduceToNat, Nat.reducePow, reduceIte, reduceCtorEq, i1, i10, t1, t2])
        | ((with_reducible first | refine x_guard_no ?hy ?_ | refine x_cond_true ?hy ?_); case hy => rfl)
        | ((with_reducible first | refine x_guard_none ?hy ?_ | refine x_cond_false ?hy ?_); case hy => rfl)
        | ((with_reducible refine block_exit_ne ?hy ?_); case hy => decide))
    all_goals exact hQ _ _ i8 i9 hM1
end
theorem opX_make {P : Program} {o : Oper} {ρ : Operand → Value} {H : Heap} {K : Value → Heap → Prop} {t e : TypeId} {l c : Operand} {n : Nat} {te : TL} {k1 k2 : IntKind} {ln cn : Int} (ho : o.op = .makeSlice t l c) (he : elems P t = some (none, e, n)) (ht : tl P e = some te) (hl : ρ l = .int k1 ln) (hc : ρ c = .int k2 cn)
    (h0 : 0 ≤ ln) (h1 : ln ≤ cn) (hb : 0 < te.bytes) (hs : cn.toNat * te.bytes ≤ 281474976710656) (hk : K (.slice (some ⟨H.size, 0, none⟩) ln.toNat cn.toNat) (H.push (.cells (repL cn.toNat te.zero.cells.toList).toArray e))) : opX P o ρ H K := by
  unfold opX
  rw [ho]
  simp only [isRdOp, he, ht, hl, hc, intX]
  exact ⟨h0, h1, hb, hs, hk⟩
theorem splayLong {H : Heap} {a0 a1 : Option Addr} {n0 c0 n1 c1 : Nat} {z0 z1 : Nat → Int} {K : Value → Heap → Prop} (h0 : InInts H a0 n0 z0) (l0 : n0 ≤ 9223372036854775807) (h1 : InInts H a1 n1 z1) (l1 : n1 ≤ 9223372036854775807)
    (fin : ∀ H', Fr (fun _ => False) H H' → K (.bool true) H') :
    CallsH Try.prog 4 #[.slice a0 n0 c0, .slice a1 n1 c1] H K := by
  have hll : (longL 1024).length = 1024 := by simp [longL]
  refine call4 (by simp) ?_
  simp only [Try.f4, Option.getD_some]
  repeat' (first
    | (with_reducible first | refine seq_normal ?_ | (refine hK _ _ ?_; clear hK K) | refine x_seq (fun K hK => ?_) | refine x_nil ?_ | refine x_block ?_ | refine x_skip ?_ | refine x_exit ?_ | refine x_ret ?_ | refine x_label ?_ | refine x_scope ?_ | (refine seq_ret ?_; clear hK K) | (refine seq_exit ?_; clear hK K) | refine block_normal ?_ | refine block_ret ?_ | refine block_exit ?_ | refine loop_exit ?_ | refine loop_ret ?_)
    | ((with_reducible refine x_reg_lit ?hq ?_); case hq => rfl)
    | ((first | (with_reducible first | refine x_op (fun K hK => ?_) | refine end_ret ?_ | refine end_normal ?_) | ((with_reducible refine x_guard_yes ?hy (fun K hK => ?_)); case hy => rfl)); simp only [go_sem, Int.cast_ofNat_Int, Nat.reduceEqDiff, Nat.reduceAdd, Nat.reduceMul, Nat.reduceLeDiff, Nat.reduceLT, Int.reduceLT, Int.reduceLE, Int.reduceEq, Int.reduceNeg, Int.reduceToNat, Nat.reducePow, reduceIte, reduceCtorEq])
    | ((with_reducible first | refine x_guard_no ?hy ?_ | refine x_cond_true ?hy ?_); case hy => rfl)
    | ((with_reducible first | refine x_guard_none ?hy ?_ | refine x_cond_false ?hy ?_); case hy => rfl)
    | ((with_reducible refine block_exit_ne ?hy ?_); case hy => decide))
  refine awake_ok ?_
  intro H1 hf1
  iterate 6 (first
    | (with_reducible first | refine seq_normal ?_ | (refine hK _ _ ?_; clear hK K) | refine x_seq (fun K hK => ?_) | refine x_nil ?_ | refine x_block ?_ | refine x_skip ?_ | refine x_exit ?_ | refine x_ret ?_ | refine x_label ?_ | refine x_scope ?_ | (refine seq_ret ?_; clear hK K) | (refine seq_exit ?_; clear hK K) | refine block_normal ?_ | refine block_ret ?_ | refine block_exit ?_ | refine loop_exit ?_ | refine loop_ret ?_)
    | ((with_reducible refine x_reg_lit ?hq ?_); case hq => rfl)
    | ((first | (with_reducible first | refine x_op (fun K hK => ?_) | refine end_ret ?_ | refine end_normal ?_) | ((with_reducible refine x_guard_yes ?hy (fun K hK => ?_)); case hy => rfl)); simp only [go_sem, Int.cast_ofNat_Int, Nat.reduceEqDiff, Nat.reduceAdd, Nat.reduceMul, Nat.reduceLeDiff, Nat.reduceLT, Int.reduceLT, Int.reduceLE, Int.reduceEq, Int.reduceNeg, Int.reduceToNat, Nat.reducePow, reduceIte, reduceCtorEq])
    | ((with_reducible first | refine x_guard_no ?hy ?_ | refine x_cond_true ?hy ?_); case hy => rfl)
    | ((with_reducible first | refine x_guard_none ?hy ?_ | refine x_cond_false ?hy ?_); case hy => rfl)
    | ((with_reducible refine block_exit_ne ?hy ?_); case hy => decide))
  refine x_seq (fun K hK => ?_)
  refine x_reg_lit ?hq ?_
  case hq => rfl
  refine x_op (fun K hK => ?_)
  refine opX_make rfl elems22 tl31 rfl rfl (by decide) (by decide) (by decide) (by decide) ?_
  show K (.slice (some ⟨H1.size, 0, none⟩) 1024 1024) (H1.push (.cells (repL 1024 [.int .i64 0, .bool false, .int .i64 0]).toArray 31))
  have ho := its_new H1 1024 31
  generalize hH2 : H1.push _ = H2 at ho ⊢
  have hf2 : Fr (fun _ => False) H1 H2 := by rw [← hH2]; exact (Fr.refl _ _).push _
  clear hH2
  have hs1 := hf1.size
  repeat' (first
    | (with_reducible first | refine seq_normal ?_ | (refine hK _ _ ?_; clear hK K) | refine x_seq (fun K hK => ?_) | refine x_nil ?_ | refine x_block ?_ | refine x_skip ?_ | refine x_exit ?_ | refine x_ret ?_ | refine x_label ?_ | refine x_scope ?_ | (refine seq_ret ?_; clear hK K) | (refine seq_exit ?_; clear hK K) | refine block_normal ?_ | refine block_ret ?_ | refine block_exit ?_ | refine loop_exit ?_ | refine loop_ret ?_)
    | ((with_reducible refine x_reg_lit ?hq ?_); case hq => rfl)
    | ((first | (with_reducible first | refine x_op (fun K hK => ?_) | refine end_ret ?_ | refine end_normal ?_) | ((with_reducible refine x_guard_yes ?hy (fun K hK => ?_)); case hy => rfl)); simp only [go_sem, Int.cast_ofNat_Int, Nat.reduceEqDiff, Nat.reduceAdd, Nat.reduceMul, Nat.reduceLeDiff, Nat.reduceLT, Int.reduceLT, Int.reduceLE, Int.reduceEq, Int.reduceNeg, Int.reduceToNat, Nat.reducePow, reduceIte, reduceCtorEq])
    | ((with_reducible first | refine x_guard_no ?hy ?_ | refine x_cond_true ?hy ?_); case hy => rfl)
    | ((with_reducible first | refine x_guard_none ?hy ?_ | refine x_cond_false ?hy ?_); case hy => rfl)
    | ((with_reducible refine block_exit_ne ?hy ?_); case hy => decide))
  refine longA (H0 := H) ho (hf1.trans hf2) hs1 rfl rfl ?_
  intro e3 H3 k0 k1 k5 k6 ho3 hf3
  have k0' : e3 0 = .slice a0 n0 c0 := k0
  have k6' : e3 6 = .slice (some ⟨H1.size, 0, none⟩) 1024 1024 := k6
  have k5' : e3 5 = .bool true := k5
  have k1' : e3 1 = .slice a1 n1 c1 := k1
  repeat' (first
    | (with_reducible first | refine seq_normal ?_ | (refine hK _ _ ?_; clear hK K) | refine x_seq (fun K hK => ?_) | refine x_nil ?_ | refine x_block ?_ | refine x_skip ?_ | refine x_exit ?_ | refine x_ret ?_ | refine x_label ?_ | refine x_scope ?_ | (refine seq_ret ?_; clear hK K) | (refine seq_exit ?_; clear hK K) | refine block_normal ?_ | refine block_ret ?_ | refine block_exit ?_ | refine loop_exit ?_ | refine loop_ret ?_)
    | ((with_reducible refine x_reg_lit ?hq ?_); case hq => rfl)
    | ((first | (with_reducible first | refine x_op (fun K hK => ?_) | refine end_ret ?_ | refine end_normal ?_) | ((with_reducible refine x_guard_yes ?hy (fun K hK => ?_)); case hy => rfl)); simp only [go_sem, Int.cast_ofNat_Int, Nat.reduceEqDiff, Nat.reduceAdd, Nat.reduceMul, Nat.reduceLeDiff, Nat.reduceLT, Int.reduceLT, Int.reduceLE, Int.reduceEq, Int.reduceNeg, Int.reduceToNat, Nat.reducePow, reduceIte, reduceCtorEq, k0', k6'])
    | ((with_reducible first | refine x_guard_no ?hy ?_ | refine x_cond_true ?hy ?_); case hy => rfl)
    | ((with_reducible first | refine x_guard_none ?hy ?_ | refine x_cond_false ?hy ?_); case hy => rfl)
    | ((with_reducible refine block_exit_ne ?hy ?_); case hy => decide))
  refine row_ok (h0.frame hf3) l0 ho3 longL_may (by omega) (by omega) ?_
  intro H4 f T S B v all hM hr hall hfree htop hroom hperm
  have hM := hM.base hf3
  rw [hll] at hall
  have hne : all ≠ [] := fun h => by rw [h] at hall; simp at hall
  obtain ⟨g, c, rfl, rfl, hc⟩ := hM.open hne
  rw [hall] at hM hc ⊢
  have hagg : aggOf S.it all = ⟨1024, 523776, 0, 1023, 0⟩ := by rw [← longL_agg]; exact aggL_perm hperm
  have z1 : (((1024 : Nat) : Int) != 1024) = false := rfl
  repeat' (first
    | (with_reducible first | refine seq_normal ?_ | (refine hK _ _ ?_; clear hK K) | refine x_seq (fun K hK => ?_) | refine x_nil ?_ | refine x_block ?_ | refine x_skip ?_ | refine x_exit ?_ | refine x_ret ?_ | refine x_label ?_ | refine x_scope ?_ | (refine seq_ret ?_; clear hK K) | (refine seq_exit ?_; clear hK K) | refine block_normal ?_ | refine block_ret ?_ | refine block_exit ?_ | refine loop_exit ?_ | refine loop_ret ?_)
    | ((with_reducible refine x_reg_lit ?hq ?_); case hq => rfl)
    | ((first | (with_reducible first | refine x_op (fun K hK => ?_) | refine end_ret ?_ | refine end_normal ?_) | ((with_reducible refine x_guard_yes ?hy (fun K hK => ?_)); case hy => rfl)); simp only [go_sem, Int.cast_ofNat_Int, Nat.reduceEqDiff, Nat.reduceAdd, Nat.reduceMul, Nat.reduceLeDiff, Nat.reduceLT, Int.reduceLT, Int.reduceLE, Int.reduceEq, Int.reduceNeg, Int.reduceToNat, Nat.reducePow, reduceIte, reduceCtorEq, k5', z1])
    | ((with_reducible first | refine x_guard_no ?hy ?_ | refine x_cond_true ?hy ?_); case hy => rfl)
    | ((with_reducible first | refine x_guard_none ?hy ?_ | refine x_cond_false ?hy ?_); case hy => rfl)
    | ((with_reducible refine block_exit_ne ?hy ?_); case hy => decide))
  refine longB h1 l1 hM hr hall (by exact k1') rfl rfl rfl ?_
  intro e5 H5 j8 j9 hM5
  have hx : all ∈ S.rows := by rw [hr]; exact .head _
  obtain ⟨w, hw⟩ : ∃ w, all[0]? = some w := ⟨_, List.getElem?_eq_getElem (by omega)⟩
  obtain ⟨y, hy⟩ : ∃ w, all[1]? = some w := ⟨_, List.getElem?_eq_getElem (by omega)⟩
  have cw := hM5.cell hw
  repeat' (first
    | (with_reducible first | refine seq_normal ?_ | (refine hK _ _ ?_; clear hK K) | refine x_seq (fun K hK => ?_) | refine x_nil ?_ | refine x_block ?_ | refine x_skip ?_ | refine x_exit ?_ | refine x_ret ?_ | refine x_label ?_ | refine x_scope ?_ | (refine seq_ret ?_; clear hK K) | (refine seq_exit ?_; clear hK K) | refine block_normal ?_ | refine block_ret ?_ | refine block_exit ?_ | refine loop_exit ?_ | refine loop_ret ?_)
    | ((with_reducible refine x_reg_lit ?hq ?_); case hq => rfl)
    | ((first | (with_reducible first | refine x_op (fun K hK => ?_) | refine end_ret ?_ | refine end_normal ?_) | ((with_reducible refine x_guard_yes ?hy (fun K hK => ?_)); case hy => rfl)); simp only [go_sem, Int.cast_ofNat_Int, Nat.reduceEqDiff, Nat.reduceAdd, Nat.reduceMul, Nat.reduceLeDiff, Nat.reduceLT, Int.reduceLT, Int.reduceLE, Int.reduceEq, Int.reduceNeg, Int.reduceToNat, Nat.reducePow, reduceIte, reduceCtorEq, j8, j9, cw])
    | ((with_reducible first | refine x_guard_no ?hy ?_ | refine x_cond_true ?hy ?_); case hy => rfl)
    | ((with_reducible first | refine x_guard_none ?hy ?_ | refine x_cond_false ?hy ?_); case hy => rfl)
    | ((with_reducible refine block_exit_ne ?hy ?_); case hy => decide))
  refine m_sum hM5.fo hx (List.mem_of_getElem? hw) ?_
  intro H6 hF6 hf6
  have hM6 := hM5.op hF6 hf6
  rw [hagg]
  repeat' (first
    | (with_reducible first | refine seq_normal ?_ | (refine hK _ _ ?_; clear hK K) | refine x_seq (fun K hK => ?_) | refine x_nil ?_ | refine x_block ?_ | refine x_skip ?_ | refine x_exit ?_ | refine x_ret ?_ | refine x_label ?_ | refine x_scope ?_ | (refine seq_ret ?_; clear hK K) | (refine seq_exit ?_; clear hK K) | refine block_normal ?_ | refine block_ret ?_ | refine block_exit ?_ | refine loop_exit ?_ | refine loop_ret ?_)
    | ((with_reducible refine x_reg_lit ?hq ?_); case hq => rfl)
    | ((first | (with_reducible first | refine x_op (fun K hK => ?_) | refine end_ret ?_ | refine end_normal ?_) | ((with_reducible refine x_guard_yes ?hy (fun K hK => ?_)); case hy => rfl)); simp only [go_sem, Int.cast_ofNat_Int, Nat.reduceEqDiff, Nat.reduceAdd, Nat.reduceMul, Nat.reduceLeDiff, Nat.reduceLT, Int.reduceLT, Int.reduceLE, Int.reduceEq, Int.reduceNeg, Int.reduceToNat, Nat.reducePow, reduceIte, reduceCtorEq, Agg.val, j8, j9, hcell_push, hcell_top, okW_push, okW_top, hcell_hset_ne, hcell_hset_off, hcell_hset_eq, okW_hset, hset_size, Array.size_push, Nat.lt_add_one, ne_add_one, add_one_ne, Nat.add_assoc, add_same, add_lt_same, Nat.reduceEqDiff, lt_add_k, add_k_ne, ne_add_k])
    | ((with_reducible first | refine x_guard_no ?hy ?_ | refine x_cond_true ?hy ?_); case hy => rfl)
    | ((with_reducible first | refine x_guard_none ?hy ?_ | refine x_cond_false ?hy ?_); case hy => rfl)
    | ((with_reducible refine block_exit_ne ?hy ?_); case hy => decide))
  generalize hH7 : hset _ _ _ = H7
  have hb7 : Blk H7 H6.size (aggCells ⟨1024, 523776, 0, 1023, 0⟩) := by rw [← hH7]; exact (agg_new H6 ⟨1024, 523776, 0, 1023, 0⟩ _).1
  have hf7 : Fr (fun _ => False) H6 H7 := by rw [← hH7]; exact (by ((repeat (first | refine Fr.set ?_ (by simp) _ | refine Fr.push ?_ _)); exact Fr.refl _ _))
  clear hH7
  have hM7 := hM6.grow hf7
  refine make_full (x := Sp.Item.zero) hM7.fo ⟨⟨by decide, by decide⟩, by decide, by decide⟩ ⟨by decide, by decide, by decide, by decide⟩ (by rw [hr, hroom]; simpa using hall) ?_
  intro H8 hf8
  have hM8 := hM7.grow hf8
  have hb8 := hb7.frame hf8 fun h => h
  have cy := hM8.cell hy
  repeat' (first
    | (with_reducible first | refine seq_normal ?_ | (refine hK _ _ ?_; clear hK K) | refine x_seq (fun K hK => ?_) | refine x_nil ?_ | refine x_block ?_ | refine x_skip ?_ | refine x_exit ?_ | refine x_ret ?_ | refine x_label ?_ | refine x_scope ?_ | (refine seq_ret ?_; clear hK K) | (refine seq_exit ?_; clear hK K) | refine block_normal ?_ | refine block_ret ?_ | refine block_exit ?_ | refine loop_exit ?_ | refine loop_ret ?_)
    | ((with_reducible refine x_reg_lit ?hq ?_); case hq => rfl)
    | ((first | (with_reducible first | refine x_op (fun K hK => ?_) | refine end_ret ?_ | refine end_normal ?_) | ((with_reducible refine x_guard_yes ?hy (fun K hK => ?_)); case hy => rfl)); simp only [go_sem, Int.cast_ofNat_Int, Nat.reduceEqDiff, Nat.reduceAdd, Nat.reduceMul, Nat.reduceLeDiff, Nat.reduceLT, Int.reduceLT, Int.reduceLE, Int.reduceEq, Int.reduceNeg, Int.reduceToNat, Nat.reducePow, reduceIte, reduceCtorEq, j8, j9, cy])
    | ((with_reducible first | refine x_guard_no ?hy ?_ | refine x_cond_true ?hy ?_); case hy => rfl)
    | ((with_reducible first | refine x_guard_none ?hy ?_ | refine x_cond_false ?hy ?_); case hy => rfl)
    | ((with_reducible refine block_exit_ne ?hy ?_); case hy => decide))
  refine free_busy hM8.fo hx (List.mem_of_getElem? hy) (by omega) ?_
  intro H9 hF9 hf9
  have hM9 := hM8.op hF9 hf9
  have hb9 := hb8.frame hf9 fun h => by have := hM6.fo.lt h; omega
  have b0 := hb9.cellOf (i := 0) rfl
  have b1 := hb9.cellOf (i := 1) rfl
  have b2 := hb9.cellOf (i := 2) rfl
  have b3 := hb9.cellOf (i := 3) rfl
  have b4 := hb9.cellOf (i := 4) rfl
  repeat' (first
    | (with_reducible first | refine seq_normal ?_ | (refine hK _ _ ?_; clear hK K) | refine x_seq (fun K hK => ?_) | refine x_nil ?_ | refine x_block ?_ | refine x_skip ?_ | refine x_exit ?_ | refine x_ret ?_ | refine x_label ?_ | refine x_scope ?_ | (refine seq_ret ?_; clear hK K) | (refine seq_exit ?_; clear hK K) | refine block_normal ?_ | refine block_ret ?_ | refine block_exit ?_ | refine loop_exit ?_ | refine loop_ret ?_)
    | ((with_reducible refine x_reg_lit ?hq ?_); case hq => rfl)
    | ((first | (with_reducible first | refine x_op (fun K hK => ?_) | refine end_ret ?_ | refine end_normal ?_) | ((with_reducible refine x_guard_yes ?hy (fun K hK => ?_)); case hy => rfl)); simp only [go_sem, Int.cast_ofNat_Int, Nat.reduceEqDiff, Nat.reduceAdd, Nat.reduceMul, Nat.reduceLeDiff, Nat.reduceLT, Int.reduceLT, Int.reduceLE, Int.reduceEq, Int.reduceNeg, Int.reduceToNat, Nat.reducePow, reduceIte, reduceCtorEq, b0, b1, b2, b3, b4])
    | ((with_reducible first | refine x_guard_no ?hy ?_ | refine x_cond_true ?hy ?_); case hy => rfl)
    | ((with_reducible first | refine x_guard_none ?hy ?_ | refine x_cond_false ?hy ?_); case hy => rfl)
    | ((with_reducible refine block_exit_ne ?hy ?_); case hy => decide))
  refine agg_eq (op := .eql) (a := ⟨1024, 523776, 0, 1023, 0⟩) (b := ⟨1024, 523776, 0, 1023, 0⟩) ?_
  simp only [decide_true]
  repeat' (first
    | (with_reducible first | refine seq_normal ?_ | (refine hK _ _ ?_; clear hK K) | refine x_seq (fun K hK => ?_) | refine x_nil ?_ | refine x_block ?_ | refine x_skip ?_ | refine x_exit ?_ | refine x_ret ?_ | refine x_label ?_ | refine x_scope ?_ | (refine seq_ret ?_; clear hK K) | (refine seq_exit ?_; clear hK K) | refine block_normal ?_ | refine block_ret ?_ | refine block_exit ?_ | refine loop_exit ?_ | refine loop_ret ?_)
    | ((with_reducible refine x_reg_lit ?hq ?_); case hq => rfl)
    | ((first | (with_reducible first | refine x_op (fun K hK => ?_) | refine end_ret ?_ | refine end_normal ?_) | ((with_reducible refine x_guard_yes ?hy (fun K hK => ?_)); case hy => rfl)); simp only [go_sem, Int.cast_ofNat_Int, Nat.reduceEqDiff, Nat.reduceAdd, Nat.reduceMul, Nat.reduceLeDiff, Nat.reduceLT, Int.reduceLT, Int.reduceLE, Int.reduceEq, Int.reduceNeg, Int.reduceToNat, Nat.reducePow, reduceIte, reduceCtorEq])
    | ((with_reducible first | refine x_guard_no ?hy ?_ | refine x_cond_true ?hy ?_); case hy => rfl)
    | ((with_reducible first | refine x_guard_none ?hy ?_ | refine x_cond_false ?hy ?_); case hy => rfl)
    | ((with_reducible refine block_exit_ne ?hy ?_); case hy => decide))
  exact fin _ hM9.fr
end Go.Proofs.Ytndkbhlfbeiniaa
