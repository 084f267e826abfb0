/-
  SplayTurns returns true, whatever it is given, and writes nothing that was there.
-/
import Derived.Test.YtndkbhlfbeiniaaSpLC
namespace Go.Proofs.Ytndkbhlfbeiniaa
open Go Go.Hp Go.Sp
set_option linter.all false
set_option maxRecDepth 100000
set_option maxHeartbeats 1600000

/-- A list made anew. -/
theorem RM.replace {H0 H H' : Heap} {f : Nat} {T : Nat → Prop} {S : Sq} {B B' : Option Nat} {v v' : Value} {all all' : List Nat} (h : RM H0 H f T S B v all) (hi : IR H' B' v' (all'.map Int.ofNat)) (hf : Fr (fun b => H.size ≤ b) H H') (hB : ∀ b, B' = some b → H.size ≤ b) : RM H0 H' f T S B' v' all' :=
  ⟨h.fo.frame hf fun b hb e => by have := h.fo.lt hb; omega, hi, h.fr.trans' hf (fun b hb e => by have := h.fr.size; omega), h.tb, fun b hb => ⟨Nat.le_trans h.fr.size (hB b hb), fun e => by have := h.fo.lt e; have := hB b hb; omega⟩⟩
theorem turnsLoop {H0 H : Heap} {e : Env} {Q : HX → Env → Heap → Prop} {f : Nat} {T : Nat → Prop} {S : Sq} {B : Option Nat} {v : Value} {all : List Nat} {a : Option Addr} {len cap : Nat} {zs : Nat → Int} (hin : InInts H0 a len zs) (hl : len ≤ 9223372036854775807)
    (hM : RM H0 H f T S B v all) (hr : S.rows = [all]) (hne : all ≠ []) (e2 : e 2 = .slice a len cap) (e9 : e 9 = .pointer (some ⟨f, 0, none⟩)) (e10 : e 10 = v) (e11 : e 11 = .int .i64 0)
    (hQ : ∀ e' H' S B v all, e' 9 = .pointer (some ⟨f, 0, none⟩) → e' 10 = v → RM H0 H' f T S B v all → S.rows = [all] → all ≠ [] → Q .normal e' H') :
    codeX Try.prog [14, 15] (loopAt Try.f6.body 0) (blockQ 0 Q) e H := by
  refine x_loop (fun m e' H' => ∃ (i : Nat) (S : Sq) (B : Option Nat) (v : Value) (all : List Nat), e' 10 = v ∧ e' 11 = .int .i64 (i : Nat) ∧ RM H0 H' f T S B v all ∧ S.rows = [all] ∧ all ≠ [] ∧ i ≤ 60 ∧ i ≤ len ∧ m = 60 - i) 60 ⟨0, S, B, v, all, e10, e11, hM, hr, hne, by omega, by omega, rfl⟩ ?_
  rintro m e1 H1 ⟨i, S, B, v, all, i10, i11, hM, hr, hne, hi60, hil, rfl⟩ hoff
  have i2 := (hoff 2 rfl).trans e2
  have i9 := (hoff 9 rfl).trans e9
  clear hoff e2 e9 e10 e11
  by_cases hgo : i < len ∧ i < 60
  · have t1 : (i < len) = True := by simp [hgo.1]
    have t2 : ((i : Int) < 60) = True := by simp; omega
    obtain ⟨g, c, rfl, rfl, hc⟩ := hM.open hne
    have hpos := List.length_pos_iff.2 hne
    have hx : all ∈ S.rows := by rw [hr]; exact .head _
    have hlen : all.length ≤ 4096 := by have := hM.fo.len; rw [hr] at this; simpa using this
    have hnd : all.Nodup := by have := hM.fo.nodup; rw [hr] at this; simpa using this
    obtain ⟨n, hn⟩ : ∃ n, n = all.length := ⟨_, rfl⟩
    rw [← hn] at hpos hlen hM hc
    rw [← hn] at i10
    obtain ⟨p, rfl, cz, hz1, hz2⟩ := (hin.frame hM.fr) i hgo.1
    obtain ⟨r0, r1⟩ := pickN_range (zs i) (n := (n : Int)) (by omega)
    obtain ⟨k, ek⟩ := Int.eq_ofNat_of_zero_le r0
    have hk : k < n := by omega
    obtain ⟨x, hxk⟩ : ∃ x, all[k]? = some x := ⟨_, List.getElem?_eq_getElem (by omega)⟩
    have cx := hM.cell hxk
    have ew : IntKind.i64.wrap ((i : Int) + 1) = ((i + 1 : Nat) : Int) := by rw [wrap_i64] <;> omega
    repeat' (first
      | (with_reducible first | refine seq_normal ?_ | (refine hK _ _ ?_; clear hK K) | refine x_seq (fun K hK => ?_) | refine x_nil ?_ | refine x_block ?_ | refine x_skip ?_ | refine x_exit ?_ | refine x_ret ?_ | refine x_label ?_ | refine x_scope ?_ | (refine seq_ret ?_; clear hK K) | (refine seq_exit ?_; clear hK K) | refine block_normal ?_ | refine block_ret ?_ | refine block_exit ?_ | refine loop_exit ?_ | refine loop_ret ?_)
      | ((with_reducible refine x_reg_lit ?hq ?_); case hq => rfl)
      | ((first | (with_reducible first | refine x_op (fun K hK => ?_) | refine end_ret ?_ | refine end_normal ?_) | ((with_reducible refine x_guard_yes ?hy (fun K hK => ?_)); case hy => rfl)); simp only [go_sem, Int.cast_ofNat_Int, Nat.reduceEqDiff, Nat.reduceAdd, Nat.reduceMul, Nat.reduceLeDiff, Nat.reduceLT, Int.reduceLT, Int.reduceLE, Int.reduceEq, Int.reduceNeg, Int.reduceToNat, Nat.reducePow, reduceIte, reduceCtorEq, i2, i9, i10, i11, t1, t2, cz])
      | ((with_reducible first | refine x_guard_no ?hy ?_ | refine x_cond_true ?hy ?_); case hy => rfl)
      | ((with_reducible first | refine x_guard_none ?hy ?_ | refine x_cond_false ?hy ?_); case hy => rfl)
      | ((with_reducible refine block_exit_ne ?hy ?_); case hy => decide))
    refine Pkisthmuslaw03.pick_ok hz1 hz2 (by omega) ?_
    rw [ek]
    repeat' (first
      | (with_reducible first | refine seq_normal ?_ | (refine hK _ _ ?_; clear hK K) | refine x_seq (fun K hK => ?_) | refine x_nil ?_ | refine x_block ?_ | refine x_skip ?_ | refine x_exit ?_ | refine x_ret ?_ | refine x_label ?_ | refine x_scope ?_ | (refine seq_ret ?_; clear hK K) | (refine seq_exit ?_; clear hK K) | refine block_normal ?_ | refine block_ret ?_ | refine block_exit ?_ | refine loop_exit ?_ | refine loop_ret ?_)
      | ((with_reducible refine x_reg_lit ?hq ?_); case hq => rfl)
      | ((first | (with_reducible first | refine x_op (fun K hK => ?_) | refine end_ret ?_ | refine end_normal ?_) | ((with_reducible refine x_guard_yes ?hy (fun K hK => ?_)); case hy => rfl)); simp only [go_sem, Int.cast_ofNat_Int, Nat.reduceEqDiff, Nat.reduceAdd, Nat.reduceMul, Nat.reduceLeDiff, Nat.reduceLT, Int.reduceLT, Int.reduceLE, Int.reduceEq, Int.reduceNeg, Int.reduceToNat, Nat.reducePow, reduceIte, reduceCtorEq, i2, i9, i10, i11, hk, cx])
      | ((with_reducible first | refine x_guard_no ?hy ?_ | refine x_cond_true ?hy ?_); case hy => rfl)
      | ((with_reducible first | refine x_guard_none ?hy ?_ | refine x_cond_false ?hy ?_); case hy => rfl)
      | ((with_reducible refine block_exit_ne ?hy ?_); case hy => decide))
    by_cases hk0 : k = 0
    · subst hk0
      have eall : all = x :: all.drop 1 := split_at' hxk
      refine m_split_first (k := x) (r := all.drop 1) hM.fo (by rw [← eall]; exact hx) ?_
      intro H2 hF2 hf2
      have hM2 := hM.op hF2 hf2
      have z1 : (((0 : Nat) : Int) == 0) = true := rfl
      repeat' (first
        | (with_reducible first | refine seq_normal ?_ | (refine hK _ _ ?_; clear hK K) | refine x_seq (fun K hK => ?_) | refine x_nil ?_ | refine x_block ?_ | refine x_skip ?_ | refine x_exit ?_ | refine x_ret ?_ | refine x_label ?_ | refine x_scope ?_ | (refine seq_ret ?_; clear hK K) | (refine seq_exit ?_; clear hK K) | refine block_normal ?_ | refine block_ret ?_ | refine block_exit ?_ | refine loop_exit ?_ | refine loop_ret ?_)
        | ((with_reducible refine x_reg_lit ?hq ?_); case hq => rfl)
        | ((first | (with_reducible first | refine x_op (fun K hK => ?_) | refine end_ret ?_ | refine end_normal ?_) | ((with_reducible refine x_guard_yes ?hy (fun K hK => ?_)); case hy => rfl)); simp only [go_sem, Int.cast_ofNat_Int, Nat.reduceEqDiff, Nat.reduceAdd, Nat.reduceMul, Nat.reduceLeDiff, Nat.reduceLT, Int.reduceLT, Int.reduceLE, Int.reduceEq, Int.reduceNeg, Int.reduceToNat, Nat.reducePow, reduceIte, reduceCtorEq, i2, i9, i10, i11, z1, ew])
        | ((with_reducible first | refine x_guard_no ?hy ?_ | refine x_cond_true ?hy ?_); case hy => rfl)
        | ((with_reducible first | refine x_guard_none ?hy ?_ | refine x_cond_false ?hy ?_); case hy => rfl)
        | ((with_reducible refine block_exit_ne ?hy ?_); case hy => decide))
      exact loop_normal (m' := 60 - (i + 1)) (by omega) ⟨i + 1, S, _, _, all, i10, rfl, hM2, hr, hne, by omega, by omega, rfl⟩
    · have hsp := split_at' hxk
      have htne : all.take k ≠ [] := by
        intro h
        have := congrArg List.length h
        rw [List.length_take, List.length_nil] at this
        omega
      refine m_split (k := x) (l := all.take k) (r := all.drop (k + 1)) (R := []) hM.fo (by rw [hr, ← hsp]) htne ?_
      intro H2 hF2 hf2
      have hM2 := hM.op hF2 hf2
      have z1 : ((k : Int) == 0) = false := by simp [hk0]
      have ewk : IntKind.i64.wrap ((k : Int) - 1) = ((k - 1 : Nat) : Int) := by rw [wrap_i64] <;> omega
      have ewn : IntKind.i64.wrap ((n : Int) - 1) = ((n - 1 : Nat) : Int) := by rw [wrap_i64] <;> omega
      have hk1 : k - 1 < n := by omega
      have hn1 : n - 1 < n := by omega
      obtain ⟨y, hy⟩ : ∃ y, all[k - 1]? = some y := ⟨_, List.getElem?_eq_getElem (by omega)⟩
      obtain ⟨z, hz⟩ : ∃ z, all[n - 1]? = some z := ⟨_, List.getElem?_eq_getElem (by omega)⟩
      obtain ⟨w, hw⟩ : ∃ w, all[0]? = some w := ⟨_, List.getElem?_eq_getElem (by omega)⟩
      have cy := hM2.cell hy
      have cx2 := hM2.cell hxk
      have hytake : y ∈ all.take k := List.mem_of_getElem? (i := k - 1) (by rw [List.getElem?_take_of_lt (by omega)]; exact hy)
      have hwtake : w ∈ all.take k := List.mem_of_getElem? (i := 0) (by rw [List.getElem?_take_of_lt (by omega)]; exact hw)
      have hdrop : all.drop k = x :: all.drop (k + 1) := by
        have hlt := (List.getElem?_eq_some_iff.1 hxk).1
        have e := (List.getElem?_eq_some_iff.1 hxk).2
        rw [List.drop_eq_getElem_cons hlt, e]
      have hzdrop : z ∈ x :: all.drop (k + 1) := by
        rw [← hdrop]
        exact List.mem_of_getElem? (i := n - 1 - k) (by rw [List.getElem?_drop, show k + (n - 1 - k) = n - 1 by omega]; exact hz)
      have hnxt : x ∉ all.take k := by
        rw [hsp, List.nodup_append] at hnd
        exact fun h => hnd.2.2 x h x (.head _) rfl
      repeat' (first
        | (with_reducible first | refine seq_normal ?_ | (refine hK _ _ ?_; clear hK K) | refine x_seq (fun K hK => ?_) | refine x_nil ?_ | refine x_block ?_ | refine x_skip ?_ | refine x_exit ?_ | refine x_ret ?_ | refine x_label ?_ | refine x_scope ?_ | (refine seq_ret ?_; clear hK K) | (refine seq_exit ?_; clear hK K) | refine block_normal ?_ | refine block_ret ?_ | refine block_exit ?_ | refine loop_exit ?_ | refine loop_ret ?_)
        | ((with_reducible refine x_reg_lit ?hq ?_); case hq => rfl)
        | ((first | (with_reducible first | refine x_op (fun K hK => ?_) | refine end_ret ?_ | refine end_normal ?_) | ((with_reducible refine x_guard_yes ?hy (fun K hK => ?_)); case hy => rfl)); simp only [go_sem, Int.cast_ofNat_Int, Nat.reduceEqDiff, Nat.reduceAdd, Nat.reduceMul, Nat.reduceLeDiff, Nat.reduceLT, Int.reduceLT, Int.reduceLE, Int.reduceEq, Int.reduceNeg, Int.reduceToNat, Nat.reducePow, reduceIte, reduceCtorEq, i2, i9, i10, i11, z1, ewk, hk1, hk, cy, cx2])
        | ((with_reducible first | refine x_guard_no ?hy ?_ | refine x_cond_true ?hy ?_); case hy => rfl)
        | ((with_reducible first | refine x_guard_none ?hy ?_ | refine x_cond_false ?hy ?_); case hy => rfl)
        | ((with_reducible refine block_exit_ne ?hy ?_); case hy => decide))
      refine m_same (xs := all.take k) (ys := x :: all.drop (k + 1)) hM2.fo (by simp) hytake (by simp) (.head _) ?_
      intro H3 b hF3 hf3 hb
      have hb0 : b = false := by
        cases b with
        | false => rfl
        | true =>
          have := hb.1 rfl
          exact absurd (by rw [← this]; exact .head _) hnxt
      subst hb0
      have hM3 := hM2.op hF3 hf3
      have cz3 := hM3.cell hz
      have cw3 := hM3.cell hw
      have t5 : (0 < n) = True := by simp; omega
      have t6 : ((0 : Int) < (n : Int)) = True := by simp; omega
      repeat' (first
        | (with_reducible first | refine seq_normal ?_ | (refine hK _ _ ?_; clear hK K) | refine x_seq (fun K hK => ?_) | refine x_nil ?_ | refine x_block ?_ | refine x_skip ?_ | refine x_exit ?_ | refine x_ret ?_ | refine x_label ?_ | refine x_scope ?_ | (refine seq_ret ?_; clear hK K) | (refine seq_exit ?_; clear hK K) | refine block_normal ?_ | refine block_ret ?_ | refine block_exit ?_ | refine loop_exit ?_ | refine loop_ret ?_)
        | ((with_reducible refine x_reg_lit ?hq ?_); case hq => rfl)
        | ((first | (with_reducible first | refine x_op (fun K hK => ?_) | refine end_ret ?_ | refine end_normal ?_) | ((with_reducible refine x_guard_yes ?hy (fun K hK => ?_)); case hy => rfl)); simp only [go_sem, Int.cast_ofNat_Int, Nat.reduceEqDiff, Nat.reduceAdd, Nat.reduceMul, Nat.reduceLeDiff, Nat.reduceLT, Int.reduceLT, Int.reduceLE, Int.reduceEq, Int.reduceNeg, Int.reduceToNat, Nat.reducePow, reduceIte, reduceCtorEq, i2, i9, i10, i11, ewn, hn1, cz3, cw3, t5, t6])
        | ((with_reducible first | refine x_guard_no ?hy ?_ | refine x_cond_true ?hy ?_); case hy => rfl)
        | ((with_reducible first | refine x_guard_none ?hy ?_ | refine x_cond_false ?hy ?_); case hy => rfl)
        | ((with_reducible refine block_exit_ne ?hy ?_); case hy => decide))
      refine m_join (k := z) (j := w) (xs := x :: all.drop (k + 1)) (ys := all.take k) (R := []) hM3.fo (List.Perm.swap _ _ _) hzdrop hwtake ?_
      intro H4 hF4 hf4
      have hM4 := hM3.op hF4 hf4
      have t7 : (k ≤ n) = True := by simp; omega
      have t8 : (n ≤ c) = True := by simp; omega
      have t9 : (c = k) = False := by simp; omega
      have t10 : (k ≤ c) = True := by simp; omega
      have rl1 := hM4.ir.readL (o := k) (m := n - k) (by simp; omega)
      repeat' (first
        | (with_reducible first | refine seq_normal ?_ | (refine hK _ _ ?_; clear hK K) | refine x_seq (fun K hK => ?_) | refine x_nil ?_ | refine x_block ?_ | refine x_skip ?_ | refine x_exit ?_ | refine x_ret ?_ | refine x_label ?_ | refine x_scope ?_ | (refine seq_ret ?_; clear hK K) | (refine seq_exit ?_; clear hK K) | refine block_normal ?_ | refine block_ret ?_ | refine block_exit ?_ | refine loop_exit ?_ | refine loop_ret ?_)
        | ((with_reducible refine x_reg_lit ?hq ?_); case hq => rfl)
        | ((first | (with_reducible first | refine x_op (fun K hK => ?_) | refine end_ret ?_ | refine end_normal ?_) | ((with_reducible refine x_guard_yes ?hy (fun K hK => ?_)); case hy => rfl)); simp only [go_sem, Int.cast_ofNat_Int, Nat.reduceEqDiff, Nat.reduceAdd, Nat.reduceMul, Nat.reduceLeDiff, Nat.reduceLT, Int.reduceLT, Int.reduceLE, Int.reduceEq, Int.reduceNeg, Int.reduceToNat, Nat.reducePow, reduceIte, reduceCtorEq, i2, i9, i10, i11, t7, t8, t9])
        | ((with_reducible first | refine x_guard_no ?hy ?_ | refine x_cond_true ?hy ?_); case hy => rfl)
        | ((with_reducible first | refine x_guard_none ?hy ?_ | refine x_cond_false ?hy ?_); case hy => rfl)
        | ((with_reducible refine block_exit_ne ?hy ?_); case hy => decide))
      refine append_irs elems23 tl3 (IR.nil H4) (ys := (all.drop k).map Int.ofNat) (by rw [rl1, ← List.map_drop, List.take_of_length_le (by simp; omega)]) (by simp; omega) (by decide) (by simp; omega) rfl ?_
      intro v5 H5 B5 hi5 hf5 hB5
      have hM5 := hM4.grow (hf5.mono fun b _ h => by cases h)
      have rl2 := hM5.ir.readL (o := 0) (m := k) (by simp; omega)
      repeat' (first
        | (with_reducible first | refine seq_normal ?_ | (refine hK _ _ ?_; clear hK K) | refine x_seq (fun K hK => ?_) | refine x_nil ?_ | refine x_block ?_ | refine x_skip ?_ | refine x_exit ?_ | refine x_ret ?_ | refine x_label ?_ | refine x_scope ?_ | (refine seq_ret ?_; clear hK K) | (refine seq_exit ?_; clear hK K) | refine block_normal ?_ | refine block_ret ?_ | refine block_exit ?_ | refine loop_exit ?_ | refine loop_ret ?_)
        | ((with_reducible refine x_reg_lit ?hq ?_); case hq => rfl)
        | ((first | (with_reducible first | refine x_op (fun K hK => ?_) | refine end_ret ?_ | refine end_normal ?_) | ((with_reducible refine x_guard_yes ?hy (fun K hK => ?_)); case hy => rfl)); simp only [go_sem, Int.cast_ofNat_Int, Nat.reduceEqDiff, Nat.reduceAdd, Nat.reduceMul, Nat.reduceLeDiff, Nat.reduceLT, Int.reduceLT, Int.reduceLE, Int.reduceEq, Int.reduceNeg, Int.reduceToNat, Nat.reducePow, reduceIte, reduceCtorEq, i2, i9, i10, i11, t10, ite_self, Nat.sub_zero])
        | ((with_reducible first | refine x_guard_no ?hy ?_ | refine x_cond_true ?hy ?_); case hy => rfl)
        | ((with_reducible first | refine x_guard_none ?hy ?_ | refine x_cond_false ?hy ?_); case hy => rfl)
        | ((with_reducible refine block_exit_ne ?hy ?_); case hy => decide))
      refine append_irs elems23 tl3 hi5 (ys := (all.take k).map Int.ofNat) (by rw [rl2, List.drop_zero]; simp only [List.map_take]) (by simp; omega) (by decide) (by simp; omega) rfl ?_
      intro v6 H6 B6 hi6 hf6 hB6
      have hge5 : ∀ b, B5 = some b → H4.size ≤ b := fun b hb => by
        rcases hB5 with h | ⟨g', h1, h2⟩
        · rw [h] at hb; cases hb
        · rw [h1] at hb
          obtain rfl := Option.some.inj hb
          exact h2
      have hs5 := hf5.size
      have hM6 : RM H0 H6 f T _ B6 v6 (all.drop k ++ all.take k) := hM4.replace (by simpa using hi6) ((hf5.mono fun b _ h => by cases h).trans (hf6.mono fun b _ h => hge5 b h)) fun b hb => by
        rcases hB6 with h | ⟨g', h1, h2⟩
        · exact hge5 b (h ▸ hb)
        · rw [h1] at hb
          obtain rfl := Option.some.inj hb
          omega
      repeat' (first
        | (with_reducible first | refine seq_normal ?_ | (refine hK _ _ ?_; clear hK K) | refine x_seq (fun K hK => ?_) | refine x_nil ?_ | refine x_block ?_ | refine x_skip ?_ | refine x_exit ?_ | refine x_ret ?_ | refine x_label ?_ | refine x_scope ?_ | (refine seq_ret ?_; clear hK K) | (refine seq_exit ?_; clear hK K) | refine block_normal ?_ | refine block_ret ?_ | refine block_exit ?_ | refine loop_exit ?_ | refine loop_ret ?_)
        | ((with_reducible refine x_reg_lit ?hq ?_); case hq => rfl)
        | ((first | (with_reducible first | refine x_op (fun K hK => ?_) | refine end_ret ?_ | refine end_normal ?_) | ((with_reducible refine x_guard_yes ?hy (fun K hK => ?_)); case hy => rfl)); simp only [go_sem, Int.cast_ofNat_Int, Nat.reduceEqDiff, Nat.reduceAdd, Nat.reduceMul, Nat.reduceLeDiff, Nat.reduceLT, Int.reduceLT, Int.reduceLE, Int.reduceEq, Int.reduceNeg, Int.reduceToNat, Nat.reducePow, reduceIte, reduceCtorEq, i11, ew])
        | ((with_reducible first | refine x_guard_no ?hy ?_ | refine x_cond_true ?hy ?_); case hy => rfl)
        | ((with_reducible first | refine x_guard_none ?hy ?_ | refine x_cond_false ?hy ?_); case hy => rfl)
        | ((with_reducible refine block_exit_ne ?hy ?_); case hy => decide))
      refine loop_normal (m' := 60 - (i + 1)) (by omega) ⟨i + 1, _, B6, v6, all.drop k ++ all.take k, rfl, rfl, hM6, by simp [hdrop], ?_, by omega, by omega, rfl⟩
      rw [hdrop]; simp
  · have hor : ¬ i < len ∨ (i < len ∧ ¬ i < 60) := by
      by_cases h : i < len
      · exact .inr ⟨h, fun h2 => hgo ⟨h, h2⟩⟩
      · exact .inl h
    rcases hor with h | ⟨h, h2⟩
    case' inl =>
      have t1 : (i < len) = False := by simp [h]
      repeat' (first
        | (with_reducible first | refine seq_normal ?_ | (refine hK _ _ ?_; clear hK K) | refine x_seq (fun K hK => ?_) | refine x_nil ?_ | refine x_block ?_ | refine x_skip ?_ | refine x_exit ?_ | refine x_ret ?_ | refine x_label ?_ | refine x_scope ?_ | (refine seq_ret ?_; clear hK K) | (refine seq_exit ?_; clear hK K) | refine block_normal ?_ | refine block_ret ?_ | refine block_exit ?_ | refine loop_exit ?_ | refine loop_ret ?_)
        | ((with_reducible refine x_reg_lit ?hq ?_); case hq => rfl)
        | ((first | (with_reducible first | refine x_op (fun K hK => ?_) | refine end_ret ?_ | refine end_normal ?_) | ((with_reducible refine x_guard_yes ?hy (fun K hK => ?_)); case hy => rfl)); simp only [go_sem, Int.cast_ofNat_Int, Nat.reduceEqDiff, Nat.reduceAdd, Nat.reduceMul, Nat.reduceLeDiff, Nat.reduceLT, Int.reduceLT, Int.reduceLE, Int.reduceEq, Int.reduceNeg, Int.reduceToNat, Nat.reducePow, reduceIte, reduceCtorEq, i2, i11, t1])
        | ((with_reducible first | refine x_guard_no ?hy ?_ | refine x_cond_true ?hy ?_); case hy => rfl)
        | ((with_reducible first | refine x_guard_none ?hy ?_ | refine x_cond_false ?hy ?_); case hy => rfl)
        | ((with_reducible refine block_exit_ne ?hy ?_); case hy => decide))
    case' inr =>
      have t1 : (i < len) = True := by simp [h]
      have t2 : ((i : Int) < 60) = False := by simp; omega
      repeat' (first
        | (with_reducible first | refine seq_normal ?_ | (refine hK _ _ ?_; clear hK K) | refine x_seq (fun K hK => ?_) | refine x_nil ?_ | refine x_block ?_ | refine x_skip ?_ | refine x_exit ?_ | refine x_ret ?_ | refine x_label ?_ | refine x_scope ?_ | (refine seq_ret ?_; clear hK K) | (refine seq_exit ?_; clear hK K) | refine block_normal ?_ | refine block_ret ?_ | refine block_exit ?_ | refine loop_exit ?_ | refine loop_ret ?_)
        | ((with_reducible refine x_reg_lit ?hq ?_); case hq => rfl)
        | ((first | (with_reducible first | refine x_op (fun K hK => ?_) | refine end_ret ?_ | refine end_normal ?_) | ((with_reducible refine x_guard_yes ?hy (fun K hK => ?_)); case hy => rfl)); simp only [go_sem, Int.cast_ofNat_Int, Nat.reduceEqDiff, Nat.reduceAdd, Nat.reduceMul, Nat.reduceLeDiff, Nat.reduceLT, Int.reduceLT, Int.reduceLE, Int.reduceEq, Int.reduceNeg, Int.reduceToNat, Nat.reducePow, reduceIte, reduceCtorEq, i2, i11, t1, t2])
        | ((with_reducible first | refine x_guard_no ?hy ?_ | refine x_cond_true ?hy ?_); case hy => rfl)
        | ((with_reducible first | refine x_guard_none ?hy ?_ | refine x_cond_false ?hy ?_); case hy => rfl)
        | ((with_reducible refine block_exit_ne ?hy ?_); case hy => decide))
    all_goals exact hQ _ _ _ _ _ _ i9 i10 hM hr hne
theorem splayTurns {H : Heap} {a0 a1 a2 : Option Addr} {n0 c0 n1 c1 n2 c2 : Nat} {z0 : Nat → Sp.Item} {z1 z2 : Nat → Int} {K : Value → Heap → Prop} (h0 : InItems H a0 n0 z0) (l0 : n0 ≤ 9223372036854775807) (h1 : InInts H a1 n1 z1) (l1 : n1 ≤ 9223372036854775807)
    (h2 : InInts H a2 n2 z2) (l2 : n2 ≤ 9223372036854775807) (fin : ∀ H', Fr (fun _ => False) H H' → K (.bool true) H') :
    CallsH Try.prog 6 #[.slice a0 n0 c0, .slice a1 n1 c1, .slice a2 n2 c2] H K := by
  refine call6 (by simp) ?_
  simp only [Try.f6, Option.getD_some]
  repeat' (first
    | (with_reducible first | refine seq_normal ?_ | (refine hK _ _ ?_; clear hK K) | refine x_seq (fun K hK => ?_) | refine x_nil ?_ | refine x_block ?_ | refine x_skip ?_ | refine x_exit ?_ | refine x_ret ?_ | refine x_label ?_ | refine x_scope ?_ | (refine seq_ret ?_; clear hK K) | (refine seq_exit ?_; clear hK K) | refine block_normal ?_ | refine block_ret ?_ | refine block_exit ?_ | refine loop_exit ?_ | refine loop_ret ?_)
    | ((with_reducible refine x_reg_lit ?hq ?_); case hq => rfl)
    | ((first | (with_reducible first | refine x_op (fun K hK => ?_) | refine end_ret ?_ | refine end_normal ?_) | ((with_reducible refine x_guard_yes ?hy (fun K hK => ?_)); case hy => rfl)); simp only [go_sem, Int.cast_ofNat_Int, Nat.reduceEqDiff, Nat.reduceAdd, Nat.reduceMul, Nat.reduceLeDiff, Nat.reduceLT, Int.reduceLT, Int.reduceLE, Int.reduceEq, Int.reduceNeg, Int.reduceToNat, Nat.reducePow, reduceIte, reduceCtorEq])
    | ((with_reducible first | refine x_guard_no ?hy ?_ | refine x_cond_true ?hy ?_); case hy => rfl)
    | ((with_reducible first | refine x_guard_none ?hy ?_ | refine x_cond_false ?hy ?_); case hy => rfl)
    | ((with_reducible refine block_exit_ne ?hy ?_); case hy => decide))
  refine awake_ok ?_
  intro H1 hf1
  repeat' (first
    | (with_reducible first | refine seq_normal ?_ | (refine hK _ _ ?_; clear hK K) | refine x_seq (fun K hK => ?_) | refine x_nil ?_ | refine x_block ?_ | refine x_skip ?_ | refine x_exit ?_ | refine x_ret ?_ | refine x_label ?_ | refine x_scope ?_ | (refine seq_ret ?_; clear hK K) | (refine seq_exit ?_; clear hK K) | refine block_normal ?_ | refine block_ret ?_ | refine block_exit ?_ | refine loop_exit ?_ | refine loop_ret ?_)
    | ((with_reducible refine x_reg_lit ?hq ?_); case hq => rfl)
    | ((first | (with_reducible first | refine x_op (fun K hK => ?_) | refine end_ret ?_ | refine end_normal ?_) | ((with_reducible refine x_guard_yes ?hy (fun K hK => ?_)); case hy => rfl)); simp only [go_sem, Int.cast_ofNat_Int, Nat.reduceEqDiff, Nat.reduceAdd, Nat.reduceMul, Nat.reduceLeDiff, Nat.reduceLT, Int.reduceLT, Int.reduceLE, Int.reduceEq, Int.reduceNeg, Int.reduceToNat, Nat.reducePow, reduceIte, reduceCtorEq])
    | ((with_reducible first | refine x_guard_no ?hy ?_ | refine x_cond_true ?hy ?_); case hy => rfl)
    | ((with_reducible first | refine x_guard_none ?hy ?_ | refine x_cond_false ?hy ?_); case hy => rfl)
    | ((with_reducible refine block_exit_ne ?hy ?_); case hy => decide))
  refine items_ok (most := 200) (h0.frame hf1) l0 (by omega) (by omega) ?_
  intro H2 B2 v2 xs hi2 hB2 hx1 hx2 hm hf2
  have hf02 := hf1.trans hf2
  obtain ⟨ai, ci, hvi⟩ := hi2.slice
  subst hvi
  repeat' (first
    | (with_reducible first | refine seq_normal ?_ | (refine hK _ _ ?_; clear hK K) | refine x_seq (fun K hK => ?_) | refine x_nil ?_ | refine x_block ?_ | refine x_skip ?_ | refine x_exit ?_ | refine x_ret ?_ | refine x_label ?_ | refine x_scope ?_ | (refine seq_ret ?_; clear hK K) | (refine seq_exit ?_; clear hK K) | refine block_normal ?_ | refine block_ret ?_ | refine block_exit ?_ | refine loop_exit ?_ | refine loop_ret ?_)
    | ((with_reducible refine x_reg_lit ?hq ?_); case hq => rfl)
    | ((first | (with_reducible first | refine x_op (fun K hK => ?_) | refine end_ret ?_ | refine end_normal ?_) | ((with_reducible refine x_guard_yes ?hy (fun K hK => ?_)); case hy => rfl)); simp only [go_sem, Int.cast_ofNat_Int, Nat.reduceEqDiff, Nat.reduceAdd, Nat.reduceMul, Nat.reduceLeDiff, Nat.reduceLT, Int.reduceLT, Int.reduceLE, Int.reduceEq, Int.reduceNeg, Int.reduceToNat, Nat.reducePow, reduceIte, reduceCtorEq])
    | ((with_reducible first | refine x_guard_no ?hy ?_ | refine x_cond_true ?hy ?_); case hy => rfl)
    | ((with_reducible first | refine x_guard_none ?hy ?_ | refine x_cond_false ?hy ?_); case hy => rfl)
    | ((with_reducible refine block_exit_ne ?hy ?_); case hy => decide))
  refine row_ok (h1.frame hf02) l1 hi2 hm (by omega) hx1 ?_
  intro H3 f T S B v all hM hr hall hfree htop hroom hperm
  have hM := hM.base hf02
  have hne : all ≠ [] := fun h => by rw [h] at hall; simp at hall; omega
  obtain ⟨ga, ca, hva⟩ := hM.ir.slice
  rw [List.length_map] at hva
  have t1 : ((all.length : Int) != (xs.length : Int)) = false := by simp [hall]
  subst hva
  repeat' (first
    | (with_reducible first | refine seq_normal ?_ | (refine hK _ _ ?_; clear hK K) | refine x_seq (fun K hK => ?_) | refine x_nil ?_ | refine x_block ?_ | refine x_skip ?_ | refine x_exit ?_ | refine x_ret ?_ | refine x_label ?_ | refine x_scope ?_ | (refine seq_ret ?_; clear hK K) | (refine seq_exit ?_; clear hK K) | refine block_normal ?_ | refine block_ret ?_ | refine block_exit ?_ | refine loop_exit ?_ | refine loop_ret ?_)
    | ((with_reducible refine x_reg_lit ?hq ?_); case hq => rfl)
    | ((first | (with_reducible first | refine x_op (fun K hK => ?_) | refine end_ret ?_ | refine end_normal ?_) | ((with_reducible refine x_guard_yes ?hy (fun K hK => ?_)); case hy => rfl)); simp only [go_sem, Int.cast_ofNat_Int, Nat.reduceEqDiff, Nat.reduceAdd, Nat.reduceMul, Nat.reduceLeDiff, Nat.reduceLT, Int.reduceLT, Int.reduceLE, Int.reduceEq, Int.reduceNeg, Int.reduceToNat, Nat.reducePow, reduceIte, reduceCtorEq, t1])
    | ((with_reducible first | refine x_guard_no ?hy ?_ | refine x_cond_true ?hy ?_); case hy => rfl)
    | ((with_reducible first | refine x_guard_none ?hy ?_ | refine x_cond_false ?hy ?_); case hy => rfl)
    | ((with_reducible refine block_exit_ne ?hy ?_); case hy => decide))
  refine turnsLoop h2 l2 hM hr hne rfl rfl rfl rfl ?_
  intro e4 H4 S4 B4 v4 all4 j9 j10 hM4 hr4 hne4
  repeat' (first
    | (with_reducible first | refine seq_normal ?_ | (refine hK _ _ ?_; clear hK K) | refine x_seq (fun K hK => ?_) | refine x_nil ?_ | refine x_block ?_ | refine x_skip ?_ | refine x_exit ?_ | refine x_ret ?_ | refine x_label ?_ | refine x_scope ?_ | (refine seq_ret ?_; clear hK K) | (refine seq_exit ?_; clear hK K) | refine block_normal ?_ | refine block_ret ?_ | refine block_exit ?_ | refine loop_exit ?_ | refine loop_ret ?_)
    | ((with_reducible refine x_reg_lit ?hq ?_); case hq => rfl)
    | ((first | (with_reducible first | refine x_op (fun K hK => ?_) | refine end_ret ?_ | refine end_normal ?_) | ((with_reducible refine x_guard_yes ?hy (fun K hK => ?_)); case hy => rfl)); simp only [go_sem, Int.cast_ofNat_Int, Nat.reduceEqDiff, Nat.reduceAdd, Nat.reduceMul, Nat.reduceLeDiff, Nat.reduceLT, Int.reduceLT, Int.reduceLE, Int.reduceEq, Int.reduceNeg, Int.reduceToNat, Nat.reducePow, reduceIte, reduceCtorEq, j9, j10])
    | ((with_reducible first | refine x_guard_no ?hy ?_ | refine x_cond_true ?hy ?_); case hy => rfl)
    | ((with_reducible first | refine x_guard_none ?hy ?_ | refine x_cond_false ?hy ?_); case hy => rfl)
    | ((with_reducible refine block_exit_ne ?hy ?_); case hy => decide))
  refine stands_ok hM4 hr4 hne4 ?_
  intro H5 hM5
  repeat' (first
    | (with_reducible first | refine seq_normal ?_ | (refine hK _ _ ?_; clear hK K) | refine x_seq (fun K hK => ?_) | refine x_nil ?_ | refine x_block ?_ | refine x_skip ?_ | refine x_exit ?_ | refine x_ret ?_ | refine x_label ?_ | refine x_scope ?_ | (refine seq_ret ?_; clear hK K) | (refine seq_exit ?_; clear hK K) | refine block_normal ?_ | refine block_ret ?_ | refine block_exit ?_ | refine loop_exit ?_ | refine loop_ret ?_)
    | ((with_reducible refine x_reg_lit ?hq ?_); case hq => rfl)
    | ((first | (with_reducible first | refine x_op (fun K hK => ?_) | refine end_ret ?_ | refine end_normal ?_) | ((with_reducible refine x_guard_yes ?hy (fun K hK => ?_)); case hy => rfl)); simp only [go_sem, Int.cast_ofNat_Int, Nat.reduceEqDiff, Nat.reduceAdd, Nat.reduceMul, Nat.reduceLeDiff, Nat.reduceLT, Int.reduceLT, Int.reduceLE, Int.reduceEq, Int.reduceNeg, Int.reduceToNat, Nat.reducePow, reduceIte, reduceCtorEq])
    | ((with_reducible first | refine x_guard_no ?hy ?_ | refine x_cond_true ?hy ?_); case hy => rfl)
    | ((with_reducible first | refine x_guard_none ?hy ?_ | refine x_cond_false ?hy ?_); case hy => rfl)
    | ((with_reducible refine block_exit_ne ?hy ?_); case hy => decide))
  exact fin _ hM5.fr
end Go.Proofs.Ytndkbhlfbeiniaa
