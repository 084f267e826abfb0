/-
  What (*isthmus/isthmuslaw09.book).ends does with the lists that came out: they read as they did; their owner marks all, grows them and looks at them again.
-/
import Derived.Test.YtdhepjcdlkahnaaDoorHpX
import Derived.Test.YtdhepjcdlkahnaaDoorPkisthmuslaw09
namespace Go.Proofs.YtdhepjcdlkahnaaDoor.LsVs
open Go Go.Hp
set_option linter.all false
set_option maxRecDepth 100000
set_option maxHeartbeats 1600000
abbrev I : Int → Value := Value.int .i64
/-- The lists below n are all marked by their places. -/
def Mk (L : List (List Int)) (n : Nat) : Prop := ∀ (j : Nat) xs, j < n → L[j]? = some xs → ∀ x ∈ xs, x = -1 - (j : Int)
def Short (L : List (List Int)) (M : Nat) : Prop := ∀ (j : Nat) xs, L[j]? = some xs → xs.length ≤ M
variable {H : Heap} {e : Env} {Q : HX → Env → Heap → Prop} {s : Nat} {hdr : List Value} {T T' : Nat → Prop} {va vw : Value} {L : List (List Int)} {M : Nat}
theorem same (e0 : e 0 = .pointer (some ⟨s, 0, none⟩)) (es : e 5 = .int .i64 0) (hb : Blk H s hdr) (ha : hdr[260]? = some va) (hw : hdr[261]? = some vw) (hL : LL I H T va L) (hL' : LL I H T' vw L)
    (hlen : L.length ≤ 1000) (hM : Short L M) (hMM : M ≤ 1099511627776) (fin : ∀ e', e' 0 = .pointer (some ⟨s, 0, none⟩) → Q .normal e' H) : codeX Tryd.prog [10] (loopAt Tryd.f19.body 1) (blockQ 2 Q) e H := by
  have ca := hb.cellOf ha
  have cw := hb.cellOf hw
  refine x_loop (fun m e' H' => ∃ i : Nat, H' = H ∧ e' 5 = .int .i64 (i : Nat) ∧ i ≤ L.length ∧ m = L.length - i) L.length ⟨0, rfl, es, Nat.zero_le _, rfl⟩ ?_
  rintro m e1 H1 ⟨i, rfl, i7, hi, rfl⟩ hoff
  have i0 := (hoff 0 rfl).trans e0
  clear hoff
  by_cases hlt : i < L.length
  · obtain ⟨xs, hx⟩ : ∃ xs, L[i]? = some xs := ⟨_, List.getElem?_eq_getElem hlt⟩
    obtain ⟨g, c, B, v, rfl, c1, o1, -⟩ := hL.at hx
    obtain ⟨g', c', B', v', rfl, c2, o2, -⟩ := hL'.at hx
    obtain ⟨a1, k1, rfl⟩ := o1.slice
    obtain ⟨a2, k2, rfl⟩ := o2.slice
    have ew : IntKind.i64.wrap ((i : Int) + 1) = ((i + 1 : Nat) : Int) := by rw [wrap_i64] <;> omega
    have hxM := hM i xs hx
    repeat' (first
      | (with_reducible first | refine seq_normal ?_ | (refine hK _ _ ?_; clear hK K) | refine x_seq (fun K hK => ?_) | refine x_nil ?_ | refine x_block ?_ | refine x_skip ?_ | refine x_exit ?_ | refine x_ret ?_ | refine x_label ?_ | refine x_scope ?_ | (refine seq_ret ?_; clear hK K) | (refine seq_exit ?_; clear hK K) | refine block_normal ?_ | refine block_ret ?_ | refine block_exit ?_ | refine loop_exit ?_ | refine loop_ret ?_)
      | ((with_reducible refine x_reg_lit ?hq ?_); case hq => rfl)
      | ((first | (with_reducible first | refine x_op (fun K hK => ?_) | refine end_ret ?_ | refine end_normal ?_) | ((with_reducible refine x_guard_yes ?hy (fun K hK => ?_)); case hy => rfl)); simp only [go_sem, Int.cast_ofNat_Int, Nat.reduceEqDiff, Nat.reduceAdd, Nat.reduceMul, Nat.reduceLeDiff, Nat.reduceLT, Int.reduceLT, Int.reduceLE, Int.reduceEq, Int.reduceNeg, Int.reduceToNat, Nat.reducePow, reduceIte, reduceCtorEq, i7, i0, ca, cw, hlt, c1, c2])
      | ((with_reducible first | refine x_guard_no ?hy ?_ | refine x_cond_true ?hy ?_); case hy => rfl)
      | ((with_reducible first | refine x_guard_none ?hy ?_ | refine x_cond_false ?hy ?_); case hy => rfl)
      | ((with_reducible refine block_exit_ne ?hy ?_); case hy => decide))
    refine Pkisthmuslaw09.same_ok (IR.rds o1) (IR.rds o2) (by omega) ?_
    rw [decide_eq_true rfl]
    repeat' (first
      | (with_reducible first | refine seq_normal ?_ | (refine hK _ _ ?_; clear hK K) | refine x_seq (fun K hK => ?_) | refine x_nil ?_ | refine x_block ?_ | refine x_skip ?_ | refine x_exit ?_ | refine x_ret ?_ | refine x_label ?_ | refine x_scope ?_ | (refine seq_ret ?_; clear hK K) | (refine seq_exit ?_; clear hK K) | refine block_normal ?_ | refine block_ret ?_ | refine block_exit ?_ | refine loop_exit ?_ | refine loop_ret ?_)
      | ((with_reducible refine x_reg_lit ?hq ?_); case hq => rfl)
      | ((first | (with_reducible first | refine x_op (fun K hK => ?_) | refine end_ret ?_ | refine end_normal ?_) | ((with_reducible refine x_guard_yes ?hy (fun K hK => ?_)); case hy => rfl)); simp only [go_sem, Int.cast_ofNat_Int, Nat.reduceEqDiff, Nat.reduceAdd, Nat.reduceMul, Nat.reduceLeDiff, Nat.reduceLT, Int.reduceLT, Int.reduceLE, Int.reduceEq, Int.reduceNeg, Int.reduceToNat, Nat.reducePow, reduceIte, reduceCtorEq, i7, ew])
      | ((with_reducible first | refine x_guard_no ?hy ?_ | refine x_cond_true ?hy ?_); case hy => rfl)
      | ((with_reducible first | refine x_guard_none ?hy ?_ | refine x_cond_false ?hy ?_); case hy => rfl)
      | ((with_reducible refine block_exit_ne ?hy ?_); case hy => decide))
    exact loop_normal (m' := L.length - (i + 1)) (by omega) ⟨i + 1, rfl, rfl, hlt, rfl⟩
  · have t1 : (i < L.length) = False := by simp [hlt]
    obtain ⟨a, c, rfl⟩ := hL.slice
    repeat' (first
      | (with_reducible first | refine seq_normal ?_ | (refine hK _ _ ?_; clear hK K) | refine x_seq (fun K hK => ?_) | refine x_nil ?_ | refine x_block ?_ | refine x_skip ?_ | refine x_exit ?_ | refine x_ret ?_ | refine x_label ?_ | refine x_scope ?_ | (refine seq_ret ?_; clear hK K) | (refine seq_exit ?_; clear hK K) | refine block_normal ?_ | refine block_ret ?_ | refine block_exit ?_ | refine loop_exit ?_ | refine loop_ret ?_)
      | ((with_reducible refine x_reg_lit ?hq ?_); case hq => rfl)
      | ((first | (with_reducible first | refine x_op (fun K hK => ?_) | refine end_ret ?_ | refine end_normal ?_) | ((with_reducible refine x_guard_yes ?hy (fun K hK => ?_)); case hy => rfl)); simp only [go_sem, Int.cast_ofNat_Int, Nat.reduceEqDiff, Nat.reduceAdd, Nat.reduceMul, Nat.reduceLeDiff, Nat.reduceLT, Int.reduceLT, Int.reduceLE, Int.reduceEq, Int.reduceNeg, Int.reduceToNat, Nat.reducePow, reduceIte, reduceCtorEq, i7, i0, ca, t1])
      | ((with_reducible first | refine x_guard_no ?hy ?_ | refine x_cond_true ?hy ?_); case hy => rfl)
      | ((with_reducible first | refine x_guard_none ?hy ?_ | refine x_cond_false ?hy ?_); case hy => rfl)
      | ((with_reducible refine block_exit_ne ?hy ?_); case hy => decide))
    exact fin _ i0
theorem mark (e0 : e 0 = .pointer (some ⟨s, 0, none⟩)) (es : e 7 = .int .i64 0) (hb : Blk H s hdr) (ha : hdr[260]? = some va) (hL : LL I H T va L) (hs : ¬ T s)
    (hlen : L.length ≤ 1000) (hM : Short L M) (hMM : M ≤ 1099511627776)
    (fin : ∀ e' H' L', e' 0 = .pointer (some ⟨s, 0, none⟩) → LL I H' T va L' → L'.length = L.length → Short L' M → Mk L' L.length → Fr T H H' → Q .normal e' H') : codeX Tryd.prog [10] (loopAt Tryd.f19.body 2) (blockQ 4 Q) e H := by
  refine x_loop (fun m e' H' => ∃ (i : Nat) (L' : List (List Int)), e' 7 = .int .i64 (i : Nat) ∧ i ≤ L.length ∧ LL I H' T va L' ∧ L'.length = L.length ∧ Short L' M ∧ Mk L' i ∧ Fr T H H' ∧ m = L.length - i) L.length
    ⟨0, L, es, Nat.zero_le _, hL, rfl, hM, (fun j xs h => absurd h (Nat.not_lt_zero _)), Fr.refl _ _, rfl⟩ ?_
  rintro m e1 H1 ⟨i, L1, i9, hi, hL1, hl1, hM1, hk1, hf1, rfl⟩ hoff
  have i0 := (hoff 0 rfl).trans e0
  clear hoff
  have ca := (hb.frame hf1 hs).cellOf ha
  obtain ⟨a, c, rfl⟩ := hL1.slice
  by_cases hlt : i < L1.length
  · obtain ⟨xs, hx⟩ : ∃ xs, L1[i]? = some xs := ⟨_, List.getElem?_eq_getElem hlt⟩
    have ew : IntKind.i64.wrap ((i : Int) + 1) = ((i + 1 : Nat) : Int) := by rw [wrap_i64] <;> omega
    have ey : IntKind.i64.wrap (-1 - (i : Int)) = -1 - (i : Int) := by rw [wrap_i64] <;> omega
    have hxM := hM1 i xs hx
    repeat' (first
      | (with_reducible first | refine seq_normal ?_ | (refine hK _ _ ?_; clear hK K) | refine x_seq (fun K hK => ?_) | refine x_nil ?_ | refine x_block ?_ | refine x_skip ?_ | refine x_exit ?_ | refine x_ret ?_ | refine x_label ?_ | refine x_scope ?_ | (refine seq_ret ?_; clear hK K) | (refine seq_exit ?_; clear hK K) | refine block_normal ?_ | refine block_ret ?_ | refine block_exit ?_ | refine loop_exit ?_ | refine loop_ret ?_)
      | ((with_reducible refine x_reg_lit ?hq ?_); case hq => rfl)
      | ((first | (with_reducible first | refine x_op (fun K hK => ?_) | refine end_ret ?_ | refine end_normal ?_) | ((with_reducible refine x_guard_yes ?hy (fun K hK => ?_)); case hy => rfl)); simp only [go_sem, Int.cast_ofNat_Int, Nat.reduceEqDiff, Nat.reduceAdd, Nat.reduceMul, Nat.reduceLeDiff, Nat.reduceLT, Int.reduceLT, Int.reduceLE, Int.reduceEq, Int.reduceNeg, Int.reduceToNat, Nat.reducePow, reduceIte, reduceCtorEq, i9, i0, ca, hlt])
      | ((with_reducible first | refine x_guard_no ?hy ?_ | refine x_cond_true ?hy ?_); case hy => rfl)
      | ((with_reducible first | refine x_guard_none ?hy ?_ | refine x_cond_false ?hy ?_); case hy => rfl)
      | ((with_reducible refine block_exit_ne ?hy ?_); case hy => decide))
    refine x_loop (fun m e' H' => ∃ (k : Nat) (L' : List (List Int)) (ys : List Int), e' 8 = .int .i64 (k : Nat) ∧ k ≤ xs.length ∧ ys.length = xs.length ∧ LL I H' T (.slice a L1.length c) L' ∧ L' = L1.set i ys ∧ (∀ p x, p < k → ys[p]? = some x → x = -1 - (i : Int)) ∧ Fr T H H' ∧ m = xs.length - k) xs.length
      ⟨0, L1, xs, rfl, Nat.zero_le _, rfl, hL1, ?_, (fun p x h => absurd h (Nat.not_lt_zero _)), hf1, rfl⟩ ?_
    · apply List.ext_getElem?
      intro j
      rw [List.getElem?_set]
      by_cases hij : i = j
      · subst hij; rw [if_pos rfl, if_pos hlt, hx]
      · rw [if_neg hij]
    rintro m e2 H2 ⟨k, L2, ys, i10, hk, hly, hL2, rfl, hmk, hf2, rfl⟩ hoff
    have i0 := (hoff 0 rfl).trans i0
    have i9 := (hoff 7 rfl).trans i9
    clear hoff
    have ca := (hb.frame hf2 hs).cellOf ha
    have hx2 : (L1.set i ys)[i]? = some ys := by rw [List.getElem?_set, if_pos rfl, if_pos hlt]
    obtain ⟨g, c', B, v, hv, c1, o1, hg, hB, hwr, -⟩ := hL2.at hx2
    rw [List.length_set] at hv
    simp only [Value.slice.injEq, true_and] at hv
    obtain ⟨rfl, rfl⟩ := hv
    obtain ⟨a1, k1, rfl⟩ := o1.slice
    by_cases hkl : k < ys.length
    · obtain ⟨b, n, rfl, hv', w, hL3⟩ := hwr k (-1 - (i : Int)) hkl
      simp only [Value.slice.injEq, true_and] at hv'
      obtain ⟨rfl, rfl⟩ := hv'
      have ewk : IntKind.i64.wrap ((k : Int) + 1) = ((k + 1 : Nat) : Int) := by rw [wrap_i64] <;> omega
      repeat' (first
        | (with_reducible first | refine seq_normal ?_ | (refine hK _ _ ?_; clear hK K) | refine x_seq (fun K hK => ?_) | refine x_nil ?_ | refine x_block ?_ | refine x_skip ?_ | refine x_exit ?_ | refine x_ret ?_ | refine x_label ?_ | refine x_scope ?_ | (refine seq_ret ?_; clear hK K) | (refine seq_exit ?_; clear hK K) | refine block_normal ?_ | refine block_ret ?_ | refine block_exit ?_ | refine loop_exit ?_ | refine loop_ret ?_)
        | ((with_reducible refine x_reg_lit ?hq ?_); case hq => rfl)
        | ((first | (with_reducible first | refine x_op (fun K hK => ?_) | refine end_ret ?_ | refine end_normal ?_) | ((with_reducible refine x_guard_yes ?hy (fun K hK => ?_)); case hy => rfl)); simp only [go_sem, Int.cast_ofNat_Int, Nat.reduceEqDiff, Nat.reduceAdd, Nat.reduceMul, Nat.reduceLeDiff, Nat.reduceLT, Int.reduceLT, Int.reduceLE, Int.reduceEq, Int.reduceNeg, Int.reduceToNat, Nat.reducePow, reduceIte, reduceCtorEq, i9, i10, i0, ca, hlt, c1, hkl, ey, w, ewk])
        | ((with_reducible first | refine x_guard_no ?hy ?_ | refine x_cond_true ?hy ?_); case hy => rfl)
        | ((with_reducible first | refine x_guard_none ?hy ?_ | refine x_cond_false ?hy ?_); case hy => rfl)
        | ((with_reducible refine block_exit_ne ?hy ?_); case hy => decide))
      refine loop_normal (m' := xs.length - (k + 1)) (by omega) ⟨k + 1, _, ys.set k (-1 - (i : Int)), rfl, by omega, by simp [hly], hL3, ?_, ?_, ?_, rfl⟩
      · rw [List.set_set]
      · intro p x hp hpx
        rw [List.getElem?_set] at hpx
        by_cases hpk : k = p
        · rw [if_pos hpk, if_pos (by omega)] at hpx
          exact (Option.some.inj hpx).symm
        · rw [if_neg hpk] at hpx
          exact hmk p x (by omega) hpx
      · exact Fr.set (S := T) (a := ⟨b, k, none⟩) hf2 (.inl (hB b rfl).1) _
    · have t1 : (k < ys.length) = False := by simp [hkl]
      repeat' (first
        | (with_reducible first | refine seq_normal ?_ | (refine hK _ _ ?_; clear hK K) | refine x_seq (fun K hK => ?_) | refine x_nil ?_ | refine x_block ?_ | refine x_skip ?_ | refine x_exit ?_ | refine x_ret ?_ | refine x_label ?_ | refine x_scope ?_ | (refine seq_ret ?_; clear hK K) | (refine seq_exit ?_; clear hK K) | refine block_normal ?_ | refine block_ret ?_ | refine block_exit ?_ | refine loop_exit ?_ | refine loop_ret ?_)
        | ((with_reducible refine x_reg_lit ?hq ?_); case hq => rfl)
        | ((first | (with_reducible first | refine x_op (fun K hK => ?_) | refine end_ret ?_ | refine end_normal ?_) | ((with_reducible refine x_guard_yes ?hy (fun K hK => ?_)); case hy => rfl)); simp only [go_sem, Int.cast_ofNat_Int, Nat.reduceEqDiff, Nat.reduceAdd, Nat.reduceMul, Nat.reduceLeDiff, Nat.reduceLT, Int.reduceLT, Int.reduceLE, Int.reduceEq, Int.reduceNeg, Int.reduceToNat, Nat.reducePow, reduceIte, reduceCtorEq, i9, i10, i0, ca, hlt, c1, t1, ew])
        | ((with_reducible first | refine x_guard_no ?hy ?_ | refine x_cond_true ?hy ?_); case hy => rfl)
        | ((with_reducible first | refine x_guard_none ?hy ?_ | refine x_cond_false ?hy ?_); case hy => rfl)
        | ((with_reducible refine block_exit_ne ?hy ?_); case hy => decide))
      have hLL : (L1.set i ys).length = L.length := by simpa using hl1
      refine loop_normal (m' := L.length - (i + 1)) (by omega) ⟨i + 1, L1.set i ys, rfl, by omega, by rw [hl1] at hL2 ⊢; exact hL2, hLL, ?_, ?_, hf2, rfl⟩
      · intro j zs hz
        rw [List.getElem?_set] at hz
        by_cases hij : i = j
        · rw [if_pos hij, if_pos hlt] at hz
          rw [← Option.some.inj hz, hly]; exact hxM
        · rw [if_neg hij] at hz
          exact hM1 j zs hz
      · intro j zs hj hz x hxz
        rw [List.getElem?_set] at hz
        by_cases hij : i = j
        · rw [if_pos hij, if_pos hlt] at hz
          obtain rfl := Option.some.inj hz
          obtain ⟨p, hp⟩ := List.getElem?_of_mem hxz
          have hpl := (List.getElem?_eq_some_iff.1 hp).1
          rw [← hij]
          exact hmk p x (by omega) hp
        · rw [if_neg hij] at hz
          exact hk1 j zs (by omega) hz x hxz
  · have t1 : (i < L1.length) = False := by simp [hlt]
    repeat' (first
      | (with_reducible first | refine seq_normal ?_ | (refine hK _ _ ?_; clear hK K) | refine x_seq (fun K hK => ?_) | refine x_nil ?_ | refine x_block ?_ | refine x_skip ?_ | refine x_exit ?_ | refine x_ret ?_ | refine x_label ?_ | refine x_scope ?_ | (refine seq_ret ?_; clear hK K) | (refine seq_exit ?_; clear hK K) | refine block_normal ?_ | refine block_ret ?_ | refine block_exit ?_ | refine loop_exit ?_ | refine loop_ret ?_)
      | ((with_reducible refine x_reg_lit ?hq ?_); case hq => rfl)
      | ((first | (with_reducible first | refine x_op (fun K hK => ?_) | refine end_ret ?_ | refine end_normal ?_) | ((with_reducible refine x_guard_yes ?hy (fun K hK => ?_)); case hy => rfl)); simp only [go_sem, Int.cast_ofNat_Int, Nat.reduceEqDiff, Nat.reduceAdd, Nat.reduceMul, Nat.reduceLeDiff, Nat.reduceLT, Int.reduceLT, Int.reduceLE, Int.reduceEq, Int.reduceNeg, Int.reduceToNat, Nat.reducePow, reduceIte, reduceCtorEq, i9, i0, ca, t1])
      | ((with_reducible first | refine x_guard_no ?hy ?_ | refine x_cond_true ?hy ?_); case hy => rfl)
      | ((with_reducible first | refine x_guard_none ?hy ?_ | refine x_cond_false ?hy ?_); case hy => rfl)
      | ((with_reducible refine block_exit_ne ?hy ?_); case hy => decide))
    have : i = L.length := by omega
    exact fin _ _ L1 i0 hL1 hl1 hM1 (by rw [← this]; exact hk1) hf1
theorem grow (e0 : e 0 = .pointer (some ⟨s, 0, none⟩)) (es : e 9 = .int .i64 0) (hb : Blk H s hdr) (ha : hdr[260]? = some va) (hL : LL I H T va L) (hs : ¬ T s)
    (hlen : L.length ≤ 1000) (hM : Short L M) (hMM : M ≤ 1099511627776) (hk : Mk L L.length)
    (fin : ∀ e' H' T' L', e' 0 = .pointer (some ⟨s, 0, none⟩) → LL I H' T' va L' → L'.length = L.length → Mk L' L.length → Short L' (M + 12) → (∀ b, T' b → T b ∨ H.size ≤ b) → Fr T H H' → Q .normal e' H') : codeX Tryd.prog [10] (loopAt Tryd.f19.body 4) (blockQ 8 Q) e H := by
  have hsl := hb.lt
  refine x_loop (fun m e' H' => ∃ (n : Nat) (T' : Nat → Prop) (L' : List (List Int)), e' 9 = .int .i64 (n : Nat) ∧ n ≤ 12 ∧ LL I H' T' va L' ∧ L'.length = L.length ∧ Short L' (M + n) ∧ Mk L' L.length ∧ (∀ b, T' b → T b ∨ H.size ≤ b) ∧ Fr T H H' ∧ m = 12 - n) 12
    ⟨0, T, L, es, Nat.zero_le _, hL, rfl, hM, hk, (fun b h => .inl h), Fr.refl _ _, rfl⟩ ?_
  rintro m e1 H1 ⟨n, T1, L1, i11, hn, hL1, hl1, hM1, hk1, hT1, hf1, rfl⟩ hoff
  have i0 := (hoff 0 rfl).trans e0
  clear hoff
  by_cases hlt : n < 12
  · have ew : IntKind.i64.wrap ((n : Int) + 1) = ((n + 1 : Nat) : Int) := by rw [wrap_i64] <;> omega
    have tn : ((n : Int) < 12) = True := by simp; omega
    repeat' (first
      | (with_reducible first | refine seq_normal ?_ | (refine hK _ _ ?_; clear hK K) | refine x_seq (fun K hK => ?_) | refine x_nil ?_ | refine x_block ?_ | refine x_skip ?_ | refine x_exit ?_ | refine x_ret ?_ | refine x_label ?_ | refine x_scope ?_ | (refine seq_ret ?_; clear hK K) | (refine seq_exit ?_; clear hK K) | refine block_normal ?_ | refine block_ret ?_ | refine block_exit ?_ | refine loop_exit ?_ | refine loop_ret ?_)
      | ((with_reducible refine x_reg_lit ?hq ?_); case hq => rfl)
      | ((first | (with_reducible first | refine x_op (fun K hK => ?_) | refine end_ret ?_ | refine end_normal ?_) | ((with_reducible refine x_guard_yes ?hy (fun K hK => ?_)); case hy => rfl)); simp only [go_sem, Int.cast_ofNat_Int, Nat.reduceEqDiff, Nat.reduceAdd, Nat.reduceMul, Nat.reduceLeDiff, Nat.reduceLT, Int.reduceLT, Int.reduceLE, Int.reduceEq, Int.reduceNeg, Int.reduceToNat, Nat.reducePow, reduceIte, reduceCtorEq, i11, tn])
      | ((with_reducible first | refine x_guard_no ?hy ?_ | refine x_cond_true ?hy ?_); case hy => rfl)
      | ((with_reducible first | refine x_guard_none ?hy ?_ | refine x_cond_false ?hy ?_); case hy => rfl)
      | ((with_reducible refine block_exit_ne ?hy ?_); case hy => decide))
    refine x_loop (fun m e' H' => ∃ (i : Nat) (T' : Nat → Prop) (L' : List (List Int)), e' 10 = .int .i64 (i : Nat) ∧ i ≤ L.length ∧ LL I H' T' va L' ∧ L'.length = L.length ∧ (∀ (j : Nat) xs, L'[j]? = some xs → xs.length ≤ M + n + 1 ∧ (i ≤ j → xs.length ≤ M + n)) ∧ Mk L' L.length ∧ (∀ b, T' b → T b ∨ H.size ≤ b) ∧ Fr T H H' ∧ m = L.length - i) L.length
      ⟨0, T1, L1, rfl, Nat.zero_le _, hL1, hl1, (fun j xs h => ⟨Nat.le_succ_of_le (hM1 j xs h), fun _ => hM1 j xs h⟩), hk1, hT1, hf1, rfl⟩ ?_
    rintro m e2 H2 ⟨i, T2, L2, i12, hi, hL2, hl2, hM2, hk2, hT2, hf2, rfl⟩ hoff
    have i0 := (hoff 0 rfl).trans i0
    have i11 := (hoff 9 rfl).trans i11
    clear hoff
    have hs2 := hf2.size
    have ca := (hb.frame hf2 hs).cellOf ha
    by_cases hil : i < L2.length
    · obtain ⟨xs, hx⟩ : ∃ xs, L2[i]? = some xs := ⟨_, List.getElem?_eq_getElem hil⟩
      obtain ⟨g, c, B, v, rfl, c1, o1, hg, hB, -, hput⟩ := hL2.at hx
      obtain ⟨a1, k1, rfl⟩ := o1.slice
      have hsg : s ≠ g := fun e => by
        rcases hT2 g hg with h | h
        · exact hs (by rw [e]; exact h)
        · omega
      have hsB : B ≠ some s := fun e => by
        rcases hT2 s (hB s e).1 with h | h
        · exact hs h
        · omega
      have hgB : B ≠ some g := fun e => (hB g e).2 rfl
      have hxM := (hM2 i xs hx).2 (Nat.le_refl _)
      have ewi : IntKind.i64.wrap ((i : Int) + 1) = ((i + 1 : Nat) : Int) := by rw [wrap_i64] <;> omega
      have ey : IntKind.i64.wrap (-1 - (i : Int)) = -1 - (i : Int) := by rw [wrap_i64] <;> omega
      have q : Cells [(s, 260, .slice (some ⟨g, 0, none⟩) L2.length c), (g, i, .slice a1 xs.length k1)] H2 := ⟨ca, c1, trivial⟩
      have qp : Cells [(s, 260, .slice (some ⟨g, 0, none⟩) L2.length c), (g, i, .slice a1 xs.length k1)] (H2.push (.cells #[.int .i64 (-1 - (i : Int))] 3)) := q.grow ((Fr.refl _ _).push _)
      repeat' (first
        | (with_reducible first | refine seq_normal ?_ | (refine hK _ _ ?_; clear hK K) | refine x_seq (fun K hK => ?_) | refine x_nil ?_ | refine x_block ?_ | refine x_skip ?_ | refine x_exit ?_ | refine x_ret ?_ | refine x_label ?_ | refine x_scope ?_ | (refine seq_ret ?_; clear hK K) | (refine seq_exit ?_; clear hK K) | refine block_normal ?_ | refine block_ret ?_ | refine block_exit ?_ | refine loop_exit ?_ | refine loop_ret ?_)
        | ((with_reducible refine x_reg_lit ?hq ?_); case hq => rfl)
        | ((first | (with_reducible first | refine x_op (fun K hK => ?_) | refine end_ret ?_ | refine end_normal ?_) | ((with_reducible refine x_guard_yes ?hy (fun K hK => ?_)); case hy => rfl)); simp only [go_sem, Int.cast_ofNat_Int, Nat.reduceEqDiff, Nat.reduceAdd, Nat.reduceMul, Nat.reduceLeDiff, Nat.reduceLT, Int.reduceLT, Int.reduceLE, Int.reduceEq, Int.reduceNeg, Int.reduceToNat, Nat.reducePow, reduceIte, reduceCtorEq, i12, i0, ca, hil])
        | ((with_reducible first | refine x_guard_no ?hy ?_ | refine x_cond_true ?hy ?_); case hy => rfl)
        | ((with_reducible first | refine x_guard_none ?hy ?_ | refine x_cond_false ?hy ?_); case hy => rfl)
        | ((with_reducible refine block_exit_ne ?hy ?_); case hy => decide))
      refine x_drawS [17] [0, 1, 2, 3, 4, 5, 6, 7, 8, 9, 10, 11, 12, 13, 14, 15, 16, 17] rfl (by kernel_rfl) (Cells _) q ?_
      repeat' (first
        | (with_reducible refine xs_nil ?_)
        | ((with_reducible apply xs_rd); (case hi => rfl); (case hr => rfl); (case h1 => intro H' hS'; (try simp only [Cells, and_true] at hS'); simp only [go_sem, Int.cast_ofNat_Int, Nat.reduceEqDiff, Nat.reduceAdd, Nat.reduceMul, Nat.reduceLeDiff, Nat.reduceLT, Int.reduceLT, Int.reduceLE, Int.reduceEq, Int.reduceNeg, Int.reduceToNat, Nat.reducePow, reduceIte, reduceCtorEq, i12, i0, hil, ey, qp, hS']; rfl))
        | ((with_reducible apply xs_guard_yes); (case hi => rfl); (case hr => rfl); (case hy => rfl); (case h1 => intro H' hS'; (try simp only [Cells, and_true] at hS'); simp only [go_sem, Int.cast_ofNat_Int, Nat.reduceEqDiff, Nat.reduceAdd, Nat.reduceMul, Nat.reduceLeDiff, Nat.reduceLT, Int.reduceLT, Int.reduceLE, Int.reduceEq, Int.reduceNeg, Int.reduceToNat, Nat.reducePow, reduceIte, reduceCtorEq, i12, i0, hil, ey, qp, hS']; rfl))
        | ((with_reducible refine xs_tail ?hz ?_); case hz => rfl)
        | ((with_reducible refine xs_keep ?hz ?_); case hz => first | assumption | (simp only [go_sem, Int.cast_ofNat_Int, Nat.reduceEqDiff, Nat.reduceAdd, Nat.reduceMul, Nat.reduceLeDiff, Nat.reduceLT, Int.reduceLT, Int.reduceLE, Int.reduceEq, Int.reduceNeg, Int.reduceToNat, Nat.reducePow, reduceIte, reduceCtorEq, Cells, and_true, i12, i0, hil, ey, qp]))
        | ((with_reducible apply xs_guard_no); (case hi => rfl); (case hy => rfl); (case hS => assumption))
        | ((first | ((with_reducible apply xs_op); (case hi => rfl)) | ((with_reducible apply xs_op_yes); (case hi => rfl); (case hy => rfl))); (case hr => rfl); intro K hK; simp only [go_sem, Int.cast_ofNat_Int, Nat.reduceEqDiff, Nat.reduceAdd, Nat.reduceMul, Nat.reduceLeDiff, Nat.reduceLT, Int.reduceLT, Int.reduceLE, Int.reduceEq, Int.reduceNeg, Int.reduceToNat, Nat.reducePow, reduceIte, reduceCtorEq, i12, i0, hil, ey, qp])
        | (with_reducible first | refine seq_normal ?_ | (refine hK _ _ ?_; clear hK K) | refine x_seq (fun K hK => ?_) | refine x_nil ?_ | refine x_block ?_ | refine x_skip ?_ | refine x_exit ?_ | refine x_ret ?_ | refine x_label ?_ | refine x_scope ?_ | (refine seq_ret ?_; clear hK K) | (refine seq_exit ?_; clear hK K) | refine block_normal ?_ | refine block_ret ?_ | refine block_exit ?_ | refine loop_exit ?_ | refine loop_ret ?_)
        | ((with_reducible refine x_reg_lit ?hq ?_); case hq => rfl)
        | ((first | (with_reducible first | refine x_op (fun K hK => ?_) | refine end_ret ?_ | refine end_normal ?_) | ((with_reducible refine x_guard_yes ?hy (fun K hK => ?_)); case hy => rfl)); simp only [go_sem, Int.cast_ofNat_Int, Nat.reduceEqDiff, Nat.reduceAdd, Nat.reduceMul, Nat.reduceLeDiff, Nat.reduceLT, Int.reduceLT, Int.reduceLE, Int.reduceEq, Int.reduceNeg, Int.reduceToNat, Nat.reducePow, reduceIte, reduceCtorEq, i12, i0, hil, ey, qp])
        | ((with_reducible first | refine x_guard_no ?hy ?_ | refine x_cond_true ?hy ?_); case hy => rfl)
        | ((with_reducible first | refine x_guard_none ?hy ?_ | refine x_cond_false ?hy ?_); case hy => rfl)
        | ((with_reducible refine block_exit_ne ?hy ?_); case hy => decide))
      refine append_or (C := I) elems22 tl3 o1 rfl rfl (by decide) (by simp; omega) rfl ?_
      intro v3 H3 B3 o3 hf3 hB3
      have q3 : Cells [(s, 260, .slice (some ⟨g, 0, none⟩) L2.length c), (g, i, .slice a1 xs.length k1)] H3 := q.frame hf3 (by
        intro b hb
        simp only [List.mem_cons, List.not_mem_nil, or_false] at hb
        rcases hb with rfl | rfl
        · exact hsB
        · exact hgB)
      obtain ⟨w3, hL3⟩ := hput H3 B3 v3 _ o3 hf3 hB3
      obtain ⟨a3, k3, rfl⟩ := o3.slice
      repeat' (first
        | (with_reducible refine xs_nil ?_)
        | ((with_reducible apply xs_rd); (case hi => rfl); (case hr => rfl); (case h1 => intro H' hS'; (try simp only [Cells, and_true] at hS'); simp only [go_sem, Int.cast_ofNat_Int, Nat.reduceEqDiff, Nat.reduceAdd, Nat.reduceMul, Nat.reduceLeDiff, Nat.reduceLT, Int.reduceLT, Int.reduceLE, Int.reduceEq, Int.reduceNeg, Int.reduceToNat, Nat.reducePow, reduceIte, reduceCtorEq, i12, i0, hil, q3, w3, ewi, hS']; rfl))
        | ((with_reducible apply xs_guard_yes); (case hi => rfl); (case hr => rfl); (case hy => rfl); (case h1 => intro H' hS'; (try simp only [Cells, and_true] at hS'); simp only [go_sem, Int.cast_ofNat_Int, Nat.reduceEqDiff, Nat.reduceAdd, Nat.reduceMul, Nat.reduceLeDiff, Nat.reduceLT, Int.reduceLT, Int.reduceLE, Int.reduceEq, Int.reduceNeg, Int.reduceToNat, Nat.reducePow, reduceIte, reduceCtorEq, i12, i0, hil, q3, w3, ewi, hS']; rfl))
        | ((with_reducible refine xs_tail ?hz ?_); case hz => rfl)
        | ((with_reducible refine xs_keep ?hz ?_); case hz => first | assumption | (simp only [go_sem, Int.cast_ofNat_Int, Nat.reduceEqDiff, Nat.reduceAdd, Nat.reduceMul, Nat.reduceLeDiff, Nat.reduceLT, Int.reduceLT, Int.reduceLE, Int.reduceEq, Int.reduceNeg, Int.reduceToNat, Nat.reducePow, reduceIte, reduceCtorEq, Cells, and_true, i12, i0, hil, q3, w3, ewi]))
        | ((with_reducible apply xs_guard_no); (case hi => rfl); (case hy => rfl); (case hS => assumption))
        | ((first | ((with_reducible apply xs_op); (case hi => rfl)) | ((with_reducible apply xs_op_yes); (case hi => rfl); (case hy => rfl))); (case hr => rfl); intro K hK; simp only [go_sem, Int.cast_ofNat_Int, Nat.reduceEqDiff, Nat.reduceAdd, Nat.reduceMul, Nat.reduceLeDiff, Nat.reduceLT, Int.reduceLT, Int.reduceLE, Int.reduceEq, Int.reduceNeg, Int.reduceToNat, Nat.reducePow, reduceIte, reduceCtorEq, i12, i0, hil, q3, w3, ewi])
        | (with_reducible first | refine seq_normal ?_ | (refine hK _ _ ?_; clear hK K) | refine x_seq (fun K hK => ?_) | refine x_nil ?_ | refine x_block ?_ | refine x_skip ?_ | refine x_exit ?_ | refine x_ret ?_ | refine x_label ?_ | refine x_scope ?_ | (refine seq_ret ?_; clear hK K) | (refine seq_exit ?_; clear hK K) | refine block_normal ?_ | refine block_ret ?_ | refine block_exit ?_ | refine loop_exit ?_ | refine loop_ret ?_)
        | ((with_reducible refine x_reg_lit ?hq ?_); case hq => rfl)
        | ((first | (with_reducible first | refine x_op (fun K hK => ?_) | refine end_ret ?_ | refine end_normal ?_) | ((with_reducible refine x_guard_yes ?hy (fun K hK => ?_)); case hy => rfl)); simp only [go_sem, Int.cast_ofNat_Int, Nat.reduceEqDiff, Nat.reduceAdd, Nat.reduceMul, Nat.reduceLeDiff, Nat.reduceLT, Int.reduceLT, Int.reduceLE, Int.reduceEq, Int.reduceNeg, Int.reduceToNat, Nat.reducePow, reduceIte, reduceCtorEq, i12, i0, hil, q3, w3, ewi])
        | ((with_reducible first | refine x_guard_no ?hy ?_ | refine x_cond_true ?hy ?_); case hy => rfl)
        | ((with_reducible first | refine x_guard_none ?hy ?_ | refine x_cond_false ?hy ?_); case hy => rfl)
        | ((with_reducible refine block_exit_ne ?hy ?_); case hy => decide))
      have hs3 := hf3.size
      refine loop_normal (m' := L.length - (i + 1)) (by omega) ⟨i + 1, _, _, rfl, by omega, hL3, by simpa using hl2, ?_, ?_, ?_, ?_, rfl⟩
      · intro j zs hz
        rw [List.getElem?_set] at hz
        by_cases hij : i = j
        · rw [if_pos hij, if_pos hil] at hz
          rw [← Option.some.inj hz, List.length_append, List.length_singleton]
          exact ⟨by omega, fun h => by omega⟩
        · rw [if_neg hij] at hz
          exact ⟨(hM2 j zs hz).1, fun h => (hM2 j zs hz).2 (by omega)⟩
      · intro j zs hj hz x hxz
        rw [List.getElem?_set] at hz
        by_cases hij : i = j
        · rw [if_pos hij, if_pos hil] at hz
          rw [← Option.some.inj hz] at hxz
          rcases List.mem_append.1 hxz with h | h
          · rw [← hij]; exact hk2 i xs (by omega) hx x h
          · rw [List.mem_singleton] at h
            rw [← hij]; exact h
        · rw [if_neg hij] at hz
          exact hk2 j zs hj hz x hxz
      · intro b hb
        rcases hb with hb | hb
        · exact hT2 b hb
        · rcases hB3 with rfl | ⟨g', rfl, hg'⟩
          · exact hT2 b (hB b hb).1
          · rw [← Option.some.inj hb]; right; omega
      · refine Fr.set (S := T) (a := ⟨g, i, none⟩) (hf2.trans' hf3 fun b hb h => ?_) ?_ _
        · rcases hT2 b (hB b h).1 with h | h
          · exact h
          · omega
        · rcases hT2 g hg with h | h
          · exact .inl h
          · exact .inr h
    · have t1 : (i < L2.length) = False := by simp [hil]
      obtain ⟨a, c, rfl⟩ := hL2.slice
      repeat' (first
        | (with_reducible first | refine seq_normal ?_ | (refine hK _ _ ?_; clear hK K) | refine x_seq (fun K hK => ?_) | refine x_nil ?_ | refine x_block ?_ | refine x_skip ?_ | refine x_exit ?_ | refine x_ret ?_ | refine x_label ?_ | refine x_scope ?_ | (refine seq_ret ?_; clear hK K) | (refine seq_exit ?_; clear hK K) | refine block_normal ?_ | refine block_ret ?_ | refine block_exit ?_ | refine loop_exit ?_ | refine loop_ret ?_)
        | ((with_reducible refine x_reg_lit ?hq ?_); case hq => rfl)
        | ((first | (with_reducible first | refine x_op (fun K hK => ?_) | refine end_ret ?_ | refine end_normal ?_) | ((with_reducible refine x_guard_yes ?hy (fun K hK => ?_)); case hy => rfl)); simp only [go_sem, Int.cast_ofNat_Int, Nat.reduceEqDiff, Nat.reduceAdd, Nat.reduceMul, Nat.reduceLeDiff, Nat.reduceLT, Int.reduceLT, Int.reduceLE, Int.reduceEq, Int.reduceNeg, Int.reduceToNat, Nat.reducePow, reduceIte, reduceCtorEq, i12, i0, ca, t1, i11, ew])
        | ((with_reducible first | refine x_guard_no ?hy ?_ | refine x_cond_true ?hy ?_); case hy => rfl)
        | ((with_reducible first | refine x_guard_none ?hy ?_ | refine x_cond_false ?hy ?_); case hy => rfl)
        | ((with_reducible refine block_exit_ne ?hy ?_); case hy => decide))
      exact loop_normal (m' := 12 - (n + 1)) (by omega) ⟨n + 1, T2, L2, rfl, by omega, hL2, hl2, (fun j xs h => (hM2 j xs h).1), hk2, hT2, hf2, rfl⟩
  · have tn : ((n : Int) < 12) = False := by simp; omega
    have hn12 : n = 12 := by omega
    subst hn12
    repeat' (first
      | (with_reducible first | refine seq_normal ?_ | (refine hK _ _ ?_; clear hK K) | refine x_seq (fun K hK => ?_) | refine x_nil ?_ | refine x_block ?_ | refine x_skip ?_ | refine x_exit ?_ | refine x_ret ?_ | refine x_label ?_ | refine x_scope ?_ | (refine seq_ret ?_; clear hK K) | (refine seq_exit ?_; clear hK K) | refine block_normal ?_ | refine block_ret ?_ | refine block_exit ?_ | refine loop_exit ?_ | refine loop_ret ?_)
      | ((with_reducible refine x_reg_lit ?hq ?_); case hq => rfl)
      | ((first | (with_reducible first | refine x_op (fun K hK => ?_) | refine end_ret ?_ | refine end_normal ?_) | ((with_reducible refine x_guard_yes ?hy (fun K hK => ?_)); case hy => rfl)); simp only [go_sem, Int.cast_ofNat_Int, Nat.reduceEqDiff, Nat.reduceAdd, Nat.reduceMul, Nat.reduceLeDiff, Nat.reduceLT, Int.reduceLT, Int.reduceLE, Int.reduceEq, Int.reduceNeg, Int.reduceToNat, Nat.reducePow, reduceIte, reduceCtorEq, i11, tn])
      | ((with_reducible first | refine x_guard_no ?hy ?_ | refine x_cond_true ?hy ?_); case hy => rfl)
      | ((with_reducible first | refine x_guard_none ?hy ?_ | refine x_cond_false ?hy ?_); case hy => rfl)
      | ((with_reducible refine block_exit_ne ?hy ?_); case hy => decide))
    exact fin _ _ T1 L1 i0 hL1 hl1 hk1 hM1 hT1 hf1
theorem check (e0 : e 0 = .pointer (some ⟨s, 0, none⟩)) (es : e 11 = .int .i64 0) (hb : Blk H s hdr) (ha : hdr[260]? = some va) (hL : LL I H T va L)
    (hlen : L.length ≤ 1000) (hM : Short L M) (hMM : M ≤ 2199023255552) (hk : Mk L L.length)
    (fin : ∀ e', e' 0 = .pointer (some ⟨s, 0, none⟩) → Q .normal e' H) : codeX Tryd.prog [10] (loopAt Tryd.f19.body 6) (blockQ 12 Q) e H := by
  have ca := hb.cellOf ha
  refine x_loop (fun m e' H' => ∃ i : Nat, H' = H ∧ e' 11 = .int .i64 (i : Nat) ∧ i ≤ L.length ∧ m = L.length - i) L.length ⟨0, rfl, es, Nat.zero_le _, rfl⟩ ?_
  rintro m e1 H1 ⟨i, rfl, i7, hi, rfl⟩ hoff
  have i0 := (hoff 0 rfl).trans e0
  clear hoff
  by_cases hlt : i < L.length
  · obtain ⟨xs, hx⟩ : ∃ xs, L[i]? = some xs := ⟨_, List.getElem?_eq_getElem hlt⟩
    obtain ⟨g, c, B, v, rfl, c1, o1, -⟩ := hL.at hx
    obtain ⟨a1, k1, rfl⟩ := o1.slice
    have ew : IntKind.i64.wrap ((i : Int) + 1) = ((i + 1 : Nat) : Int) := by rw [wrap_i64] <;> omega
    have ey : IntKind.i64.wrap (-1 - (i : Int)) = -1 - (i : Int) := by rw [wrap_i64] <;> omega
    have hxM := hM i xs hx
    repeat' (first
      | (with_reducible first | refine seq_normal ?_ | (refine hK _ _ ?_; clear hK K) | refine x_seq (fun K hK => ?_) | refine x_nil ?_ | refine x_block ?_ | refine x_skip ?_ | refine x_exit ?_ | refine x_ret ?_ | refine x_label ?_ | refine x_scope ?_ | (refine seq_ret ?_; clear hK K) | (refine seq_exit ?_; clear hK K) | refine block_normal ?_ | refine block_ret ?_ | refine block_exit ?_ | refine loop_exit ?_ | refine loop_ret ?_)
      | ((with_reducible refine x_reg_lit ?hq ?_); case hq => rfl)
      | ((first | (with_reducible first | refine x_op (fun K hK => ?_) | refine end_ret ?_ | refine end_normal ?_) | ((with_reducible refine x_guard_yes ?hy (fun K hK => ?_)); case hy => rfl)); simp only [go_sem, Int.cast_ofNat_Int, Nat.reduceEqDiff, Nat.reduceAdd, Nat.reduceMul, Nat.reduceLeDiff, Nat.reduceLT, Int.reduceLT, Int.reduceLE, Int.reduceEq, Int.reduceNeg, Int.reduceToNat, Nat.reducePow, reduceIte, reduceCtorEq, i7, i0, ca, hlt])
      | ((with_reducible first | refine x_guard_no ?hy ?_ | refine x_cond_true ?hy ?_); case hy => rfl)
      | ((with_reducible first | refine x_guard_none ?hy ?_ | refine x_cond_false ?hy ?_); case hy => rfl)
      | ((with_reducible refine block_exit_ne ?hy ?_); case hy => decide))
    refine x_loop (fun m e' H' => ∃ k : Nat, H' = H1 ∧ e' 12 = .int .i64 (k : Nat) ∧ k ≤ xs.length ∧ m = xs.length - k) xs.length ⟨0, rfl, rfl, Nat.zero_le _, rfl⟩ ?_
    rintro m e2 H2 ⟨k, rfl, i8, hk8, rfl⟩ hoff
    have i0 := (hoff 0 rfl).trans i0
    have i7 := (hoff 11 rfl).trans i7
    clear hoff
    by_cases hkl : k < xs.length
    · obtain ⟨x, hxk⟩ : ∃ x, xs[k]? = some x := ⟨_, List.getElem?_eq_getElem hkl⟩
      obtain ⟨b, n, rfl, hv, c2⟩ := o1.at hxk
      simp only [Value.slice.injEq, true_and] at hv
      obtain ⟨rfl, rfl⟩ := hv
      have hxe : x = -1 - (i : Int) := hk i xs hlt hx x (List.mem_of_getElem? hxk)
      have ewk : IntKind.i64.wrap ((k : Int) + 1) = ((k + 1 : Nat) : Int) := by rw [wrap_i64] <;> omega
      have t2 : (x != -1 - (i : Int)) = false := by simp [hxe]
      repeat' (first
        | (with_reducible first | refine seq_normal ?_ | (refine hK _ _ ?_; clear hK K) | refine x_seq (fun K hK => ?_) | refine x_nil ?_ | refine x_block ?_ | refine x_skip ?_ | refine x_exit ?_ | refine x_ret ?_ | refine x_label ?_ | refine x_scope ?_ | (refine seq_ret ?_; clear hK K) | (refine seq_exit ?_; clear hK K) | refine block_normal ?_ | refine block_ret ?_ | refine block_exit ?_ | refine loop_exit ?_ | refine loop_ret ?_)
        | ((with_reducible refine x_reg_lit ?hq ?_); case hq => rfl)
        | ((first | (with_reducible first | refine x_op (fun K hK => ?_) | refine end_ret ?_ | refine end_normal ?_) | ((with_reducible refine x_guard_yes ?hy (fun K hK => ?_)); case hy => rfl)); simp only [go_sem, Int.cast_ofNat_Int, Nat.reduceEqDiff, Nat.reduceAdd, Nat.reduceMul, Nat.reduceLeDiff, Nat.reduceLT, Int.reduceLT, Int.reduceLE, Int.reduceEq, Int.reduceNeg, Int.reduceToNat, Nat.reducePow, reduceIte, reduceCtorEq, i7, i8, i0, ca, hlt, c1, hkl, c2, ey, t2, ewk])
        | ((with_reducible first | refine x_guard_no ?hy ?_ | refine x_cond_true ?hy ?_); case hy => rfl)
        | ((with_reducible first | refine x_guard_none ?hy ?_ | refine x_cond_false ?hy ?_); case hy => rfl)
        | ((with_reducible refine block_exit_ne ?hy ?_); case hy => decide))
      exact loop_normal (m' := xs.length - (k + 1)) (by omega) ⟨k + 1, rfl, rfl, hkl, rfl⟩
    · have t1 : (k < xs.length) = False := by simp [hkl]
      repeat' (first
        | (with_reducible first | refine seq_normal ?_ | (refine hK _ _ ?_; clear hK K) | refine x_seq (fun K hK => ?_) | refine x_nil ?_ | refine x_block ?_ | refine x_skip ?_ | refine x_exit ?_ | refine x_ret ?_ | refine x_label ?_ | refine x_scope ?_ | (refine seq_ret ?_; clear hK K) | (refine seq_exit ?_; clear hK K) | refine block_normal ?_ | refine block_ret ?_ | refine block_exit ?_ | refine loop_exit ?_ | refine loop_ret ?_)
        | ((with_reducible refine x_reg_lit ?hq ?_); case hq => rfl)
        | ((first | (with_reducible first | refine x_op (fun K hK => ?_) | refine end_ret ?_ | refine end_normal ?_) | ((with_reducible refine x_guard_yes ?hy (fun K hK => ?_)); case hy => rfl)); simp only [go_sem, Int.cast_ofNat_Int, Nat.reduceEqDiff, Nat.reduceAdd, Nat.reduceMul, Nat.reduceLeDiff, Nat.reduceLT, Int.reduceLT, Int.reduceLE, Int.reduceEq, Int.reduceNeg, Int.reduceToNat, Nat.reducePow, reduceIte, reduceCtorEq, i7, i8, i0, ca, hlt, c1, t1, ew])
        | ((with_reducible first | refine x_guard_no ?hy ?_ | refine x_cond_true ?hy ?_); case hy => rfl)
        | ((with_reducible first | refine x_guard_none ?hy ?_ | refine x_cond_false ?hy ?_); case hy => rfl)
        | ((with_reducible refine block_exit_ne ?hy ?_); case hy => decide))
      exact loop_normal (m' := L.length - (i + 1)) (by omega) ⟨i + 1, rfl, rfl, hlt, rfl⟩
  · have t1 : (i < L.length) = False := by simp [hlt]
    obtain ⟨a, c, rfl⟩ := hL.slice
    repeat' (first
      | (with_reducible first | refine seq_normal ?_ | (refine hK _ _ ?_; clear hK K) | refine x_seq (fun K hK => ?_) | refine x_nil ?_ | refine x_block ?_ | refine x_skip ?_ | refine x_exit ?_ | refine x_ret ?_ | refine x_label ?_ | refine x_scope ?_ | (refine seq_ret ?_; clear hK K) | (refine seq_exit ?_; clear hK K) | refine block_normal ?_ | refine block_ret ?_ | refine block_exit ?_ | refine loop_exit ?_ | refine loop_ret ?_)
      | ((with_reducible refine x_reg_lit ?hq ?_); case hq => rfl)
      | ((first | (with_reducible first | refine x_op (fun K hK => ?_) | refine end_ret ?_ | refine end_normal ?_) | ((with_reducible refine x_guard_yes ?hy (fun K hK => ?_)); case hy => rfl)); simp only [go_sem, Int.cast_ofNat_Int, Nat.reduceEqDiff, Nat.reduceAdd, Nat.reduceMul, Nat.reduceLeDiff, Nat.reduceLT, Int.reduceLT, Int.reduceLE, Int.reduceEq, Int.reduceNeg, Int.reduceToNat, Nat.reducePow, reduceIte, reduceCtorEq, i7, i0, ca, t1])
      | ((with_reducible first | refine x_guard_no ?hy ?_ | refine x_cond_true ?hy ?_); case hy => rfl)
      | ((with_reducible first | refine x_guard_none ?hy ?_ | refine x_cond_false ?hy ?_); case hy => rfl)
      | ((with_reducible refine block_exit_ne ?hy ?_); case hy => decide))
    exact fin _ i0
end Go.Proofs.YtdhepjcdlkahnaaDoor.LsVs
