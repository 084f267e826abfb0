/-
  Splay forests for whoever uses them: Make, Free, Set.
-/
import Derived.Test.YtndkbhlfbeiniaaSpQ
namespace Go.Proofs.Ytndkbhlfbeiniaa
open Go Go.Hp Go.Sp
set_option linter.all false
set_option maxRecDepth 100000
set_option maxHeartbeats 1600000

section
variable {H H' : Heap} {f : Nat} {T : Nat → Prop} {S : Sq} {K : Value → Heap → Prop} {k : Nat} {R : List (List Nat)}
/-- Put of a pointer into the nodes' arena. -/
theorem put_ptr {p g : Nat} {A : Ar} {b : Nat} (hA : ArAt H p g 1 [.pointer none] A) (hm : A.many < A.room)
    (hk : ∀ H' g' A', ArAt H' p g' 1 [.pointer none] A' → A.get (A.free.headD A.vals.length) = none → 1 ≤ A.free.headD A.vals.length → A'.room = A.room → A'.free = A.free.tail → A'.vals.length = (if A.free = [] then A.vals.length + 1 else A.vals.length) →
      (∀ i, A'.get i = if i = A.free.headD A.vals.length then some [.pointer (some ⟨b, 0, none⟩)] else A.get i) → Fr (fun b => b = g ∨ b = p) H H' → (g' = g ∨ H.size ≤ g') → K (.tuple #[.int .i64 (A.free.headD A.vals.length : Nat), .int .i64 0]) H') :
    CallsH Try.prog 44 #[.pointer (some ⟨p, 0, none⟩), .pointer (some ⟨b, 0, none⟩)] H K := by
  have hcf := Ar.count_free A hA.ok
  cases hf : A.free with
  | nil =>
    rw [hf] at hk
    simp only [List.headD_nil, List.tail_nil, if_true] at hk
    refine ArQPtr.put_new (v := some ⟨b, 0, none⟩) hA hm hf fun H' g' hA' hfr hg => hk H' g' _ hA' ?_ ?_ rfl hf (by simp [Ar.putNew]) (fun i => Ar.get_putNew i) hfr hg
    · unfold Ar.get; rw [List.getElem?_eq_none (Nat.le_refl _)]; rfl
    · omega
  | cons h fs =>
    obtain ⟨h1, h2, h3⟩ := (hA.ok.mem h).1 (by rw [hf]; exact .head _)
    rw [hf] at hk
    simp only [List.headD_cons, List.tail_cons, reduceCtorEq, if_false] at hk
    exact ArQPtr.put_old (v := some ⟨b, 0, none⟩) hA hm hf fun H' hA' hfr => hk H' g _ hA' h3 h1 rfl (by simp [Ar.putOld, hf]) (by simp [Ar.putOld]) (fun i => Ar.get_putOld hA.ok hf i) hfr (.inl rfl)
theorem make_ok {x : Sp.Item} (hM : FoM H f T S) (hx : Fits x) (hx2 : May x) (hr : S.rows.flatten.length < S.room)
    (fin : ∀ H' T', FoM H' f T' (S.made x) → Fr T H H' → (∀ b, T' b → T b ∨ H.size ≤ b) → (∀ b, T b → T' b) → K (.tuple #[.int .i64 (S.next : Nat), .int .i64 0]) H') :
    CallsH Try.prog 21 #[.pointer (some ⟨f, 0, none⟩), x.val] H K := by
  have hb : mayB x = true := mayB_iff.2 hx2
  obtain ⟨p, g, A, nb, N, hF, h2, h3, h4, h5, h6⟩ := hM
  have hmany := hF.many
  simp only [] at hmany
  refine call21 (by simp) ?_
  simp only [Try.f21, Option.getD_some]
  repeat' (first
    | (with_reducible first | refine seq_normal ?_ | (refine hK _ _ ?_; clear hK K) | refine x_seq (fun K hK => ?_) | refine x_nil ?_ | refine x_block ?_ | refine x_skip ?_ | refine x_exit ?_ | refine x_ret ?_ | refine x_label ?_ | refine x_scope ?_ | (refine seq_ret ?_; clear hK K) | (refine seq_exit ?_; clear hK K) | refine block_normal ?_ | refine block_ret ?_ | refine block_exit ?_ | refine loop_exit ?_ | refine loop_ret ?_)
    | ((with_reducible refine x_reg_lit ?hq ?_); case hq => rfl)
    | ((first | (with_reducible first | refine x_op (fun K hK => ?_) | refine end_ret ?_ | refine end_normal ?_) | ((with_reducible refine x_guard_yes ?hy (fun K hK => ?_)); case hy => rfl)); simp only [go_sem, Int.cast_ofNat_Int, Nat.reduceEqDiff, Nat.reduceAdd, Nat.reduceMul, Nat.reduceLeDiff, Nat.reduceLT, Int.reduceLT, Int.reduceLE, Int.reduceEq, Int.reduceNeg, Int.reduceToNat, Nat.reducePow, reduceIte, reduceCtorEq, Sp.Item.val, hcell_push, hcell_top, okW_push, okW_top, hcell_hset_ne, hcell_hset_off, hcell_hset_eq, okW_hset, hset_size, Array.size_push, Nat.lt_add_one, ne_add_one, add_one_ne, Nat.add_assoc, add_same, add_lt_same, Nat.reduceEqDiff, lt_add_k, add_k_ne, ne_add_k])
    | ((with_reducible first | refine x_guard_no ?hy ?_ | refine x_cond_true ?hy ?_); case hy => rfl)
    | ((with_reducible first | refine x_guard_none ?hy ?_ | refine x_cond_false ?hy ?_); case hy => rfl)
    | ((with_reducible refine block_exit_ne ?hy ?_); case hy => decide))
  refine may_ok hx ?_
  intro H1 hf1
  have hf01 : Fr (fun _ => False) H H1 := Fr.trans ((Fr.refl _ _).push _) hf1
  have hx1 : Cells [(H.size, 0, .int .i64 x.value), (H.size, 1, .bool x.counts), (H.size, 2, .int .i64 x.flags)] H1 := by
    refine Cells.grow (H := H.push (.cells #[.int .i64 x.value, .bool x.counts, .int .i64 x.flags] 31)) ?_ hf1
    simp only [go_sem, Int.cast_ofNat_Int, Nat.reduceEqDiff, Nat.reduceAdd, Nat.reduceMul, Nat.reduceLeDiff, Nat.reduceLT, Int.reduceLT, Int.reduceLE, Int.reduceEq, Int.reduceNeg, Int.reduceToNat, Nat.reducePow, reduceIte, reduceCtorEq, Cells, and_true, hcell_push, hcell_top, okW_push, okW_top, hcell_hset_ne, hcell_hset_off, hcell_hset_eq, okW_hset, hset_size, Array.size_push, Nat.lt_add_one, ne_add_one, add_one_ne, Nat.add_assoc, add_same, add_lt_same, Nat.reduceEqDiff, lt_add_k, add_k_ne, ne_add_k]
  simp only [Cells, and_true] at hx1
  have hs1 := hf01.size
  rw [hb]
  repeat' (first
    | (with_reducible first | refine seq_normal ?_ | (refine hK _ _ ?_; clear hK K) | refine x_seq (fun K hK => ?_) | refine x_nil ?_ | refine x_block ?_ | refine x_skip ?_ | refine x_exit ?_ | refine x_ret ?_ | refine x_label ?_ | refine x_scope ?_ | (refine seq_ret ?_; clear hK K) | (refine seq_exit ?_; clear hK K) | refine block_normal ?_ | refine block_ret ?_ | refine block_exit ?_ | refine loop_exit ?_ | refine loop_ret ?_)
    | ((with_reducible refine x_reg_lit ?hq ?_); case hq => rfl)
    | ((first | (with_reducible first | refine x_op (fun K hK => ?_) | refine end_ret ?_ | refine end_normal ?_) | ((with_reducible refine x_guard_yes ?hy (fun K hK => ?_)); case hy => rfl)); simp only [go_sem, Int.cast_ofNat_Int, Nat.reduceEqDiff, Nat.reduceAdd, Nat.reduceMul, Nat.reduceLeDiff, Nat.reduceLT, Int.reduceLT, Int.reduceLE, Int.reduceEq, Int.reduceNeg, Int.reduceToNat, Nat.reducePow, reduceIte, reduceCtorEq, Sp.Item.val, hx1, hcell_push, hcell_top, okW_push, okW_top, hcell_hset_ne, hcell_hset_off, hcell_hset_eq, okW_hset, hset_size, Array.size_push, Nat.lt_add_one, ne_add_one, add_one_ne, Nat.add_assoc, add_same, add_lt_same, Nat.reduceEqDiff, lt_add_k, add_k_ne, ne_add_k])
    | ((with_reducible first | refine x_guard_no ?hy ?_ | refine x_cond_true ?hy ?_); case hy => rfl)
    | ((with_reducible first | refine x_guard_none ?hy ?_ | refine x_cond_false ?hy ?_); case hy => rfl)
    | ((with_reducible refine block_exit_ne ?hy ?_); case hy => decide))
  have hF1 := hF.grow hf01
  have hb2 : Blk (H1.push (.cells #[.int .i64 x.value, .bool x.counts, .int .i64 x.flags, .int .i64 0, .int .i64 0, .int .i64 0, .int .i64 1, .int .i64 0, .int .i64 0, .int .i64 0, .int .i64 0, .int .i64 0] 81)) H1.size (Rec.mk x 0 0 0 1 Agg.zero).cells := Blk.new H1 _ _
  generalize hH2 : H1.push _ = H2 at hb2 ⊢
  have hf2 : Fr (fun _ => False) H1 H2 := by rw [← hH2]; exact (Fr.refl _ _).push _
  have hs2 : H1.size < H2.size := by rw [← hH2]; simp
  refine own_ok hb2 ?_
  intro H3 hf3
  have hb3 := hb2.frame hf3 (fun h => h)
  have w7 := hb3.okW (i := 7) (by simp [Rec.cells])
  have w8 := hb3.okW (i := 8) (by simp [Rec.cells])
  have w9 := hb3.okW (i := 9) (by simp [Rec.cells])
  have w10 := hb3.okW (i := 10) (by simp [Rec.cells])
  have w11 := hb3.okW (i := 11) (by simp [Rec.cells])
  have hs3 := hf3.size
  have hfl : f < H.size := hF.mem.ff.lt
  have hne : ¬ f = H1.size := by omega
  have c0 := ((hF1.grow hf2).grow hf3).mem.ff.cellOf (i := 0) rfl
  repeat' (first
    | (with_reducible first | refine seq_normal ?_ | (refine hK _ _ ?_; clear hK K) | refine x_seq (fun K hK => ?_) | refine x_nil ?_ | refine x_block ?_ | refine x_skip ?_ | refine x_exit ?_ | refine x_ret ?_ | refine x_label ?_ | refine x_scope ?_ | (refine seq_ret ?_; clear hK K) | (refine seq_exit ?_; clear hK K) | refine block_normal ?_ | refine block_ret ?_ | refine block_exit ?_ | refine loop_exit ?_ | refine loop_ret ?_)
    | ((with_reducible refine x_reg_lit ?hq ?_); case hq => rfl)
    | ((first | (with_reducible first | refine x_op (fun K hK => ?_) | refine end_ret ?_ | refine end_normal ?_) | ((with_reducible refine x_guard_yes ?hy (fun K hK => ?_)); case hy => rfl)); simp only [go_sem, Int.cast_ofNat_Int, Nat.reduceEqDiff, Nat.reduceAdd, Nat.reduceMul, Nat.reduceLeDiff, Nat.reduceLT, Int.reduceLT, Int.reduceLE, Int.reduceEq, Int.reduceNeg, Int.reduceToNat, Nat.reducePow, reduceIte, reduceCtorEq, Agg.val, w7, w8, w9, w10, w11, okW_hset, hcell_hset_ne, hne, c0, not_false_eq_true])
    | ((with_reducible first | refine x_guard_no ?hy ?_ | refine x_cond_true ?hy ?_); case hy => rfl)
    | ((with_reducible first | refine x_guard_none ?hy ?_ | refine x_cond_false ?hy ?_); case hy => rfl)
    | ((with_reducible refine block_exit_ne ?hy ?_); case hy => decide))
  have hb4 : Blk (hset (hset (hset (hset (hset H3 ⟨H1.size, 7, none⟩ (.int .i64 (ownA x).count)) ⟨H1.size, 8, none⟩ (.int .i64 (ownA x).sum)) ⟨H1.size, 9, none⟩ (.int .i64 (ownA x).least)) ⟨H1.size, 10, none⟩ (.int .i64 (ownA x).most)) ⟨H1.size, 11, none⟩ (.int .i64 (ownA x).flags)) H1.size (Rec.mk x 0 0 0 1 (ownA x)).cells :=
    ((((hb3.set_same 7 (.int .i64 (ownA x).count)).set_same 8 (.int .i64 (ownA x).sum)).set_same 9 (.int .i64 (ownA x).least)).set_same 10 (.int .i64 (ownA x).most)).set_same 11 (.int .i64 (ownA x).flags)
  have hf4 : Fr (fun _ => False) H1 (hset (hset (hset (hset (hset H3 ⟨H1.size, 7, none⟩ (.int .i64 (ownA x).count)) ⟨H1.size, 8, none⟩ (.int .i64 (ownA x).sum)) ⟨H1.size, 9, none⟩ (.int .i64 (ownA x).least)) ⟨H1.size, 10, none⟩ (.int .i64 (ownA x).most)) ⟨H1.size, 11, none⟩ (.int .i64 (ownA x).flags)) := by
    have step : ∀ {H' : Heap} (o : Nat) (v : Value), Fr (fun _ => False) H1 H' → Fr (fun _ => False) H1 (hset H' ⟨H1.size, o, none⟩ v) := fun o v h => Fr.set (S := fun _ => False) (a := ⟨H1.size, o, none⟩) h (.inr (Nat.le_refl _)) v
    exact step 11 _ (step 10 _ (step 9 _ (step 8 _ (step 7 _ (hf2.trans hf3)))))
  generalize hset (hset (hset (hset (hset H3 ⟨H1.size, 7, none⟩ (.int .i64 (ownA x).count)) ⟨H1.size, 8, none⟩ (.int .i64 (ownA x).sum)) ⟨H1.size, 9, none⟩ (.int .i64 (ownA x).least)) ⟨H1.size, 10, none⟩ (.int .i64 (ownA x).most)) ⟨H1.size, 11, none⟩ (.int .i64 (ownA x).flags) = H4 at hb4 hf4 ⊢
  have hF4 := hF1.grow hf4
  have hnl : ∀ i, U A i → nb i ≠ H1.size := fun i hi => by have := (hF1.mem.nd i hi).lt; omega
  obtain ⟨cc, rest, q1, q2, _⟩ := hF1.mem.ar.at_
  have hpl := q1.lt
  have hgl := q2.lt
  refine put_ptr hF4.mem.ar (by rw [h2, ← hmany]; exact hr) ?_
  intro H5 g5 A5 hA5 hn5 h15 hr5 hfr5 hl5 hg5 hf5 hgg5
  have hF5 := hF4.made hx2 h15 hb4 hnl (by omega) hA5 hn5 hg5 hf5 hgg5
  have enext : S.next = A.free.headD A.vals.length := by unfold Sq.next; rw [← h4, ← h3]
  rw [← enext] at hF5 hg5
  rw [← enext]
  repeat' (first
    | (with_reducible first | refine seq_normal ?_ | (refine hK _ _ ?_; clear hK K) | refine x_seq (fun K hK => ?_) | refine x_nil ?_ | refine x_block ?_ | refine x_skip ?_ | refine x_exit ?_ | refine x_ret ?_ | refine x_label ?_ | refine x_scope ?_ | (refine seq_ret ?_; clear hK K) | (refine seq_exit ?_; clear hK K) | refine block_normal ?_ | refine block_ret ?_ | refine block_exit ?_ | refine loop_exit ?_ | refine loop_ret ?_)
    | ((with_reducible refine x_reg_lit ?hq ?_); case hq => rfl)
    | ((first | (with_reducible first | refine x_op (fun K hK => ?_) | refine end_ret ?_ | refine end_normal ?_) | ((with_reducible refine x_guard_yes ?hy (fun K hK => ?_)); case hy => rfl)); simp only [go_sem, Int.cast_ofNat_Int, Nat.reduceEqDiff, Nat.reduceAdd, Nat.reduceMul, Nat.reduceLeDiff, Nat.reduceLT, Int.reduceLT, Int.reduceLE, Int.reduceEq, Int.reduceNeg, Int.reduceToNat, Nat.reducePow, reduceIte, reduceCtorEq])
    | ((with_reducible first | refine x_guard_no ?hy ?_ | refine x_cond_true ?hy ?_); case hy => rfl)
    | ((with_reducible first | refine x_guard_none ?hy ?_ | refine x_cond_false ?hy ?_); case hy => rfl)
    | ((with_reducible refine block_exit_ne ?hy ?_); case hy => decide))
  have hs4 := hf4.size
  have hb4l := hb4.lt
  have hs5 := hf5.size
  refine fin H5 (fun b => T b ∨ (H.size ≤ b ∧ b < H5.size)) ⟨p, g5, A5, _, _, hF5, by rw [hr5, h2]; rfl, ?_, by rw [hfr5, h4]; rfl, ?_, ?_⟩ ?_ ?_ (fun b hb => .inl hb)
  · rw [hl5, h4, h3]; rfl
  · rintro b (rfl | rfl | rfl | ⟨i, hi, rfl⟩)
    · exact .inl (h5 _ (.inl rfl))
    · exact .inl (h5 _ (.inr (.inl rfl)))
    · rcases hgg5 with rfl | hgg
      · exact .inl (h5 _ (.inr (.inr (.inl rfl))))
      · refine .inr ⟨by omega, ?_⟩
        obtain ⟨_, _, _, q2', _⟩ := hF5.mem.ar.at_
        exact q2'.lt
    · by_cases e : i = S.next
      · simp only [e, if_true]
        exact .inr ⟨by omega, by omega⟩
      · simp only [e, if_false]
        refine .inl (h5 _ (.inr (.inr (.inr ⟨i, ?_, rfl⟩))))
        unfold U at hi ⊢
        rw [hg5, if_neg e] at hi
        exact hi
  · rintro b (hb | hb)
    · have := h6 b hb; omega
    · exact hb.2
  · refine (hf01.trans hf4).mono (S' := T) (fun _ _ h => h.elim) |>.trans' hf5 fun b hb e => ?_
    rcases e with rfl | rfl
    · exact h5 _ (.inr (.inr (.inl rfl)))
    · exact h5 _ (.inr (.inl rfl))
  · rintro b (hb | hb)
    · exact .inl hb
    · exact .inr hb.1
theorem make_full {x : Sp.Item} (hM : FoM H f T S) (hx : Fits x) (hx2 : May x) (hr : S.rows.flatten.length = S.room) (fin : ∀ H', Fr (fun _ => False) H H' → K (.tuple #[.int .i64 0, .int .i64 30]) H') :
    CallsH Try.prog 21 #[.pointer (some ⟨f, 0, none⟩), x.val] H K := by
  have hb : mayB x = true := mayB_iff.2 hx2
  obtain ⟨p, g, A, nb, N, hF, h2, h3, h4, h5, h6⟩ := hM
  have hmany := hF.many
  simp only [] at hmany
  refine call21 (by simp) ?_
  simp only [Try.f21, Option.getD_some]
  repeat' (first
    | (with_reducible first | refine seq_normal ?_ | (refine hK _ _ ?_; clear hK K) | refine x_seq (fun K hK => ?_) | refine x_nil ?_ | refine x_block ?_ | refine x_skip ?_ | refine x_exit ?_ | refine x_ret ?_ | refine x_label ?_ | refine x_scope ?_ | (refine seq_ret ?_; clear hK K) | (refine seq_exit ?_; clear hK K) | refine block_normal ?_ | refine block_ret ?_ | refine block_exit ?_ | refine loop_exit ?_ | refine loop_ret ?_)
    | ((with_reducible refine x_reg_lit ?hq ?_); case hq => rfl)
    | ((first | (with_reducible first | refine x_op (fun K hK => ?_) | refine end_ret ?_ | refine end_normal ?_) | ((with_reducible refine x_guard_yes ?hy (fun K hK => ?_)); case hy => rfl)); simp only [go_sem, Int.cast_ofNat_Int, Nat.reduceEqDiff, Nat.reduceAdd, Nat.reduceMul, Nat.reduceLeDiff, Nat.reduceLT, Int.reduceLT, Int.reduceLE, Int.reduceEq, Int.reduceNeg, Int.reduceToNat, Nat.reducePow, reduceIte, reduceCtorEq, Sp.Item.val, hcell_push, hcell_top, okW_push, okW_top, hcell_hset_ne, hcell_hset_off, hcell_hset_eq, okW_hset, hset_size, Array.size_push, Nat.lt_add_one, ne_add_one, add_one_ne, Nat.add_assoc, add_same, add_lt_same, Nat.reduceEqDiff, lt_add_k, add_k_ne, ne_add_k])
    | ((with_reducible first | refine x_guard_no ?hy ?_ | refine x_cond_true ?hy ?_); case hy => rfl)
    | ((with_reducible first | refine x_guard_none ?hy ?_ | refine x_cond_false ?hy ?_); case hy => rfl)
    | ((with_reducible refine block_exit_ne ?hy ?_); case hy => decide))
  refine may_ok hx ?_
  intro H1 hf1
  have hf01 : Fr (fun _ => False) H H1 := Fr.trans ((Fr.refl _ _).push _) hf1
  have hx1 : Cells [(H.size, 0, .int .i64 x.value), (H.size, 1, .bool x.counts), (H.size, 2, .int .i64 x.flags)] H1 := by
    refine Cells.grow (H := H.push (.cells #[.int .i64 x.value, .bool x.counts, .int .i64 x.flags] 31)) ?_ hf1
    simp only [go_sem, Int.cast_ofNat_Int, Nat.reduceEqDiff, Nat.reduceAdd, Nat.reduceMul, Nat.reduceLeDiff, Nat.reduceLT, Int.reduceLT, Int.reduceLE, Int.reduceEq, Int.reduceNeg, Int.reduceToNat, Nat.reducePow, reduceIte, reduceCtorEq, Cells, and_true, hcell_push, hcell_top, okW_push, okW_top, hcell_hset_ne, hcell_hset_off, hcell_hset_eq, okW_hset, hset_size, Array.size_push, Nat.lt_add_one, ne_add_one, add_one_ne, Nat.add_assoc, add_same, add_lt_same, Nat.reduceEqDiff, lt_add_k, add_k_ne, ne_add_k]
  simp only [Cells, and_true] at hx1
  have hs1 := hf01.size
  rw [hb]
  repeat' (first
    | (with_reducible first | refine seq_normal ?_ | (refine hK _ _ ?_; clear hK K) | refine x_seq (fun K hK => ?_) | refine x_nil ?_ | refine x_block ?_ | refine x_skip ?_ | refine x_exit ?_ | refine x_ret ?_ | refine x_label ?_ | refine x_scope ?_ | (refine seq_ret ?_; clear hK K) | (refine seq_exit ?_; clear hK K) | refine block_normal ?_ | refine block_ret ?_ | refine block_exit ?_ | refine loop_exit ?_ | refine loop_ret ?_)
    | ((with_reducible refine x_reg_lit ?hq ?_); case hq => rfl)
    | ((first | (with_reducible first | refine x_op (fun K hK => ?_) | refine end_ret ?_ | refine end_normal ?_) | ((with_reducible refine x_guard_yes ?hy (fun K hK => ?_)); case hy => rfl)); simp only [go_sem, Int.cast_ofNat_Int, Nat.reduceEqDiff, Nat.reduceAdd, Nat.reduceMul, Nat.reduceLeDiff, Nat.reduceLT, Int.reduceLT, Int.reduceLE, Int.reduceEq, Int.reduceNeg, Int.reduceToNat, Nat.reducePow, reduceIte, reduceCtorEq, Sp.Item.val, hx1, hcell_push, hcell_top, okW_push, okW_top, hcell_hset_ne, hcell_hset_off, hcell_hset_eq, okW_hset, hset_size, Array.size_push, Nat.lt_add_one, ne_add_one, add_one_ne, Nat.add_assoc, add_same, add_lt_same, Nat.reduceEqDiff, lt_add_k, add_k_ne, ne_add_k])
    | ((with_reducible first | refine x_guard_no ?hy ?_ | refine x_cond_true ?hy ?_); case hy => rfl)
    | ((with_reducible first | refine x_guard_none ?hy ?_ | refine x_cond_false ?hy ?_); case hy => rfl)
    | ((with_reducible refine block_exit_ne ?hy ?_); case hy => decide))
  have hF1 := hF.grow hf01
  have hb2 : Blk (H1.push (.cells #[.int .i64 x.value, .bool x.counts, .int .i64 x.flags, .int .i64 0, .int .i64 0, .int .i64 0, .int .i64 1, .int .i64 0, .int .i64 0, .int .i64 0, .int .i64 0, .int .i64 0] 81)) H1.size (Rec.mk x 0 0 0 1 Agg.zero).cells := Blk.new H1 _ _
  generalize hH2 : H1.push _ = H2 at hb2 ⊢
  have hf2 : Fr (fun _ => False) H1 H2 := by rw [← hH2]; exact (Fr.refl _ _).push _
  refine own_ok hb2 ?_
  intro H3 hf3
  have hb3 := hb2.frame hf3 (fun h => h)
  have w7 := hb3.okW (i := 7) (by simp [Rec.cells])
  have w8 := hb3.okW (i := 8) (by simp [Rec.cells])
  have w9 := hb3.okW (i := 9) (by simp [Rec.cells])
  have w10 := hb3.okW (i := 10) (by simp [Rec.cells])
  have w11 := hb3.okW (i := 11) (by simp [Rec.cells])
  have hfl : f < H.size := hF.mem.ff.lt
  have hne : ¬ f = H1.size := by omega
  have c0 := ((hF1.grow hf2).grow hf3).mem.ff.cellOf (i := 0) rfl
  repeat' (first
    | (with_reducible first | refine seq_normal ?_ | (refine hK _ _ ?_; clear hK K) | refine x_seq (fun K hK => ?_) | refine x_nil ?_ | refine x_block ?_ | refine x_skip ?_ | refine x_exit ?_ | refine x_ret ?_ | refine x_label ?_ | refine x_scope ?_ | (refine seq_ret ?_; clear hK K) | (refine seq_exit ?_; clear hK K) | refine block_normal ?_ | refine block_ret ?_ | refine block_exit ?_ | refine loop_exit ?_ | refine loop_ret ?_)
    | ((with_reducible refine x_reg_lit ?hq ?_); case hq => rfl)
    | ((first | (with_reducible first | refine x_op (fun K hK => ?_) | refine end_ret ?_ | refine end_normal ?_) | ((with_reducible refine x_guard_yes ?hy (fun K hK => ?_)); case hy => rfl)); simp only [go_sem, Int.cast_ofNat_Int, Nat.reduceEqDiff, Nat.reduceAdd, Nat.reduceMul, Nat.reduceLeDiff, Nat.reduceLT, Int.reduceLT, Int.reduceLE, Int.reduceEq, Int.reduceNeg, Int.reduceToNat, Nat.reducePow, reduceIte, reduceCtorEq, Agg.val, w7, w8, w9, w10, w11, okW_hset, hcell_hset_ne, hne, c0, not_false_eq_true])
    | ((with_reducible first | refine x_guard_no ?hy ?_ | refine x_cond_true ?hy ?_); case hy => rfl)
    | ((with_reducible first | refine x_guard_none ?hy ?_ | refine x_cond_false ?hy ?_); case hy => rfl)
    | ((with_reducible refine block_exit_ne ?hy ?_); case hy => decide))
  have hf4 : Fr (fun _ => False) H1 (hset (hset (hset (hset (hset H3 ⟨H1.size, 7, none⟩ (.int .i64 (ownA x).count)) ⟨H1.size, 8, none⟩ (.int .i64 (ownA x).sum)) ⟨H1.size, 9, none⟩ (.int .i64 (ownA x).least)) ⟨H1.size, 10, none⟩ (.int .i64 (ownA x).most)) ⟨H1.size, 11, none⟩ (.int .i64 (ownA x).flags)) := by
    have step : ∀ {H' : Heap} (o : Nat) (v : Value), Fr (fun _ => False) H1 H' → Fr (fun _ => False) H1 (hset H' ⟨H1.size, o, none⟩ v) := fun o v h => Fr.set (S := fun _ => False) (a := ⟨H1.size, o, none⟩) h (.inr (Nat.le_refl _)) v
    exact step 11 _ (step 10 _ (step 9 _ (step 8 _ (step 7 _ (hf2.trans hf3)))))
  refine ArQPtr.put_full (v := some ⟨H1.size, 0, none⟩) (hF1.grow hf4).mem.ar (by rw [h2, ← hmany]; exact hr) ?_
  repeat' (first
    | (with_reducible first | refine seq_normal ?_ | (refine hK _ _ ?_; clear hK K) | refine x_seq (fun K hK => ?_) | refine x_nil ?_ | refine x_block ?_ | refine x_skip ?_ | refine x_exit ?_ | refine x_ret ?_ | refine x_label ?_ | refine x_scope ?_ | (refine seq_ret ?_; clear hK K) | (refine seq_exit ?_; clear hK K) | refine block_normal ?_ | refine block_ret ?_ | refine block_exit ?_ | refine loop_exit ?_ | refine loop_ret ?_)
    | ((with_reducible refine x_reg_lit ?hq ?_); case hq => rfl)
    | ((first | (with_reducible first | refine x_op (fun K hK => ?_) | refine end_ret ?_ | refine end_normal ?_) | ((with_reducible refine x_guard_yes ?hy (fun K hK => ?_)); case hy => rfl)); simp only [go_sem, Int.cast_ofNat_Int, Nat.reduceEqDiff, Nat.reduceAdd, Nat.reduceMul, Nat.reduceLeDiff, Nat.reduceLT, Int.reduceLT, Int.reduceLE, Int.reduceEq, Int.reduceNeg, Int.reduceToNat, Nat.reducePow, reduceIte, reduceCtorEq])
    | ((with_reducible first | refine x_guard_no ?hy ?_ | refine x_cond_true ?hy ?_); case hy => rfl)
    | ((with_reducible first | refine x_guard_none ?hy ?_ | refine x_cond_false ?hy ?_); case hy => rfl)
    | ((with_reducible refine block_exit_ne ?hy ?_); case hy => decide))
  exact fin _ (hf01.trans hf4)
theorem free_none {i : Int} (hM : FoM H f T S) (hi : ¬ S.Has i) (fin : K (.int .i64 31) H) : CallsH Try.prog 22 #[.pointer (some ⟨f, 0, none⟩), .int .i64 i] H K := by
  obtain ⟨p, g, A, nb, N, hF, h2, h3, h4, h5, h6⟩ := hM
  refine call22 (by simp) ?_
  simp only [Try.f22, Option.getD_some]
  repeat' (first
    | (with_reducible first | refine seq_normal ?_ | (refine hK _ _ ?_; clear hK K) | refine x_seq (fun K hK => ?_) | refine x_nil ?_ | refine x_block ?_ | refine x_skip ?_ | refine x_exit ?_ | refine x_ret ?_ | refine x_label ?_ | refine x_scope ?_ | (refine seq_ret ?_; clear hK K) | (refine seq_exit ?_; clear hK K) | refine block_normal ?_ | refine block_ret ?_ | refine block_exit ?_ | refine loop_exit ?_ | refine loop_ret ?_)
    | ((with_reducible refine x_reg_lit ?hq ?_); case hq => rfl)
    | ((first | (with_reducible first | refine x_op (fun K hK => ?_) | refine end_ret ?_ | refine end_normal ?_) | ((with_reducible refine x_guard_yes ?hy (fun K hK => ?_)); case hy => rfl)); simp only [go_sem, Int.cast_ofNat_Int, Nat.reduceEqDiff, Nat.reduceAdd, Nat.reduceMul, Nat.reduceLeDiff, Nat.reduceLT, Int.reduceLT, Int.reduceLE, Int.reduceEq, Int.reduceNeg, Int.reduceToNat, Nat.reducePow, reduceIte, reduceCtorEq])
    | ((with_reducible first | refine x_guard_no ?hy ?_ | refine x_cond_true ?hy ?_); case hy => rfl)
    | ((with_reducible first | refine x_guard_none ?hy ?_ | refine x_cond_false ?hy ?_); case hy => rfl)
    | ((with_reducible refine block_exit_ne ?hy ?_); case hy => decide))
  refine node_no hF.mem (hF.none hi) ?_
  repeat' (first
    | (with_reducible first | refine seq_normal ?_ | (refine hK _ _ ?_; clear hK K) | refine x_seq (fun K hK => ?_) | refine x_nil ?_ | refine x_block ?_ | refine x_skip ?_ | refine x_exit ?_ | refine x_ret ?_ | refine x_label ?_ | refine x_scope ?_ | (refine seq_ret ?_; clear hK K) | (refine seq_exit ?_; clear hK K) | refine block_normal ?_ | refine block_ret ?_ | refine block_exit ?_ | refine loop_exit ?_ | refine loop_ret ?_)
    | ((with_reducible refine x_reg_lit ?hq ?_); case hq => rfl)
    | ((first | (with_reducible first | refine x_op (fun K hK => ?_) | refine end_ret ?_ | refine end_normal ?_) | ((with_reducible refine x_guard_yes ?hy (fun K hK => ?_)); case hy => rfl)); simp only [go_sem, Int.cast_ofNat_Int, Nat.reduceEqDiff, Nat.reduceAdd, Nat.reduceMul, Nat.reduceLeDiff, Nat.reduceLT, Int.reduceLT, Int.reduceLE, Int.reduceEq, Int.reduceNeg, Int.reduceToNat, Nat.reducePow, reduceIte, reduceCtorEq])
    | ((with_reducible first | refine x_guard_no ?hy ?_ | refine x_cond_true ?hy ?_); case hy => rfl)
    | ((with_reducible first | refine x_guard_none ?hy ?_ | refine x_cond_false ?hy ?_); case hy => rfl)
    | ((with_reducible refine block_exit_ne ?hy ?_); case hy => decide))
  exact fin
theorem free_busy {xs : List Nat} (hM : FoM H f T S) (hx : xs ∈ S.rows) (hk : k ∈ xs) (hl : 1 < xs.length) (fin : ∀ H', FoM H' f T S → Fr T H H' → K (.int .i64 32) H') : CallsH Try.prog 22 #[.pointer (some ⟨f, 0, none⟩), .int .i64 k] H K := by
  obtain ⟨p, g, A, nb, N, hF, h2, h3, h4, h5, h6⟩ := hM
  have hU := hF.u hx hk
  refine call22 (by simp) ?_
  simp only [Try.f22, Option.getD_some]
  repeat' (first
    | (with_reducible first | refine seq_normal ?_ | (refine hK _ _ ?_; clear hK K) | refine x_seq (fun K hK => ?_) | refine x_nil ?_ | refine x_block ?_ | refine x_skip ?_ | refine x_exit ?_ | refine x_ret ?_ | refine x_label ?_ | refine x_scope ?_ | (refine seq_ret ?_; clear hK K) | (refine seq_exit ?_; clear hK K) | refine block_normal ?_ | refine block_ret ?_ | refine block_exit ?_ | refine loop_exit ?_ | refine loop_ret ?_)
    | ((with_reducible refine x_reg_lit ?hq ?_); case hq => rfl)
    | ((first | (with_reducible first | refine x_op (fun K hK => ?_) | refine end_ret ?_ | refine end_normal ?_) | ((with_reducible refine x_guard_yes ?hy (fun K hK => ?_)); case hy => rfl)); simp only [go_sem, Int.cast_ofNat_Int, Nat.reduceEqDiff, Nat.reduceAdd, Nat.reduceMul, Nat.reduceLeDiff, Nat.reduceLT, Int.reduceLT, Int.reduceLE, Int.reduceEq, Int.reduceNeg, Int.reduceToNat, Nat.reducePow, reduceIte, reduceCtorEq])
    | ((with_reducible first | refine x_guard_no ?hy ?_ | refine x_cond_true ?hy ?_); case hy => rfl)
    | ((with_reducible first | refine x_guard_none ?hy ?_ | refine x_cond_false ?hy ?_); case hy => rfl)
    | ((with_reducible refine block_exit_ne ?hy ?_); case hy => decide))
  refine node_ok hF.mem hU ?_
  repeat' (first
    | (with_reducible first | refine seq_normal ?_ | (refine hK _ _ ?_; clear hK K) | refine x_seq (fun K hK => ?_) | refine x_nil ?_ | refine x_block ?_ | refine x_skip ?_ | refine x_exit ?_ | refine x_ret ?_ | refine x_label ?_ | refine x_scope ?_ | (refine seq_ret ?_; clear hK K) | (refine seq_exit ?_; clear hK K) | refine block_normal ?_ | refine block_ret ?_ | refine block_exit ?_ | refine loop_exit ?_ | refine loop_ret ?_)
    | ((with_reducible refine x_reg_lit ?hq ?_); case hq => rfl)
    | ((first | (with_reducible first | refine x_op (fun K hK => ?_) | refine end_ret ?_ | refine end_normal ?_) | ((with_reducible refine x_guard_yes ?hy (fun K hK => ?_)); case hy => rfl)); simp only [go_sem, Int.cast_ofNat_Int, Nat.reduceEqDiff, Nat.reduceAdd, Nat.reduceMul, Nat.reduceLeDiff, Nat.reduceLT, Int.reduceLT, Int.reduceLE, Int.reduceEq, Int.reduceNeg, Int.reduceToNat, Nat.reducePow, reduceIte, reduceCtorEq])
    | ((with_reducible first | refine x_guard_no ?hy ?_ | refine x_cond_true ?hy ?_); case hy => rfl)
    | ((with_reducible first | refine x_guard_none ?hy ?_ | refine x_cond_false ?hy ?_); case hy => rfl)
    | ((with_reducible refine block_exit_ne ?hy ?_); case hy => decide))
  refine splay_row hF hx hk (hF.apart hx) ?_
  intro H2 N2 a b hF2 ht e hf hoff
  have c6 := (hF2.mem.nd k hU).cellOf (i := 6) rfl
  have em : (N2 k).many = (xs.length : Int) := by
    obtain ⟨_, ek, _⟩ := ht
    rw [ek, ← e]; rfl
  rw [em] at c6
  have t1 : (1 < (xs.length : Int)) = True := by simp; omega
  repeat' (first
    | (with_reducible first | refine seq_normal ?_ | (refine hK _ _ ?_; clear hK K) | refine x_seq (fun K hK => ?_) | refine x_nil ?_ | refine x_block ?_ | refine x_skip ?_ | refine x_exit ?_ | refine x_ret ?_ | refine x_label ?_ | refine x_scope ?_ | (refine seq_ret ?_; clear hK K) | (refine seq_exit ?_; clear hK K) | refine block_normal ?_ | refine block_ret ?_ | refine block_exit ?_ | refine loop_exit ?_ | refine loop_ret ?_)
    | ((with_reducible refine x_reg_lit ?hq ?_); case hq => rfl)
    | ((first | (with_reducible first | refine x_op (fun K hK => ?_) | refine end_ret ?_ | refine end_normal ?_) | ((with_reducible refine x_guard_yes ?hy (fun K hK => ?_)); case hy => rfl)); simp only [go_sem, Int.cast_ofNat_Int, Nat.reduceEqDiff, Nat.reduceAdd, Nat.reduceMul, Nat.reduceLeDiff, Nat.reduceLT, Int.reduceLT, Int.reduceLE, Int.reduceEq, Int.reduceNeg, Int.reduceToNat, Nat.reducePow, reduceIte, reduceCtorEq, c6, t1])
    | ((with_reducible first | refine x_guard_no ?hy ?_ | refine x_cond_true ?hy ?_); case hy => rfl)
    | ((with_reducible first | refine x_guard_none ?hy ?_ | refine x_cond_false ?hy ?_); case hy => rfl)
    | ((with_reducible refine block_exit_ne ?hy ?_); case hy => decide))
  exact fin _ ⟨p, g, A, nb, N2, hF2, h2, h3, h4, h5, fun b hb => Nat.lt_of_lt_of_le (h6 b hb) hf.size⟩ (hf.mono fun b _ hb => h5 b (.inr (.inr (.inr hb))))
theorem free_ok (hM : FoM H f T S) (hr : S.rows.Perm ([k] :: R)) (fin : ∀ H', FoM H' f T (S.freed k R) → Fr T H H' → K (.int .i64 0) H') : CallsH Try.prog 22 #[.pointer (some ⟨f, 0, none⟩), .int .i64 k] H K := by
  obtain ⟨p, g, A, nb, N, hF, h2, h3, h4, h5, h6⟩ := hM
  have hx : [k] ∈ S.rows := hr.mem_iff.2 (.head _)
  have hU := hF.u hx (.head _)
  refine call22 (by simp) ?_
  simp only [Try.f22, Option.getD_some]
  repeat' (first
    | (with_reducible first | refine seq_normal ?_ | (refine hK _ _ ?_; clear hK K) | refine x_seq (fun K hK => ?_) | refine x_nil ?_ | refine x_block ?_ | refine x_skip ?_ | refine x_exit ?_ | refine x_ret ?_ | refine x_label ?_ | refine x_scope ?_ | (refine seq_ret ?_; clear hK K) | (refine seq_exit ?_; clear hK K) | refine block_normal ?_ | refine block_ret ?_ | refine block_exit ?_ | refine loop_exit ?_ | refine loop_ret ?_)
    | ((with_reducible refine x_reg_lit ?hq ?_); case hq => rfl)
    | ((first | (with_reducible first | refine x_op (fun K hK => ?_) | refine end_ret ?_ | refine end_normal ?_) | ((with_reducible refine x_guard_yes ?hy (fun K hK => ?_)); case hy => rfl)); simp only [go_sem, Int.cast_ofNat_Int, Nat.reduceEqDiff, Nat.reduceAdd, Nat.reduceMul, Nat.reduceLeDiff, Nat.reduceLT, Int.reduceLT, Int.reduceLE, Int.reduceEq, Int.reduceNeg, Int.reduceToNat, Nat.reducePow, reduceIte, reduceCtorEq])
    | ((with_reducible first | refine x_guard_no ?hy ?_ | refine x_cond_true ?hy ?_); case hy => rfl)
    | ((with_reducible first | refine x_guard_none ?hy ?_ | refine x_cond_false ?hy ?_); case hy => rfl)
    | ((with_reducible refine block_exit_ne ?hy ?_); case hy => decide))
  refine node_ok hF.mem hU ?_
  repeat' (first
    | (with_reducible first | refine seq_normal ?_ | (refine hK _ _ ?_; clear hK K) | refine x_seq (fun K hK => ?_) | refine x_nil ?_ | refine x_block ?_ | refine x_skip ?_ | refine x_exit ?_ | refine x_ret ?_ | refine x_label ?_ | refine x_scope ?_ | (refine seq_ret ?_; clear hK K) | (refine seq_exit ?_; clear hK K) | refine block_normal ?_ | refine block_ret ?_ | refine block_exit ?_ | refine loop_exit ?_ | refine loop_ret ?_)
    | ((with_reducible refine x_reg_lit ?hq ?_); case hq => rfl)
    | ((first | (with_reducible first | refine x_op (fun K hK => ?_) | refine end_ret ?_ | refine end_normal ?_) | ((with_reducible refine x_guard_yes ?hy (fun K hK => ?_)); case hy => rfl)); simp only [go_sem, Int.cast_ofNat_Int, Nat.reduceEqDiff, Nat.reduceAdd, Nat.reduceMul, Nat.reduceLeDiff, Nat.reduceLT, Int.reduceLT, Int.reduceLE, Int.reduceEq, Int.reduceNeg, Int.reduceToNat, Nat.reducePow, reduceIte, reduceCtorEq])
    | ((with_reducible first | refine x_guard_no ?hy ?_ | refine x_cond_true ?hy ?_); case hy => rfl)
    | ((with_reducible first | refine x_guard_none ?hy ?_ | refine x_cond_false ?hy ?_); case hy => rfl)
    | ((with_reducible refine block_exit_ne ?hy ?_); case hy => decide))
  refine splay_row hF hx (.head _) (hF.apart hx) ?_
  intro H2 N2 a b hF2 ht e hf hoff
  have c6 := (hF2.mem.nd k hU).cellOf (i := 6) rfl
  have em : (N2 k).many = 1 := by
    obtain ⟨_, ek, _⟩ := ht
    rw [ek, recOf, e]; rfl
  rw [em] at c6
  have c0 := hF2.mem.ff.cellOf (i := 0) rfl
  repeat' (first
    | (with_reducible first | refine seq_normal ?_ | (refine hK _ _ ?_; clear hK K) | refine x_seq (fun K hK => ?_) | refine x_nil ?_ | refine x_block ?_ | refine x_skip ?_ | refine x_exit ?_ | refine x_ret ?_ | refine x_label ?_ | refine x_scope ?_ | (refine seq_ret ?_; clear hK K) | (refine seq_exit ?_; clear hK K) | refine block_normal ?_ | refine block_ret ?_ | refine block_exit ?_ | refine loop_exit ?_ | refine loop_ret ?_)
    | ((with_reducible refine x_reg_lit ?hq ?_); case hq => rfl)
    | ((first | (with_reducible first | refine x_op (fun K hK => ?_) | refine end_ret ?_ | refine end_normal ?_) | ((with_reducible refine x_guard_yes ?hy (fun K hK => ?_)); case hy => rfl)); simp only [go_sem, Int.cast_ofNat_Int, Nat.reduceEqDiff, Nat.reduceAdd, Nat.reduceMul, Nat.reduceLeDiff, Nat.reduceLT, Int.reduceLT, Int.reduceLE, Int.reduceEq, Int.reduceNeg, Int.reduceToNat, Nat.reducePow, reduceIte, reduceCtorEq, c6, c0])
    | ((with_reducible first | refine x_guard_no ?hy ?_ | refine x_cond_true ?hy ?_); case hy => rfl)
    | ((with_reducible first | refine x_guard_none ?hy ?_ | refine x_cond_false ?hy ?_); case hy => rfl)
    | ((with_reducible refine block_exit_ne ?hy ?_); case hy => decide))
  obtain ⟨v, hv⟩ := Option.isSome_iff_exists.1 hU
  refine ArQPtr.drop_some hF2.mem.ar hv ?_
  intro H3 hA3 hf3
  have hF3 := hF2.freed (R := R) (h := k) hr hA3 hf3
  repeat' (first
    | (with_reducible first | refine seq_normal ?_ | (refine hK _ _ ?_; clear hK K) | refine x_seq (fun K hK => ?_) | refine x_nil ?_ | refine x_block ?_ | refine x_skip ?_ | refine x_exit ?_ | refine x_ret ?_ | refine x_label ?_ | refine x_scope ?_ | (refine seq_ret ?_; clear hK K) | (refine seq_exit ?_; clear hK K) | refine block_normal ?_ | refine block_ret ?_ | refine block_exit ?_ | refine loop_exit ?_ | refine loop_ret ?_)
    | ((with_reducible refine x_reg_lit ?hq ?_); case hq => rfl)
    | ((first | (with_reducible first | refine x_op (fun K hK => ?_) | refine end_ret ?_ | refine end_normal ?_) | ((with_reducible refine x_guard_yes ?hy (fun K hK => ?_)); case hy => rfl)); simp only [go_sem, Int.cast_ofNat_Int, Nat.reduceEqDiff, Nat.reduceAdd, Nat.reduceMul, Nat.reduceLeDiff, Nat.reduceLT, Int.reduceLT, Int.reduceLE, Int.reduceEq, Int.reduceNeg, Int.reduceToNat, Nat.reducePow, reduceIte, reduceCtorEq])
    | ((with_reducible first | refine x_guard_no ?hy ?_ | refine x_cond_true ?hy ?_); case hy => rfl)
    | ((with_reducible first | refine x_guard_none ?hy ?_ | refine x_cond_false ?hy ?_); case hy => rfl)
    | ((with_reducible refine block_exit_ne ?hy ?_); case hy => decide))
  refine fin _ ⟨p, g, _, nb, N2, hF3, h2, by simp [Ar.drop, h3, Sq.freed], by simp [Ar.drop, h4, Sq.freed], ?_, fun b hb => Nat.lt_of_lt_of_le (Nat.lt_of_lt_of_le (h6 b hb) hf.size) hf3.size⟩ ?_
  · rintro b (rfl | rfl | rfl | ⟨i, hi, rfl⟩)
    · exact h5 _ (.inl rfl)
    · exact h5 _ (.inr (.inl rfl))
    · exact h5 _ (.inr (.inr (.inl rfl)))
    · refine h5 _ (.inr (.inr (.inr ⟨i, ?_, rfl⟩)))
      unfold U at hi ⊢
      rw [Ar.get_drop hv] at hi
      by_cases e : i = k
      · rw [if_pos e] at hi; cases hi
      · rw [if_neg e] at hi; exact hi
  · refine (hf.mono (S' := T) fun b _ hb => h5 b (.inr (.inr (.inr hb)))).trans' hf3 fun b hb e => ?_
    rcases e with rfl | rfl
    · exact h5 _ (.inr (.inr (.inl rfl)))
    · exact h5 _ (.inr (.inl rfl))
end
end Go.Proofs.Ytndkbhlfbeiniaa
