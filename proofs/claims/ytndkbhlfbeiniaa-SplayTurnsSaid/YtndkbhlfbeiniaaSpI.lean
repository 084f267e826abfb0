/-
  Splay forests as sequences: what changes: Split.
-/
import Derived.Test.YtndkbhlfbeiniaaSpG
namespace Go.Proofs.Ytndkbhlfbeiniaa
open Go Go.Hp Go.Sp
set_option linter.all false
set_option maxRecDepth 100000
set_option maxHeartbeats 1600000

section
variable {H H' : Heap} {f p g : Nat} {A : Ar} {nb : Nat → Nat} {N : Nodes} {S : Fo} {xs : List Nat} {k : Nat} {R : List (List Nat)}
theorem FoAt.perm (h : FoAt H f p g A nb N S) (hr : S.rows.Perm R) : FoAt H f p g A nb N ⟨S.it, R⟩ :=
  ⟨h.mem, fun xs hx => h.trees xs (hr.mem_iff.2 hx), (hr.flatten.nodup_iff).1 h.nodup, fun i => by rw [← h.use i]; exact (hr.flatten.mem_iff).symm, h.may⟩
/-- A tree cut ahead of its root. -/
theorem cut_tree {it : Nat → Sp.Item} {a b : Tr} (ht : TrAt N it 0 (.node a k b)) (ha : a.root ≠ 0) (hd : (a.list ++ k :: b.list).Nodup) (hm : ∀ i ∈ a.list ++ k :: b.list, May (it i)) (hl : (a.list ++ k :: b.list).length ≤ 4096) :
    let M := upd (setUp N a.root 0) k ((setUp N a.root 0 k).setKid 0 0)
    TrAt (pullN M k) it 0 a ∧ TrAt (pullN M k) it 0 (.node .nil k b) ∧ ∀ i, i ∉ a.list ++ k :: b.list → pullN M k i = N i := by
  intro M
  obtain ⟨k0, ek, hta, htb⟩ := ht
  simp only [List.nodup_append, List.nodup_cons, List.mem_cons] at hd
  obtain ⟨na, ⟨kb, nb'⟩, dab⟩ := hd
  have hka : k ∉ a.list := fun e => dab k e k (.inl rfl) rfl
  have har := Tr.root_mem ha
  have hkr : k ≠ a.root := fun e => hka (by rw [e]; exact har)
  have Mk : M k = (N k).setKid 0 0 := by
    show upd _ k _ k = _
    rw [upd_same]
    unfold Sp.setUp
    rw [upd_ne _ _ hkr]
  have Mo : ∀ i, i ≠ k → i ≠ a.root → M i = N i := fun i h1 h2 => by
    show upd _ k _ i = _
    rw [upd_ne _ _ h1]
    unfold Sp.setUp
    rw [upd_ne _ _ h2]
  have Ma : M a.root = { N a.root with up := 0 } := by
    show upd _ k _ a.root = _
    rw [upd_ne _ _ (Ne.symm hkr)]
    unfold Sp.setUp
    rw [upd_same]
  have hrb : ∀ i ∈ b.list, i ≠ a.root := fun i hi e => dab a.root har i (.inr hi) e.symm
  have htM : TrAt M it k b := htb.congr fun i hi => Mo i (fun e => kb (e ▸ hi)) (hrb i hi)
  have pk : pullR M k = recOf it 0 0 k b.root ([] ++ k :: b.list) := by
    refine pullR_of (xs := []) rfl htM.below (by rw [Mk, ek]; rfl) (by rw [Mk, ek]; rfl) (by rw [Mk]; rfl) (by rw [Mk, ek]; rfl) (fun i hi => hm i ?_) ?_
    · exact List.mem_append_right _ hi
    · simp only [List.nil_append, List.length_append, List.length_cons] at hl ⊢; omega
  have eM : pullN M k = upd M k (recOf it 0 0 k b.root ([] ++ k :: b.list)) := by unfold pullN; rw [pk]
  rw [eM]
  refine ⟨?_, ⟨k0, by rw [upd_same]; rfl, trivial, htM.congr fun i hi => upd_ne _ _ (fun e => kb (e ▸ hi))⟩, fun i hi => ?_⟩
  · refine (hta.hung (N' := M) na (fun _ => Ma) (fun i hi hne => Mo i (fun e => hka (e ▸ hi)) hne)).congr fun i hi => upd_ne _ _ (fun e => hka (e ▸ hi))
  · simp only [List.mem_append, List.mem_cons, not_or] at hi
    rw [upd_ne _ _ hi.2.1]
    exact Mo i hi.2.1 (fun e => hi.1 (e ▸ har))
theorem split_first {K : Value → Heap → Prop} {r : List Nat} (hF : FoAt H f p g A nb N S) (hx : k :: r ∈ S.rows)
    (fin : ∀ H' N', FoAt H' f p g A nb N' S → Fr (NB A nb) H H' → K (.int .i64 0) H') :
    CallsH Try.prog 23 #[.pointer (some ⟨f, 0, none⟩), .int .i64 k] H K := by
  have hU := hF.u hx (.head _)
  refine call23 (by simp) ?_
  simp only [Try.f23, Option.getD_some]
  repeat' (first
    | (with_reducible first | refine seq_normal ?_ | (refine hK _ _ ?_; clear hK K) | refine x_seq (fun K hK => ?_) | refine x_nil ?_ | refine x_block ?_ | refine x_skip ?_ | refine x_exit ?_ | refine x_ret ?_ | refine x_label ?_ | refine x_scope ?_ | (refine seq_ret ?_; clear hK K) | (refine seq_exit ?_; clear hK K) | refine block_normal ?_ | refine block_ret ?_ | refine block_exit ?_ | refine loop_exit ?_ | refine loop_ret ?_)
    | ((with_reducible refine x_reg_lit ?hq ?_); case hq => rfl)
    | ((first | (with_reducible first | refine x_op (fun K hK => ?_) | refine end_ret ?_ | refine end_normal ?_) | ((with_reducible refine x_guard_yes ?hy (fun K hK => ?_)); case hy => rfl)); simp only [go_sem, Int.cast_ofNat_Int, Nat.reduceEqDiff, Nat.reduceAdd, Nat.reduceMul, Nat.reduceLeDiff, Nat.reduceLT, Int.reduceLT, Int.reduceLE, Int.reduceEq, Int.reduceNeg, Int.reduceToNat, Nat.reducePow, reduceIte, reduceCtorEq])
    | ((with_reducible first | refine x_guard_no ?hy ?_ | refine x_cond_true ?hy ?_); case hy => rfl)
    | ((with_reducible first | refine x_guard_none ?hy ?_ | refine x_cond_false ?hy ?_); case hy => rfl)
    | ((with_reducible refine block_exit_ne ?hy ?_); case hy => decide))
  refine node_ok hF.mem hU ?_
  repeat' (first
    | (with_reducible first | refine seq_normal ?_ | (refine hK _ _ ?_; clear hK K) | refine x_seq (fun K hK => ?_) | refine x_nil ?_ | refine x_block ?_ | refine x_skip ?_ | refine x_exit ?_ | refine x_ret ?_ | refine x_label ?_ | refine x_scope ?_ | (refine seq_ret ?_; clear hK K) | (refine seq_exit ?_; clear hK K) | refine block_normal ?_ | refine block_ret ?_ | refine block_exit ?_ | refine loop_exit ?_ | refine loop_ret ?_)
    | ((with_reducible refine x_reg_lit ?hq ?_); case hq => rfl)
    | ((first | (with_reducible first | refine x_op (fun K hK => ?_) | refine end_ret ?_ | refine end_normal ?_) | ((with_reducible refine x_guard_yes ?hy (fun K hK => ?_)); case hy => rfl)); simp only [go_sem, Int.cast_ofNat_Int, Nat.reduceEqDiff, Nat.reduceAdd, Nat.reduceMul, Nat.reduceLeDiff, Nat.reduceLT, Int.reduceLT, Int.reduceLE, Int.reduceEq, Int.reduceNeg, Int.reduceToNat, Nat.reducePow, reduceIte, reduceCtorEq])
    | ((with_reducible first | refine x_guard_no ?hy ?_ | refine x_cond_true ?hy ?_); case hy => rfl)
    | ((with_reducible first | refine x_guard_none ?hy ?_ | refine x_cond_false ?hy ?_); case hy => rfl)
    | ((with_reducible refine block_exit_ne ?hy ?_); case hy => decide))
  refine splay_row hF hx (.head _) (hF.apart hx) ?_
  intro H2 N2 a b hF2 ht e hf hoff
  have hn := hF2.mem.nd k hU
  have c4 := hn.cellOf (i := 4) rfl
  obtain ⟨hla, _⟩ := split_unique (l := a.list) (l' := []) (by rw [e]; exact (hF.row hx).nd) e
  have ea : (N2 k).l = 0 := by
    obtain ⟨_, ek, _⟩ := ht
    rw [ek]
    cases a with
    | nil => rfl
    | node a1 h a2 => simp [Tr.list] at hla
  rw [ea] at c4
  have t1 : (((0 : Nat) : Int) != 0) = false := rfl
  repeat' (first
    | (with_reducible first | refine seq_normal ?_ | (refine hK _ _ ?_; clear hK K) | refine x_seq (fun K hK => ?_) | refine x_nil ?_ | refine x_block ?_ | refine x_skip ?_ | refine x_exit ?_ | refine x_ret ?_ | refine x_label ?_ | refine x_scope ?_ | (refine seq_ret ?_; clear hK K) | (refine seq_exit ?_; clear hK K) | refine block_normal ?_ | refine block_ret ?_ | refine block_exit ?_ | refine loop_exit ?_ | refine loop_ret ?_)
    | ((with_reducible refine x_reg_lit ?hq ?_); case hq => rfl)
    | ((first | (with_reducible first | refine x_op (fun K hK => ?_) | refine end_ret ?_ | refine end_normal ?_) | ((with_reducible refine x_guard_yes ?hy (fun K hK => ?_)); case hy => rfl)); simp only [go_sem, Int.cast_ofNat_Int, Nat.reduceEqDiff, Nat.reduceAdd, Nat.reduceMul, Nat.reduceLeDiff, Nat.reduceLT, Int.reduceLT, Int.reduceLE, Int.reduceEq, Int.reduceNeg, Int.reduceToNat, Nat.reducePow, reduceIte, reduceCtorEq, c4, t1])
    | ((with_reducible first | refine x_guard_no ?hy ?_ | refine x_cond_true ?hy ?_); case hy => rfl)
    | ((with_reducible first | refine x_guard_none ?hy ?_ | refine x_cond_false ?hy ?_); case hy => rfl)
    | ((with_reducible refine block_exit_ne ?hy ?_); case hy => decide))
  exact fin _ N2 hF2 hf
theorem split_ok {K : Value → Heap → Prop} {l r : List Nat} (hF : FoAt H f p g A nb N S) (hr : S.rows.Perm ((l ++ k :: r) :: R)) (hl : l ≠ [])
    (fin : ∀ H' N', FoAt H' f p g A nb N' ⟨S.it, l :: (k :: r) :: R⟩ → Fr (NB A nb) H H' → K (.int .i64 0) H') :
    CallsH Try.prog 23 #[.pointer (some ⟨f, 0, none⟩), .int .i64 k] H K := by
  have hx : l ++ k :: r ∈ S.rows := hr.mem_iff.2 (.head _)
  have hk : k ∈ l ++ k :: r := by simp
  have hU := hF.u hx hk
  have row := hF.row hx
  refine call23 (by simp) ?_
  simp only [Try.f23, Option.getD_some]
  repeat' (first
    | (with_reducible first | refine seq_normal ?_ | (refine hK _ _ ?_; clear hK K) | refine x_seq (fun K hK => ?_) | refine x_nil ?_ | refine x_block ?_ | refine x_skip ?_ | refine x_exit ?_ | refine x_ret ?_ | refine x_label ?_ | refine x_scope ?_ | (refine seq_ret ?_; clear hK K) | (refine seq_exit ?_; clear hK K) | refine block_normal ?_ | refine block_ret ?_ | refine block_exit ?_ | refine loop_exit ?_ | refine loop_ret ?_)
    | ((with_reducible refine x_reg_lit ?hq ?_); case hq => rfl)
    | ((first | (with_reducible first | refine x_op (fun K hK => ?_) | refine end_ret ?_ | refine end_normal ?_) | ((with_reducible refine x_guard_yes ?hy (fun K hK => ?_)); case hy => rfl)); simp only [go_sem, Int.cast_ofNat_Int, Nat.reduceEqDiff, Nat.reduceAdd, Nat.reduceMul, Nat.reduceLeDiff, Nat.reduceLT, Int.reduceLT, Int.reduceLE, Int.reduceEq, Int.reduceNeg, Int.reduceToNat, Nat.reducePow, reduceIte, reduceCtorEq])
    | ((with_reducible first | refine x_guard_no ?hy ?_ | refine x_cond_true ?hy ?_); case hy => rfl)
    | ((with_reducible first | refine x_guard_none ?hy ?_ | refine x_cond_false ?hy ?_); case hy => rfl)
    | ((with_reducible refine block_exit_ne ?hy ?_); case hy => decide))
  refine node_ok hF.mem hU ?_
  repeat' (first
    | (with_reducible first | refine seq_normal ?_ | (refine hK _ _ ?_; clear hK K) | refine x_seq (fun K hK => ?_) | refine x_nil ?_ | refine x_block ?_ | refine x_skip ?_ | refine x_exit ?_ | refine x_ret ?_ | refine x_label ?_ | refine x_scope ?_ | (refine seq_ret ?_; clear hK K) | (refine seq_exit ?_; clear hK K) | refine block_normal ?_ | refine block_ret ?_ | refine block_exit ?_ | refine loop_exit ?_ | refine loop_ret ?_)
    | ((with_reducible refine x_reg_lit ?hq ?_); case hq => rfl)
    | ((first | (with_reducible first | refine x_op (fun K hK => ?_) | refine end_ret ?_ | refine end_normal ?_) | ((with_reducible refine x_guard_yes ?hy (fun K hK => ?_)); case hy => rfl)); simp only [go_sem, Int.cast_ofNat_Int, Nat.reduceEqDiff, Nat.reduceAdd, Nat.reduceMul, Nat.reduceLeDiff, Nat.reduceLT, Int.reduceLT, Int.reduceLE, Int.reduceEq, Int.reduceNeg, Int.reduceToNat, Nat.reducePow, reduceIte, reduceCtorEq])
    | ((with_reducible first | refine x_guard_no ?hy ?_ | refine x_cond_true ?hy ?_); case hy => rfl)
    | ((with_reducible first | refine x_guard_none ?hy ?_ | refine x_cond_false ?hy ?_); case hy => rfl)
    | ((with_reducible refine block_exit_ne ?hy ?_); case hy => decide))
  refine splay_row hF hx hk (hF.apart hx) ?_
  intro H2 N2 a b hF2 ht e hf hoff
  have hn := hF2.mem.nd k hU
  have c4 := hn.cellOf (i := 4) rfl
  obtain ⟨hla, hrb⟩ := split_unique (l := a.list) (by rw [e]; exact row.nd) e
  have ek : (N2 k).l = a.root := by
    obtain ⟨_, ek, _⟩ := ht
    rw [ek]; rfl
  have ha0 : a.root ≠ 0 := fun h0 => by
    cases a with
    | nil => exact hl hla.symm
    | node a1 h a2 =>
      obtain ⟨_, _, ⟨h1, _⟩, _⟩ := ht
      exact h1 h0
  have hUa : U A a.root := hF.u hx (by rw [← hla]; exact List.mem_append_left _ (Tr.root_mem ha0))
  have t1 : ((a.root : Int) != 0) = true := by simp [ha0]
  rw [ek] at c4
  obtain ⟨w1, hF3, hf3⟩ := hF2.mem.setUp hUa (.inl rfl) (x := 0)
  obtain ⟨w2, hF4, hf4⟩ := hF3.kid hU (.inl rfl) (.inl rfl) (s := 0) (x := 0)
  have cut := cut_tree ht ha0 (by rw [e]; exact row.nd) (fun i hi => row.may i (by rw [e] at hi; exact hi)) (by rw [e]; exact row.len)
  repeat' (first
    | (with_reducible first | refine seq_normal ?_ | (refine hK _ _ ?_; clear hK K) | refine x_seq (fun K hK => ?_) | refine x_nil ?_ | refine x_block ?_ | refine x_skip ?_ | refine x_exit ?_ | refine x_ret ?_ | refine x_label ?_ | refine x_scope ?_ | (refine seq_ret ?_; clear hK K) | (refine seq_exit ?_; clear hK K) | refine block_normal ?_ | refine block_ret ?_ | refine block_exit ?_ | refine loop_exit ?_ | refine loop_ret ?_)
    | ((with_reducible refine x_reg_lit ?hq ?_); case hq => rfl)
    | ((first | (with_reducible first | refine x_op (fun K hK => ?_) | refine end_ret ?_ | refine end_normal ?_) | ((with_reducible refine x_guard_yes ?hy (fun K hK => ?_)); case hy => rfl)); simp only [go_sem, Int.cast_ofNat_Int, Nat.reduceEqDiff, Nat.reduceAdd, Nat.reduceMul, Nat.reduceLeDiff, Nat.reduceLT, Int.reduceLT, Int.reduceLE, Int.reduceEq, Int.reduceNeg, Int.reduceToNat, Nat.reducePow, reduceIte, reduceCtorEq, c4, t1])
    | ((with_reducible first | refine x_guard_no ?hy ?_ | refine x_cond_true ?hy ?_); case hy => rfl)
    | ((with_reducible first | refine x_guard_none ?hy ?_ | refine x_cond_false ?hy ?_); case hy => rfl)
    | ((with_reducible refine block_exit_ne ?hy ?_); case hy => decide))
  refine node_ok hF2.mem hUa ?_
  have w2' : okW (hset H2 ⟨nb a.root, 3, none⟩ (.int .i64 0)) ⟨nb k, 4, none⟩ := w2
  repeat' (first
    | (with_reducible first | refine seq_normal ?_ | (refine hK _ _ ?_; clear hK K) | refine x_seq (fun K hK => ?_) | refine x_nil ?_ | refine x_block ?_ | refine x_skip ?_ | refine x_exit ?_ | refine x_ret ?_ | refine x_label ?_ | refine x_scope ?_ | (refine seq_ret ?_; clear hK K) | (refine seq_exit ?_; clear hK K) | refine block_normal ?_ | refine block_ret ?_ | refine block_exit ?_ | refine loop_exit ?_ | refine loop_ret ?_)
    | ((with_reducible refine x_reg_lit ?hq ?_); case hq => rfl)
    | ((first | (with_reducible first | refine x_op (fun K hK => ?_) | refine end_ret ?_ | refine end_normal ?_) | ((with_reducible refine x_guard_yes ?hy (fun K hK => ?_)); case hy => rfl)); simp only [go_sem, Int.cast_ofNat_Int, Nat.reduceEqDiff, Nat.reduceAdd, Nat.reduceMul, Nat.reduceLeDiff, Nat.reduceLT, Int.reduceLT, Int.reduceLE, Int.reduceEq, Int.reduceNeg, Int.reduceToNat, Nat.reducePow, reduceIte, reduceCtorEq, w1, w2'])
    | ((with_reducible first | refine x_guard_no ?hy ?_ | refine x_cond_true ?hy ?_); case hy => rfl)
    | ((with_reducible first | refine x_guard_none ?hy ?_ | refine x_cond_false ?hy ?_); case hy => rfl)
    | ((with_reducible refine block_exit_ne ?hy ?_); case hy => decide))
  refine pull_ok hF4 hU ?_
  intro H5 hF5 hf5
  repeat' (first
    | (with_reducible first | refine seq_normal ?_ | (refine hK _ _ ?_; clear hK K) | refine x_seq (fun K hK => ?_) | refine x_nil ?_ | refine x_block ?_ | refine x_skip ?_ | refine x_exit ?_ | refine x_ret ?_ | refine x_label ?_ | refine x_scope ?_ | (refine seq_ret ?_; clear hK K) | (refine seq_exit ?_; clear hK K) | refine block_normal ?_ | refine block_ret ?_ | refine block_exit ?_ | refine loop_exit ?_ | refine loop_ret ?_)
    | ((with_reducible refine x_reg_lit ?hq ?_); case hq => rfl)
    | ((first | (with_reducible first | refine x_op (fun K hK => ?_) | refine end_ret ?_ | refine end_normal ?_) | ((with_reducible refine x_guard_yes ?hy (fun K hK => ?_)); case hy => rfl)); simp only [go_sem, Int.cast_ofNat_Int, Nat.reduceEqDiff, Nat.reduceAdd, Nat.reduceMul, Nat.reduceLeDiff, Nat.reduceLT, Int.reduceLT, Int.reduceLE, Int.reduceEq, Int.reduceNeg, Int.reduceToNat, Nat.reducePow, reduceIte, reduceCtorEq])
    | ((with_reducible first | refine x_guard_no ?hy ?_ | refine x_cond_true ?hy ?_); case hy => rfl)
    | ((with_reducible first | refine x_guard_none ?hy ?_ | refine x_cond_false ?hy ?_); case hy => rfl)
    | ((with_reducible refine block_exit_ne ?hy ?_); case hy => decide))
  refine fin _ _ ⟨hF5, ?_, ?_, ?_, hF.may⟩ (((hf.trans hf3).trans hf4).trans hf5)
  · intro ys hy
    rcases List.mem_cons.1 hy with rfl | hy
    · exact ⟨a, cut.1, hla⟩
    · rcases List.mem_cons.1 hy with rfl | hy
      · exact ⟨_, cut.2.1, by simp [Tr.list, hrb]⟩
      · obtain ⟨t, h1, h2⟩ := hF2.trees ys (hr.mem_iff.2 (.tail _ hy))
        have hn2 : ((l ++ k :: r) :: R).flatten.Nodup := (hr.flatten.nodup_iff).1 hF.nodup
        rw [List.flatten_cons, List.nodup_append] at hn2
        refine ⟨t, h1.congr fun i hi => cut.2.2 i (fun hi' => ?_), h2⟩
        rw [e] at hi'
        exact hn2.2.2 i hi' i (List.mem_flatten.2 ⟨ys, hy, by rw [← h2]; exact hi⟩) rfl
  · have hn2 : ((l ++ k :: r) :: R).flatten.Nodup := (hr.flatten.nodup_iff).1 hF.nodup
    simpa using hn2
  · intro i
    rw [← hF.use i, hr.flatten.mem_iff]
    simp
end
end Go.Proofs.Ytndkbhlfbeiniaa
