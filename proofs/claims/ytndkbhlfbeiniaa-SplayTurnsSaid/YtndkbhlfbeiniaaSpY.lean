/-
  Splay forests as sequences: All.
-/
import Derived.Test.YtndkbhlfbeiniaaSpS
namespace Go.Sp
open Go Go.Hp
set_option linter.unusedVariables false
/-- What a walk's stack stands for: each node and what is below it on the right; the last one first. -/
def stL (st : List (Nat × Tr)) : List Nat := st.reverse.flatMap fun x => x.1 :: x.2.list
theorem stL_len (l : List (Nat × Tr)) : l.length ≤ (stL l).length := by
  unfold stL
  rw [List.length_flatMap]
  have : ∀ l : List (Nat × Tr), l.length ≤ (l.map fun x => (x.1 :: x.2.list).length).sum := by
    intro l
    induction l with
    | nil => simp
    | cons a l ih =>
      rw [List.map_cons, List.sum_cons, List.length_cons, List.length_cons]
      omega
  have := this l.reverse
  rw [List.length_reverse] at this
  exact this
theorem stL_push (st : List (Nat × Tr)) (k : Nat) (r : Tr) : stL (st ++ [(k, r)]) = k :: r.list ++ stL st := by simp [stL]
end Go.Sp
namespace Go.Hp
open Go
/-- The last element is let go. -/
theorem IR.pop {H : Heap} {g n c : Nat} {xs : List Int} {x : Int} (h : IR H (some g) (.slice (some ⟨g, 0, none⟩) n c) (xs ++ [x])) : IR H (some g) (.slice (some ⟨g, 0, none⟩) (n - 1) c) xs := by
  obtain ⟨hl, h | ⟨g', c', rest, h1, h2, h3, h4, h5⟩⟩ := h
  · cases h.1
  · obtain rfl := Option.some.inj h1
    simp only [Value.slice.injEq, List.length_append, List.length_singleton] at h2 h5
    obtain ⟨_, rfl, rfl⟩ := h2
    refine ⟨by simp, .inr ⟨g, c, .int .i64 x :: rest, rfl, by simp, ?_, ?_, by omega⟩⟩
    · simpa using h3
    · simp at h4 ⊢; omega
theorem IR.fresh (H : Heap) (l : List Value) (T : TypeId) : IR (H.push (.cells l.toArray T)) (some H.size) (.slice (some ⟨H.size, 0, none⟩) 0 l.length) [] :=
  ⟨rfl, .inr ⟨H.size, l.length, l, rfl, rfl, Blk.new H l T, by simp, Nat.zero_le _⟩⟩
end Go.Hp
namespace Go.Proofs.Ytndkbhlfbeiniaa
open Go Go.Hp Go.Sp
set_option linter.all false
set_option maxRecDepth 100000
set_option maxHeartbeats 1600000

section
variable {H H' : Heap} {f p g : Nat} {A : Ar} {nb : Nat → Nat} {N : Nodes} {S : Fo} {xs ys : List Nat} {k j : Nat} {R : List (List Nat)}
def StOk (A : Ar) (N : Nodes) (it : Nat → Sp.Item) (st : List (Nat × Tr)) : Prop := ∀ x ∈ st, U A x.1 ∧ (N x.1).r = x.2.root ∧ TrAt N it x.1 x.2
theorem FoAt.other {B : Option Nat} (h : FoAt H f p g A nb N S) {H2 : Heap} (h2 : ∀ b, Foot f p g A nb b → b < H2.size) (hf : Fr (fun b => B = some b) H H') (hB : ∀ b, B = some b → H2.size ≤ b) : FoAt H' f p g A nb N S :=
  h.frame hf fun b hb e => by have := h2 b hb; have := hB b e; omega
theorem all_inner {Q : HX → Env → Heap → Prop} {e : Env} {H2 : Heap} {t : Tr} {up : Nat} {st : List (Nat × Tr)} {os : List Nat} {B6 B7 : Option Nat} {v6 v7 : Value} (hF : FoAt H f p g A nb N S) (h2 : ∀ b, Foot f p g A nb b → b < H2.size) (hs2 : H2.size ≤ H.size) (hx : xs ∈ S.rows)
    (e0 : e 0 = .pointer (some ⟨f, 0, none⟩)) (e1 : e 1 = .int .i64 (t.root : Nat)) (e6 : e 6 = v6) (e7 : e 7 = v7) (ht : TrAt N S.it up t) (hst : StOk A N S.it st) (r6 : IR H B6 v6 (os.map Int.ofNat)) (r7 : IR H B7 v7 ((st.map (·.1)).map Int.ofNat))
    (d6 : ∀ b, B6 = some b → H2.size ≤ b ∧ B7 ≠ some b) (d7 : ∀ b, B7 = some b → H2.size ≤ b) (hcat : os ++ t.list ++ stL st = xs)
    (hQ : ∀ e' H' st' B7' v7', e' 0 = .pointer (some ⟨f, 0, none⟩) → e' 1 = .int .i64 0 → e' 6 = v6 → e' 7 = v7' → FoAt H' f p g A nb N S → StOk A N S.it st' → IR H' B6 v6 (os.map Int.ofNat) → IR H' B7' v7' ((st'.map (·.1)).map Int.ofNat) →
      (∀ b, B6 = some b → H2.size ≤ b ∧ B7' ≠ some b) → (∀ b, B7' = some b → H2.size ≤ b) → os ++ stL st' = xs → (st' = [] → st = [] ∧ t = .nil) → Fr (fun b => H2.size ≤ b) H H' → Q .normal e' H') :
    codeX Try.prog [] (loopAt Try.f35.body 1) (blockQ 2 Q) e H := by
  have hlen := (hF.row hx).len
  refine x_loop (fun m e' H' => ∃ (t' : Tr) (up : Nat) (st' : List (Nat × Tr)) (B7 : Option Nat) (v7 : Value), FoAt H' f p g A nb N S ∧ e' 1 = .int .i64 (t'.root : Nat) ∧ e' 7 = v7 ∧ TrAt N S.it up t' ∧ StOk A N S.it st' ∧ IR H' B6 v6 (os.map Int.ofNat) ∧
      IR H' B7 v7 ((st'.map (·.1)).map Int.ofNat) ∧ (∀ b, B6 = some b → H2.size ≤ b ∧ B7 ≠ some b) ∧ (∀ b, B7 = some b → H2.size ≤ b) ∧ os ++ t'.list ++ stL st' = xs ∧ (t' = .nil → st' = [] → st = [] ∧ t = .nil) ∧ Fr (fun b => H2.size ≤ b) H H' ∧ m = t'.list.length)
    t.list.length ⟨t, up, st, B7, v7, hF, e1, e7, ht, hst, r6, r7, d6, d7, hcat, fun h1 h2 => ⟨h2, h1⟩, .refl _ _, rfl⟩ ?_
  rintro m e' H1 ⟨t1, up1, st1, B, v, hF1, i1, i7, ht1, hst1, s6, s7, c6, c7, hcat1, hemp, hf1, rfl⟩ hoff
  have i0 := (hoff 0 rfl).trans e0
  have i6 := (hoff 6 rfl).trans e6
  clear hoff e0 e1 e6 e7
  cases t1 with
  | nil =>
    have i1' : e' 1 = .int .i64 0 := i1
    have q1 : ((0 : Int) != 0) = false := rfl
    repeat' (first
      | (with_reducible first | refine seq_normal ?_ | (refine hK _ _ ?_; clear hK K) | refine x_seq (fun K hK => ?_) | refine x_nil ?_ | refine x_block ?_ | refine x_skip ?_ | refine x_exit ?_ | refine x_ret ?_ | refine x_label ?_ | refine x_scope ?_ | (refine seq_ret ?_; clear hK K) | (refine seq_exit ?_; clear hK K) | refine block_normal ?_ | refine block_ret ?_ | refine block_exit ?_ | refine loop_exit ?_ | refine loop_ret ?_)
      | ((with_reducible refine x_reg_lit ?hq ?_); case hq => rfl)
      | ((first | (with_reducible first | refine x_op (fun K hK => ?_) | refine end_ret ?_ | refine end_normal ?_) | ((with_reducible refine x_guard_yes ?hy (fun K hK => ?_)); case hy => rfl)); simp only [go_sem, Int.cast_ofNat_Int, Nat.reduceEqDiff, Nat.reduceAdd, Nat.reduceMul, Nat.reduceLeDiff, Nat.reduceLT, Int.reduceLT, Int.reduceLE, Int.reduceEq, Int.reduceNeg, Int.reduceToNat, Nat.reducePow, reduceIte, reduceCtorEq, i1', q1])
      | ((with_reducible first | refine x_guard_no ?hy ?_ | refine x_cond_true ?hy ?_); case hy => rfl)
      | ((with_reducible first | refine x_guard_none ?hy ?_ | refine x_cond_false ?hy ?_); case hy => rfl)
      | ((with_reducible refine block_exit_ne ?hy ?_); case hy => decide))
    exact hQ _ _ st1 B v i0 i1' i6 i7 hF1 hst1 s6 s7 c6 c7 (by simpa [Tr.list] using hcat1) (fun h => hemp rfl h) hf1
  | node l h r =>
    simp only [Tr.root] at i1
    have hhx : h ∈ xs := by rw [← hcat1]; simp [Tr.list]
    have hUh := hF.u hx hhx
    obtain ⟨q1, q2, q3, q4⟩ := ht1
    have el : (N h).l = l.root := by rw [q2]; rfl
    have er : (N h).r = r.root := by rw [q2]; rfl
    have t1 : ((h : Int) != 0) = true := by simp [q1]
    have hsl : st1.length ≤ 4096 := by
      have : (stL st1).length ≤ xs.length := by rw [← hcat1]; simp; omega
      have h3 := stL_len st1
      omega
    repeat' (first
      | (with_reducible first | refine seq_normal ?_ | (refine hK _ _ ?_; clear hK K) | refine x_seq (fun K hK => ?_) | refine x_nil ?_ | refine x_block ?_ | refine x_skip ?_ | refine x_exit ?_ | refine x_ret ?_ | refine x_label ?_ | refine x_scope ?_ | (refine seq_ret ?_; clear hK K) | (refine seq_exit ?_; clear hK K) | refine block_normal ?_ | refine block_ret ?_ | refine block_exit ?_ | refine loop_exit ?_ | refine loop_ret ?_)
      | ((with_reducible refine x_reg_lit ?hq ?_); case hq => rfl)
      | ((first | (with_reducible first | refine x_op (fun K hK => ?_) | refine end_ret ?_ | refine end_normal ?_) | ((with_reducible refine x_guard_yes ?hy (fun K hK => ?_)); case hy => rfl)); simp only [go_sem, Int.cast_ofNat_Int, Nat.reduceEqDiff, Nat.reduceAdd, Nat.reduceMul, Nat.reduceLeDiff, Nat.reduceLT, Int.reduceLT, Int.reduceLE, Int.reduceEq, Int.reduceNeg, Int.reduceToNat, Nat.reducePow, reduceIte, reduceCtorEq, i0, i1, i7, t1])
      | ((with_reducible first | refine x_guard_no ?hy ?_ | refine x_cond_true ?hy ?_); case hy => rfl)
      | ((with_reducible first | refine x_guard_none ?hy ?_ | refine x_cond_false ?hy ?_); case hy => rfl)
      | ((with_reducible refine block_exit_ne ?hy ?_); case hy => decide))
    refine append_ir elems23 tl3 s7 rfl (by decide) (by simp; omega) rfl ?_
    intro v' H3 B' s7' hf3 hB
    have hF3 := hF1.other h2 hf3 c7
    have s6' := s6.frame hf3 fun b hb e => (c6 b hb).2 e
    have c4 := (hF3.mem.nd h hUh).cellOf (i := 4) rfl
    rw [el] at c4
    have hf13 : Fr (fun b => H2.size ≤ b) H1 H3 := hf3.mono fun b _ e => c7 b e
    have hs1 := hf1.size
    repeat' (first
      | (with_reducible first | refine seq_normal ?_ | (refine hK _ _ ?_; clear hK K) | refine x_seq (fun K hK => ?_) | refine x_nil ?_ | refine x_block ?_ | refine x_skip ?_ | refine x_exit ?_ | refine x_ret ?_ | refine x_label ?_ | refine x_scope ?_ | (refine seq_ret ?_; clear hK K) | (refine seq_exit ?_; clear hK K) | refine block_normal ?_ | refine block_ret ?_ | refine block_exit ?_ | refine loop_exit ?_ | refine loop_ret ?_)
      | ((with_reducible refine x_reg_lit ?hq ?_); case hq => rfl)
      | ((first | (with_reducible first | refine x_op (fun K hK => ?_) | refine end_ret ?_ | refine end_normal ?_) | ((with_reducible refine x_guard_yes ?hy (fun K hK => ?_)); case hy => rfl)); simp only [go_sem, Int.cast_ofNat_Int, Nat.reduceEqDiff, Nat.reduceAdd, Nat.reduceMul, Nat.reduceLeDiff, Nat.reduceLT, Int.reduceLT, Int.reduceLE, Int.reduceEq, Int.reduceNeg, Int.reduceToNat, Nat.reducePow, reduceIte, reduceCtorEq, i0, i1, i7, t1])
      | ((with_reducible first | refine x_guard_no ?hy ?_ | refine x_cond_true ?hy ?_); case hy => rfl)
      | ((with_reducible first | refine x_guard_none ?hy ?_ | refine x_cond_false ?hy ?_); case hy => rfl)
      | ((with_reducible refine block_exit_ne ?hy ?_); case hy => decide))
    refine node_ok hF3.mem hUh ?_
    repeat' (first
      | (with_reducible first | refine seq_normal ?_ | (refine hK _ _ ?_; clear hK K) | refine x_seq (fun K hK => ?_) | refine x_nil ?_ | refine x_block ?_ | refine x_skip ?_ | refine x_exit ?_ | refine x_ret ?_ | refine x_label ?_ | refine x_scope ?_ | (refine seq_ret ?_; clear hK K) | (refine seq_exit ?_; clear hK K) | refine block_normal ?_ | refine block_ret ?_ | refine block_exit ?_ | refine loop_exit ?_ | refine loop_ret ?_)
      | ((with_reducible refine x_reg_lit ?hq ?_); case hq => rfl)
      | ((first | (with_reducible first | refine x_op (fun K hK => ?_) | refine end_ret ?_ | refine end_normal ?_) | ((with_reducible refine x_guard_yes ?hy (fun K hK => ?_)); case hy => rfl)); simp only [go_sem, Int.cast_ofNat_Int, Nat.reduceEqDiff, Nat.reduceAdd, Nat.reduceMul, Nat.reduceLeDiff, Nat.reduceLT, Int.reduceLT, Int.reduceLE, Int.reduceEq, Int.reduceNeg, Int.reduceToNat, Nat.reducePow, reduceIte, reduceCtorEq, c4])
      | ((with_reducible first | refine x_guard_no ?hy ?_ | refine x_cond_true ?hy ?_); case hy => rfl)
      | ((with_reducible first | refine x_guard_none ?hy ?_ | refine x_cond_false ?hy ?_); case hy => rfl)
      | ((with_reducible refine block_exit_ne ?hy ?_); case hy => decide))
    refine loop_normal (m' := l.list.length) (by simp [Tr.list] <;> omega) ⟨l, h, st1 ++ [(h, r)], B', v', hF3, rfl, rfl, q3, ?_, s6', ?_, ?_, ?_, ?_, ?_, hf1.trans hf13, rfl⟩
    · intro x hx'
      rcases List.mem_append.1 hx' with hx' | hx'
      · exact hst1 x hx'
      · rw [List.mem_singleton.1 hx']
        exact ⟨hUh, er, q4⟩
    · simpa using s7'
    · intro b hb
      obtain ⟨a1, a2⟩ := c6 b hb
      refine ⟨a1, fun e => ?_⟩
      rcases hB with rfl | ⟨g', h1, h2⟩
      · exact a2 e
      · rw [h1] at e
        obtain rfl := Option.some.inj e
        have := s6.lt hb
        omega
    · intro b hb
      rcases hB with rfl | ⟨g', h1, h2⟩
      · exact c7 b hb
      · rw [h1] at hb
        obtain rfl := Option.some.inj hb
        omega
    · rw [stL_push, ← hcat1]; simp [Tr.list]
    · intro _ h; simp at h
theorem all_none {K : Value → Heap → Prop} {i : Int} (hF : FoAt H f p g A nb N S) (hi : ¬ ∃ k : Nat, i = (k : Int) ∧ k ∈ S.rows.flatten) (fin : K (.tuple #[.slice none 0 0, .int .i64 31]) H) :
    CallsH Try.prog 35 #[.pointer (some ⟨f, 0, none⟩), .int .i64 i] H K := by
  refine call35 (by simp) ?_
  simp only [Try.f35, Option.getD_some]
  repeat' (first
    | (with_reducible first | refine seq_normal ?_ | (refine hK _ _ ?_; clear hK K) | refine x_seq (fun K hK => ?_) | refine x_nil ?_ | refine x_block ?_ | refine x_skip ?_ | refine x_exit ?_ | refine x_ret ?_ | refine x_label ?_ | refine x_scope ?_ | (refine seq_ret ?_; clear hK K) | (refine seq_exit ?_; clear hK K) | refine block_normal ?_ | refine block_ret ?_ | refine block_exit ?_ | refine loop_exit ?_ | refine loop_ret ?_)
    | ((with_reducible refine x_reg_lit ?hq ?_); case hq => rfl)
    | ((first | (with_reducible first | refine x_op (fun K hK => ?_) | refine end_ret ?_ | refine end_normal ?_) | ((with_reducible refine x_guard_yes ?hy (fun K hK => ?_)); case hy => rfl)); simp only [go_sem, Int.cast_ofNat_Int, Nat.reduceEqDiff, Nat.reduceAdd, Nat.reduceMul, Nat.reduceLeDiff, Nat.reduceLT, Int.reduceLT, Int.reduceLE, Int.reduceEq, Int.reduceNeg, Int.reduceToNat, Nat.reducePow, reduceIte, reduceCtorEq])
    | ((with_reducible first | refine x_guard_no ?hy ?_ | refine x_cond_true ?hy ?_); case hy => rfl)
    | ((with_reducible first | refine x_guard_none ?hy ?_ | refine x_cond_false ?hy ?_); case hy => rfl)
    | ((with_reducible refine block_exit_ne ?hy ?_); case hy => decide))
  refine node_no hF.mem (hF.none hi) ?_
  repeat' (first
    | (with_reducible first | refine seq_normal ?_ | (refine hK _ _ ?_; clear hK K) | refine x_seq (fun K hK => ?_) | refine x_nil ?_ | refine x_block ?_ | refine x_skip ?_ | refine x_exit ?_ | refine x_ret ?_ | refine x_label ?_ | refine x_scope ?_ | (refine seq_ret ?_; clear hK K) | (refine seq_exit ?_; clear hK K) | refine block_normal ?_ | refine block_ret ?_ | refine block_exit ?_ | refine loop_exit ?_ | refine loop_ret ?_)
    | ((with_reducible refine x_reg_lit ?hq ?_); case hq => rfl)
    | ((first | (with_reducible first | refine x_op (fun K hK => ?_) | refine end_ret ?_ | refine end_normal ?_) | ((with_reducible refine x_guard_yes ?hy (fun K hK => ?_)); case hy => rfl)); simp only [go_sem, Int.cast_ofNat_Int, Nat.reduceEqDiff, Nat.reduceAdd, Nat.reduceMul, Nat.reduceLeDiff, Nat.reduceLT, Int.reduceLT, Int.reduceLE, Int.reduceEq, Int.reduceNeg, Int.reduceToNat, Nat.reducePow, reduceIte, reduceCtorEq])
    | ((with_reducible first | refine x_guard_no ?hy ?_ | refine x_cond_true ?hy ?_); case hy => rfl)
    | ((with_reducible first | refine x_guard_none ?hy ?_ | refine x_cond_false ?hy ?_); case hy => rfl)
    | ((with_reducible refine block_exit_ne ?hy ?_); case hy => decide))
  exact fin
theorem all_ok {K : Value → Heap → Prop} (hF : FoAt H f p g A nb N S) (hx : xs ∈ S.rows) (hk : k ∈ xs)
    (fin : ∀ H' N' B v, FoAt H' f p g A nb N' S → IR H' B v (xs.map Int.ofNat) → (∀ b, B = some b → H.size ≤ b) → Fr (NB A nb) H H' → K (.tuple #[v, .int .i64 0]) H') :
    CallsH Try.prog 35 #[.pointer (some ⟨f, 0, none⟩), .int .i64 k] H K := by
  have hU := hF.u hx hk
  have hlen := (hF.row hx).len
  refine call35 (by simp) ?_
  simp only [Try.f35, Option.getD_some]
  repeat' (first
    | (with_reducible first | refine seq_normal ?_ | (refine hK _ _ ?_; clear hK K) | refine x_seq (fun K hK => ?_) | refine x_nil ?_ | refine x_block ?_ | refine x_skip ?_ | refine x_exit ?_ | refine x_ret ?_ | refine x_label ?_ | refine x_scope ?_ | (refine seq_ret ?_; clear hK K) | (refine seq_exit ?_; clear hK K) | refine block_normal ?_ | refine block_ret ?_ | refine block_exit ?_ | refine loop_exit ?_ | refine loop_ret ?_)
    | ((with_reducible refine x_reg_lit ?hq ?_); case hq => rfl)
    | ((first | (with_reducible first | refine x_op (fun K hK => ?_) | refine end_ret ?_ | refine end_normal ?_) | ((with_reducible refine x_guard_yes ?hy (fun K hK => ?_)); case hy => rfl)); simp only [go_sem, Int.cast_ofNat_Int, Nat.reduceEqDiff, Nat.reduceAdd, Nat.reduceMul, Nat.reduceLeDiff, Nat.reduceLT, Int.reduceLT, Int.reduceLE, Int.reduceEq, Int.reduceNeg, Int.reduceToNat, Nat.reducePow, reduceIte, reduceCtorEq])
    | ((with_reducible first | refine x_guard_no ?hy ?_ | refine x_cond_true ?hy ?_); case hy => rfl)
    | ((with_reducible first | refine x_guard_none ?hy ?_ | refine x_cond_false ?hy ?_); case hy => rfl)
    | ((with_reducible refine block_exit_ne ?hy ?_); case hy => decide))
  refine node_ok hF.mem hU ?_
  repeat' (first
    | (with_reducible first | refine seq_normal ?_ | (refine hK _ _ ?_; clear hK K) | refine x_seq (fun K hK => ?_) | refine x_nil ?_ | refine x_block ?_ | refine x_skip ?_ | refine x_exit ?_ | refine x_ret ?_ | refine x_label ?_ | refine x_scope ?_ | (refine seq_ret ?_; clear hK K) | (refine seq_exit ?_; clear hK K) | refine block_normal ?_ | refine block_ret ?_ | refine block_exit ?_ | refine loop_exit ?_ | refine loop_ret ?_)
    | ((with_reducible refine x_reg_lit ?hq ?_); case hq => rfl)
    | ((first | (with_reducible first | refine x_op (fun K hK => ?_) | refine end_ret ?_ | refine end_normal ?_) | ((with_reducible refine x_guard_yes ?hy (fun K hK => ?_)); case hy => rfl)); simp only [go_sem, Int.cast_ofNat_Int, Nat.reduceEqDiff, Nat.reduceAdd, Nat.reduceMul, Nat.reduceLeDiff, Nat.reduceLT, Int.reduceLT, Int.reduceLE, Int.reduceEq, Int.reduceNeg, Int.reduceToNat, Nat.reducePow, reduceIte, reduceCtorEq])
    | ((with_reducible first | refine x_guard_no ?hy ?_ | refine x_cond_true ?hy ?_); case hy => rfl)
    | ((with_reducible first | refine x_guard_none ?hy ?_ | refine x_cond_false ?hy ?_); case hy => rfl)
    | ((with_reducible refine block_exit_ne ?hy ?_); case hy => decide))
  refine splay_row hF hx hk (hF.apart hx) ?_
  intro H2 N2 a b hF2 ht e hf hoff
  have c6 := (hF2.mem.nd k hU).cellOf (i := 6) rfl
  have em : (N2 k).many = (xs.length : Int) := by
    obtain ⟨_, ek, _⟩ := ht
    rw [ek, ← e]; rfl
  rw [em] at c6
  have h2 : ∀ b, Foot f p g A nb b → b < H2.size := fun b hb => hF2.mem.lt hb
  have hs2 := hf.size
  have tb : (xs.length * 8 ≤ 281474976710656) = True := by simp; omega
  repeat' (first
    | (with_reducible first | refine seq_normal ?_ | (refine hK _ _ ?_; clear hK K) | refine x_seq (fun K hK => ?_) | refine x_nil ?_ | refine x_block ?_ | refine x_skip ?_ | refine x_exit ?_ | refine x_ret ?_ | refine x_label ?_ | refine x_scope ?_ | (refine seq_ret ?_; clear hK K) | (refine seq_exit ?_; clear hK K) | refine block_normal ?_ | refine block_ret ?_ | refine block_exit ?_ | refine loop_exit ?_ | refine loop_ret ?_)
    | ((with_reducible refine x_reg_lit ?hq ?_); case hq => rfl)
    | ((first | (with_reducible first | refine x_op (fun K hK => ?_) | refine end_ret ?_ | refine end_normal ?_) | ((with_reducible refine x_guard_yes ?hy (fun K hK => ?_)); case hy => rfl)); simp only [go_sem, Int.cast_ofNat_Int, Nat.reduceEqDiff, Nat.reduceAdd, Nat.reduceMul, Nat.reduceLeDiff, Nat.reduceLT, Int.reduceLT, Int.reduceLE, Int.reduceEq, Int.reduceNeg, Int.reduceToNat, Nat.reducePow, reduceIte, reduceCtorEq])
    | ((with_reducible first | refine x_guard_no ?hy ?_ | refine x_cond_true ?hy ?_); case hy => rfl)
    | ((with_reducible first | refine x_guard_none ?hy ?_ | refine x_cond_false ?hy ?_); case hy => rfl)
    | ((with_reducible refine block_exit_ne ?hy ?_); case hy => decide))
  refine node_ok hF2.mem hU ?_
  repeat' (first
    | (with_reducible first | refine seq_normal ?_ | (refine hK _ _ ?_; clear hK K) | refine x_seq (fun K hK => ?_) | refine x_nil ?_ | refine x_block ?_ | refine x_skip ?_ | refine x_exit ?_ | refine x_ret ?_ | refine x_label ?_ | refine x_scope ?_ | (refine seq_ret ?_; clear hK K) | (refine seq_exit ?_; clear hK K) | refine block_normal ?_ | refine block_ret ?_ | refine block_exit ?_ | refine loop_exit ?_ | refine loop_ret ?_)
    | ((with_reducible refine x_reg_lit ?hq ?_); case hq => rfl)
    | ((first | (with_reducible first | refine x_op (fun K hK => ?_) | refine end_ret ?_ | refine end_normal ?_) | ((with_reducible refine x_guard_yes ?hy (fun K hK => ?_)); case hy => rfl)); simp only [go_sem, Int.cast_ofNat_Int, Nat.reduceEqDiff, Nat.reduceAdd, Nat.reduceMul, Nat.reduceLeDiff, Nat.reduceLT, Int.reduceLT, Int.reduceLE, Int.reduceEq, Int.reduceNeg, Int.reduceToNat, Nat.reducePow, reduceIte, reduceCtorEq, c6, tb])
    | ((with_reducible first | refine x_guard_no ?hy ?_ | refine x_cond_true ?hy ?_); case hy => rfl)
    | ((with_reducible first | refine x_guard_none ?hy ?_ | refine x_cond_false ?hy ?_); case hy => rfl)
    | ((with_reducible refine block_exit_ne ?hy ?_); case hy => decide))
  have rl : (repL xs.length [Value.int .i64 0]).length = xs.length := by simp [repL_length]
  have r6 := IR.fresh H2 (repL xs.length [Value.int .i64 0]) 3
  rw [rl] at r6
  generalize hH3 : H2.push _ = H3 at r6 ⊢
  have hf23 : Fr (fun _ => False) H2 H3 := by rw [← hH3]; exact (Fr.refl _ _).push _
  have hF3 := hF2.grow hf23
  have hs3 := hf23.size
  clear hH3
  refine x_loop (fun m e' H' => ∃ (t : Tr) (up : Nat) (st : List (Nat × Tr)) (os : List Nat) (B6 B7 : Option Nat) (v6 v7 : Value), FoAt H' f p g A nb N2 S ∧ Fr (fun b => H2.size ≤ b) H2 H' ∧ e' 1 = .int .i64 (t.root : Nat) ∧ e' 6 = v6 ∧ e' 7 = v7 ∧ TrAt N2 S.it up t ∧ StOk A N2 S.it st ∧
      IR H' B6 v6 (os.map Int.ofNat) ∧ IR H' B7 v7 ((st.map (·.1)).map Int.ofNat) ∧ (∀ b, B6 = some b → H2.size ≤ b ∧ B7 ≠ some b) ∧ (∀ b, B7 = some b → H2.size ≤ b) ∧ os ++ t.list ++ stL st = xs ∧ m = xs.length - os.length)
    xs.length ⟨.node a k b, 0, [], [], some H2.size, none, _, _, hF3, hf23.mono (fun _ _ h => h.elim), rfl, rfl, rfl, ht, (fun x h => by cases h), r6, IR.nil H3, (fun b hb => by obtain rfl := Option.some.inj hb; exact ⟨Nat.le_refl _, by simp⟩), (fun b hb => by cases hb), by simp [stL]; exact e, by simp⟩ ?_
  rintro m e1 H4 ⟨t, up, st, os, B6, B7, v6, v7, hF4, hf4, i1, i6, i7, ht4, hst, s6, s7, d6, d7, hcat, rfl⟩ hoff4
  have i0 := (hoff4 0 rfl).trans rfl
  clear hoff4
  obtain ⟨a7, c7, hv7⟩ := s7.slice
  simp only [List.length_map] at hv7
  have i7' := i7.trans hv7
  have hs4 := hf4.size
  have hfin : Fr (NB A nb) H H4 := by
    refine hf.trans' hf4 fun b hb hle => ?_
    omega
  by_cases hend : t = .nil ∧ st = []
  · obtain ⟨rfl, rfl⟩ := hend
    have i1' : e1 1 = .int .i64 0 := i1
    have q1 : ((0 : Int) != 0) = false := rfl
    have eos : os = xs := by simpa [Tr.list, stL] using hcat
    have i7'' : e1 7 = .slice a7 0 c7 := i7'
    repeat' (first
      | (with_reducible first | refine seq_normal ?_ | (refine hK _ _ ?_; clear hK K) | refine x_seq (fun K hK => ?_) | refine x_nil ?_ | refine x_block ?_ | refine x_skip ?_ | refine x_exit ?_ | refine x_ret ?_ | refine x_label ?_ | refine x_scope ?_ | (refine seq_ret ?_; clear hK K) | (refine seq_exit ?_; clear hK K) | refine block_normal ?_ | refine block_ret ?_ | refine block_exit ?_ | refine loop_exit ?_ | refine loop_ret ?_)
      | ((with_reducible refine x_reg_lit ?hq ?_); case hq => rfl)
      | ((first | (with_reducible first | refine x_op (fun K hK => ?_) | refine end_ret ?_ | refine end_normal ?_) | ((with_reducible refine x_guard_yes ?hy (fun K hK => ?_)); case hy => rfl)); simp only [go_sem, Int.cast_ofNat_Int, Nat.reduceEqDiff, Nat.reduceAdd, Nat.reduceMul, Nat.reduceLeDiff, Nat.reduceLT, Int.reduceLT, Int.reduceLE, Int.reduceEq, Int.reduceNeg, Int.reduceToNat, Nat.reducePow, reduceIte, reduceCtorEq, i1', i7'', q1, Int.natCast_zero, Int.lt_irrefl])
      | ((with_reducible first | refine x_guard_no ?hy ?_ | refine x_cond_true ?hy ?_); case hy => rfl)
      | ((with_reducible first | refine x_guard_none ?hy ?_ | refine x_cond_false ?hy ?_); case hy => rfl)
      | ((with_reducible refine block_exit_ne ?hy ?_); case hy => decide))
    rw [eos] at s6
    rw [i6]
    exact fin _ _ _ _ hF4 s6 (fun b hb => by have := (d6 b hb).1; omega) hfin
  · have hos : os.length < xs.length := by
      rw [← hcat]
      by_cases hs : st = []
      · have ht0 : t ≠ .nil := fun h => hend ⟨h, hs⟩
        cases t with
        | nil => exact absurd rfl ht0
        | node l h r => simp [Tr.list]; omega
      · obtain ⟨x, hx'⟩ := List.exists_mem_of_ne_nil st hs
        have : x.1 ∈ stL st := by unfold stL; rw [List.mem_flatMap]; exact ⟨x, List.mem_reverse.2 hx', .head _⟩
        have := List.length_pos_of_mem this
        simp; omega
    have hgo : t.root ≠ 0 ∨ (t.root = 0 ∧ 0 < st.length) := by
      by_cases h0 : t.root = 0
      · refine .inr ⟨h0, List.length_pos_iff.2 fun hs => hend ⟨nil_of_root ht4 h0, hs⟩⟩
      · exact .inl h0
    have rest : True := trivial
    rcases hgo with h0 | ⟨h0, hst0⟩
    case' inl =>
      have q1 : ((t.root : Int) != 0) = true := by simp [h0]
      repeat' (first
        | (with_reducible first | refine seq_normal ?_ | (refine hK _ _ ?_; clear hK K) | refine x_seq (fun K hK => ?_) | refine x_nil ?_ | refine x_block ?_ | refine x_skip ?_ | refine x_exit ?_ | refine x_ret ?_ | refine x_label ?_ | refine x_scope ?_ | (refine seq_ret ?_; clear hK K) | (refine seq_exit ?_; clear hK K) | refine block_normal ?_ | refine block_ret ?_ | refine block_exit ?_ | refine loop_exit ?_ | refine loop_ret ?_)
        | ((with_reducible refine x_reg_lit ?hq ?_); case hq => rfl)
        | ((first | (with_reducible first | refine x_op (fun K hK => ?_) | refine end_ret ?_ | refine end_normal ?_) | ((with_reducible refine x_guard_yes ?hy (fun K hK => ?_)); case hy => rfl)); simp only [go_sem, Int.cast_ofNat_Int, Nat.reduceEqDiff, Nat.reduceAdd, Nat.reduceMul, Nat.reduceLeDiff, Nat.reduceLT, Int.reduceLT, Int.reduceLE, Int.reduceEq, Int.reduceNeg, Int.reduceToNat, Nat.reducePow, reduceIte, reduceCtorEq, i1, q1])
        | ((with_reducible first | refine x_guard_no ?hy ?_ | refine x_cond_true ?hy ?_); case hy => rfl)
        | ((with_reducible first | refine x_guard_none ?hy ?_ | refine x_cond_false ?hy ?_); case hy => rfl)
        | ((with_reducible refine block_exit_ne ?hy ?_); case hy => decide))
    case' inr =>
      have q1 : ((t.root : Int) != 0) = false := by simp [h0]
      have q2 : (0 < st.length) = True := by simp; omega
      have q3 : ((0 : Int) < (st.length : Int)) = True := by simp; omega
      repeat' (first
        | (with_reducible first | refine seq_normal ?_ | (refine hK _ _ ?_; clear hK K) | refine x_seq (fun K hK => ?_) | refine x_nil ?_ | refine x_block ?_ | refine x_skip ?_ | refine x_exit ?_ | refine x_ret ?_ | refine x_label ?_ | refine x_scope ?_ | (refine seq_ret ?_; clear hK K) | (refine seq_exit ?_; clear hK K) | refine block_normal ?_ | refine block_ret ?_ | refine block_exit ?_ | refine loop_exit ?_ | refine loop_ret ?_)
        | ((with_reducible refine x_reg_lit ?hq ?_); case hq => rfl)
        | ((first | (with_reducible first | refine x_op (fun K hK => ?_) | refine end_ret ?_ | refine end_normal ?_) | ((with_reducible refine x_guard_yes ?hy (fun K hK => ?_)); case hy => rfl)); simp only [go_sem, Int.cast_ofNat_Int, Nat.reduceEqDiff, Nat.reduceAdd, Nat.reduceMul, Nat.reduceLeDiff, Nat.reduceLT, Int.reduceLT, Int.reduceLE, Int.reduceEq, Int.reduceNeg, Int.reduceToNat, Nat.reducePow, reduceIte, reduceCtorEq, i1, i7', q1, q2, q3])
        | ((with_reducible first | refine x_guard_no ?hy ?_ | refine x_cond_true ?hy ?_); case hy => rfl)
        | ((with_reducible first | refine x_guard_none ?hy ?_ | refine x_cond_false ?hy ?_); case hy => rfl)
        | ((with_reducible refine block_exit_ne ?hy ?_); case hy => decide))
    all_goals
      refine all_inner (H2 := H2) hF4 h2 hs4 hx (by exact i0) (by exact i1) (by exact i6) (by exact i7) ht4 hst s6 s7 d6 d7 hcat ?_
      intro e5 H5 st5 B5 v5 j0 j1 j6 j7 hF5 hst5 r6' r7' f6 f7 hcat5 hemp5 hf5
      obtain ⟨st', x, rfl⟩ : ∃ st' x, st5 = st' ++ [x] := by
        rcases List.eq_nil_or_concat st5 with h | ⟨st', x, h⟩
        · obtain ⟨h1, h2⟩ := hemp5 h
          exact absurd ⟨h2, h1⟩ hend
        · exact ⟨st', x, by simpa using h⟩
      obtain ⟨k5, r5⟩ := x
      obtain ⟨hU5, er5, ht5⟩ := hst5 (k5, r5) (by simp)
      simp only [List.map_append, List.map_cons, List.map_nil] at r7'
      obtain ⟨g7, c7', rst, hg7, hv5, _, _, _⟩ := r7'.row (by simp)
      simp only [List.length_append, List.length_map, List.length_singleton] at hv5
      have j7' := j7.trans hv5
      rw [hg7, hv5] at r7'
      have rx := r7'.cell (i := st'.length) (x := (k5 : Int)) (by simp)
      have r7p := r7'.pop
      have ew : IntKind.i64.wrap (((st'.length + 1 : Nat) : Int) - 1) = (st'.length : Int) := by
        have : st'.length ≤ 9000000000000000000 := by
          have h1 : (stL (st' ++ [(k5, r5)])).length ≤ xs.length := by rw [← hcat5]; simp
          rw [stL_push] at h1
          have := stL_len st'
          simp at h1
          omega
        rw [wrap_i64] <;> omega
      have hle5 : st'.length < st'.length + 1 := by omega
      have hle6 : (st'.length ≤ c7') := by
        obtain ⟨_, h | ⟨g', c', rest', q1, q2, q3, q4, q5⟩⟩ := r7p
        · cases h.1
        · simp only [Value.slice.injEq] at q2
          obtain ⟨_, q21, q22⟩ := q2
          simp only [List.length_map] at q5
          omega
      repeat' (first
        | (with_reducible first | refine seq_normal ?_ | (refine hK _ _ ?_; clear hK K) | refine x_seq (fun K hK => ?_) | refine x_nil ?_ | refine x_block ?_ | refine x_skip ?_ | refine x_exit ?_ | refine x_ret ?_ | refine x_label ?_ | refine x_scope ?_ | (refine seq_ret ?_; clear hK K) | (refine seq_exit ?_; clear hK K) | refine block_normal ?_ | refine block_ret ?_ | refine block_exit ?_ | refine loop_exit ?_ | refine loop_ret ?_)
        | ((with_reducible refine x_reg_lit ?hq ?_); case hq => rfl)
        | ((first | (with_reducible first | refine x_op (fun K hK => ?_) | refine end_ret ?_ | refine end_normal ?_) | ((with_reducible refine x_guard_yes ?hy (fun K hK => ?_)); case hy => rfl)); simp only [go_sem, Int.cast_ofNat_Int, Nat.reduceEqDiff, Nat.reduceAdd, Nat.reduceMul, Nat.reduceLeDiff, Nat.reduceLT, Int.reduceLT, Int.reduceLE, Int.reduceEq, Int.reduceNeg, Int.reduceToNat, Nat.reducePow, reduceIte, reduceCtorEq, j0, j1, j6, j7', ew, hle5, hle6, rx, ite_self])
        | ((with_reducible first | refine x_guard_no ?hy ?_ | refine x_cond_true ?hy ?_); case hy => rfl)
        | ((with_reducible first | refine x_guard_none ?hy ?_ | refine x_cond_false ?hy ?_); case hy => rfl)
        | ((with_reducible refine block_exit_ne ?hy ?_); case hy => decide))
      refine append_ir elems23 tl3 r6' rfl (by decide) (by simp; omega) rfl ?_
      intro v8 H8 B8 s8 hf8 hB8
      have hF8 := hF5.other h2 hf8 fun b hb => (f6 b hb).1
      have c5 := (hF8.mem.nd k5 hU5).cellOf (i := 5) rfl
      rw [er5] at c5
      have hf28 : Fr (fun b => H2.size ≤ b) H2 H8 := (hf4.trans hf5).trans (hf8.mono fun b _ e => (f6 b e).1)
      repeat' (first
        | (with_reducible first | refine seq_normal ?_ | (refine hK _ _ ?_; clear hK K) | refine x_seq (fun K hK => ?_) | refine x_nil ?_ | refine x_block ?_ | refine x_skip ?_ | refine x_exit ?_ | refine x_ret ?_ | refine x_label ?_ | refine x_scope ?_ | (refine seq_ret ?_; clear hK K) | (refine seq_exit ?_; clear hK K) | refine block_normal ?_ | refine block_ret ?_ | refine block_exit ?_ | refine loop_exit ?_ | refine loop_ret ?_)
        | ((with_reducible refine x_reg_lit ?hq ?_); case hq => rfl)
        | ((first | (with_reducible first | refine x_op (fun K hK => ?_) | refine end_ret ?_ | refine end_normal ?_) | ((with_reducible refine x_guard_yes ?hy (fun K hK => ?_)); case hy => rfl)); simp only [go_sem, Int.cast_ofNat_Int, Nat.reduceEqDiff, Nat.reduceAdd, Nat.reduceMul, Nat.reduceLeDiff, Nat.reduceLT, Int.reduceLT, Int.reduceLE, Int.reduceEq, Int.reduceNeg, Int.reduceToNat, Nat.reducePow, reduceIte, reduceCtorEq, j0, j1, j6, j7'])
        | ((with_reducible first | refine x_guard_no ?hy ?_ | refine x_cond_true ?hy ?_); case hy => rfl)
        | ((with_reducible first | refine x_guard_none ?hy ?_ | refine x_cond_false ?hy ?_); case hy => rfl)
        | ((with_reducible refine block_exit_ne ?hy ?_); case hy => decide))
      refine node_ok hF8.mem hU5 ?_
      repeat' (first
        | (with_reducible first | refine seq_normal ?_ | (refine hK _ _ ?_; clear hK K) | refine x_seq (fun K hK => ?_) | refine x_nil ?_ | refine x_block ?_ | refine x_skip ?_ | refine x_exit ?_ | refine x_ret ?_ | refine x_label ?_ | refine x_scope ?_ | (refine seq_ret ?_; clear hK K) | (refine seq_exit ?_; clear hK K) | refine block_normal ?_ | refine block_ret ?_ | refine block_exit ?_ | refine loop_exit ?_ | refine loop_ret ?_)
        | ((with_reducible refine x_reg_lit ?hq ?_); case hq => rfl)
        | ((first | (with_reducible first | refine x_op (fun K hK => ?_) | refine end_ret ?_ | refine end_normal ?_) | ((with_reducible refine x_guard_yes ?hy (fun K hK => ?_)); case hy => rfl)); simp only [go_sem, Int.cast_ofNat_Int, Nat.reduceEqDiff, Nat.reduceAdd, Nat.reduceMul, Nat.reduceLeDiff, Nat.reduceLT, Int.reduceLT, Int.reduceLE, Int.reduceEq, Int.reduceNeg, Int.reduceToNat, Nat.reducePow, reduceIte, reduceCtorEq, c5])
        | ((with_reducible first | refine x_guard_no ?hy ?_ | refine x_cond_true ?hy ?_); case hy => rfl)
        | ((with_reducible first | refine x_guard_none ?hy ?_ | refine x_cond_false ?hy ?_); case hy => rfl)
        | ((with_reducible refine block_exit_ne ?hy ?_); case hy => decide))
      have s7f : IR H8 (some g7) (.slice (some ⟨g7, 0, none⟩) st'.length c7') ((st'.map (·.1)).map Int.ofNat) := by
        refine (IR.frame ?_ hf8 fun b hb e => (f6 b e).2 (hg7.trans hb))
        simpa using r7p
      have hs5 := hf5.size
      refine loop_normal (m' := xs.length - (os ++ [k5]).length) (by simp; omega) ⟨r5, k5, st', os ++ [k5], B8, some g7, v8, _, hF8, hf28, rfl, rfl, rfl, ht5, (fun x hx' => hst5 x (by simp [hx'])), by simpa using s8, s7f, ?_, ?_, ?_, rfl⟩
      · intro b hb
        rcases hB8 with h | ⟨g', h1, h2'⟩
        · rw [h] at hb
          obtain ⟨a1, a2⟩ := f6 b hb
          exact ⟨a1, fun e => a2 (hg7.trans e)⟩
        · rw [h1] at hb
          obtain rfl := Option.some.inj hb
          refine ⟨by omega, fun e => ?_⟩
          obtain rfl := Option.some.inj e
          have := r7'.lt rfl
          omega
      · intro b hb
        exact f7 b (hg7.trans hb)
      · rw [← hcat5, stL_push]; simp
end
end Go.Proofs.Ytndkbhlfbeiniaa
