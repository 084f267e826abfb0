/-
  Splay forests as sequences: what only asks.
-/
import Derived.Test.YtndkbhlfbeiniaaSpE
namespace Go.Proofs.Ytndkbhlfbeiniaa
open Go Go.Hp Go.Sp
set_option linter.all false
set_option maxRecDepth 100000
set_option maxHeartbeats 1600000

theorem rows_apart {α : Type} : ∀ {l : List (List α)}, l.flatten.Nodup → ∀ {xs ys : List α}, xs ∈ l → ys ∈ l → ys = xs ∨ ∀ i ∈ ys, i ∉ xs
  | [], _, _, _, h, _ => by cases h
  | z :: l, hn, xs, ys, hx, hy => by
    rw [List.flatten_cons, List.nodup_append] at hn
    obtain ⟨h1, h2, h3⟩ := hn
    rcases List.mem_cons.1 hx with ex | hx'
    · rcases List.mem_cons.1 hy with ey | hy'
      · exact .inl (ey.trans ex.symm)
      · exact .inr fun i hi hi' => h3 i (ex ▸ hi') i (List.mem_flatten.2 ⟨ys, hy', hi⟩) rfl
    · rcases List.mem_cons.1 hy with ey | hy'
      · exact .inr fun i hi hi' => h3 i (ey ▸ hi) i (List.mem_flatten.2 ⟨xs, hx', hi'⟩) rfl
      · exact rows_apart h2 hx' hy'
section
variable {H H' : Heap} {f p g : Nat} {A : Ar} {nb : Nat → Nat} {N : Nodes} {S : Fo} {xs : List Nat} {k : Nat}
theorem FoAt.apart (h : FoAt H f p g A nb N S) (hx : xs ∈ S.rows) : ∀ ys ∈ S.rows, ys = xs ∨ ∀ i ∈ ys, i ∉ xs := fun ys hy => rows_apart h.nodup hx hy
theorem FoAt.u (h : FoAt H f p g A nb N S) (hx : xs ∈ S.rows) (hk : k ∈ xs) : U A k := (h.use k).1 (List.mem_flatten.2 ⟨xs, hx, hk⟩)
/-- The forest's blocks. -/
def Foot (f p g : Nat) (A : Ar) (nb : Nat → Nat) (b : Nat) : Prop := b = f ∨ b = p ∨ b = g ∨ NB A nb b
theorem FAt.frame {T : Nat → Prop} (h : FAt H f p g A nb N) (hf : Fr T H H') (hT : ∀ b, Foot f p g A nb b → ¬ T b) : FAt H' f p g A nb N :=
  ⟨h.ff.frame hf (hT _ (.inl rfl)), h.ar.frame hf (hT _ (.inr (.inl rfl))) (hT _ (.inr (.inr (.inl rfl)))), h.use, fun k hk => (h.nd k hk).frame hf (hT _ (.inr (.inr (.inr ⟨k, hk, rfl⟩)))), h.inj, h.dis, h.fp, h.cl⟩
theorem FAt.lt (h : FAt H f p g A nb N) {b : Nat} (hb : Foot f p g A nb b) : b < H.size := by
  obtain ⟨c, rest, b1, b2, _⟩ := h.ar.at_
  rcases hb with rfl | rfl | rfl | ⟨k, hk, rfl⟩
  · exact h.ff.lt
  · exact b1.lt
  · exact b2.lt
  · exact (h.nd k hk).lt
theorem FoAt.frame {T : Nat → Prop} (h : FoAt H f p g A nb N S) (hf : Fr T H H') (hT : ∀ b, Foot f p g A nb b → ¬ T b) : FoAt H' f p g A nb N S := ⟨h.mem.frame hf hT, h.trees, h.nodup, h.use, h.may⟩
theorem sum_ok {K : Value → Heap → Prop} (hF : FoAt H f p g A nb N S) (hx : xs ∈ S.rows) (hk : k ∈ xs)
    (fin : ∀ H' N', FoAt H' f p g A nb N' S → Fr (NB A nb) H H' → K (.tuple #[(aggOf S.it xs).val, .int .i64 0]) H') :
    CallsH Try.prog 20 #[.pointer (some ⟨f, 0, none⟩), .int .i64 k] H K := by
  have hU := hF.u hx hk
  have hlt := (hF.mem.nd k hU).lt
  have hF1 := hF.grow (H' := H.push (.cells #[.int .i64 0, .int .i64 0, .int .i64 0, .int .i64 0, .int .i64 0] 42)) ((Fr.refl _ _).push _)
  have hc1 : Cells [(H.size, 0, .int .i64 0), (H.size, 1, .int .i64 0), (H.size, 2, .int .i64 0), (H.size, 3, .int .i64 0), (H.size, 4, .int .i64 0)] (H.push (.cells #[.int .i64 0, .int .i64 0, .int .i64 0, .int .i64 0, .int .i64 0] 42)) := by
    simp only [go_sem, Int.cast_ofNat_Int, Nat.reduceEqDiff, Nat.reduceAdd, Nat.reduceMul, Nat.reduceLeDiff, Nat.reduceLT, Int.reduceLT, Int.reduceLE, Int.reduceEq, Int.reduceNeg, Int.reduceToNat, Nat.reducePow, reduceIte, reduceCtorEq, Cells, and_true, hcell_push, hcell_top, okW_push, okW_top, hcell_hset_ne, hcell_hset_off, hcell_hset_eq, okW_hset, hset_size, Array.size_push, Nat.lt_add_one, ne_add_one, add_one_ne, Nat.add_assoc, add_same, add_lt_same, Nat.reduceEqDiff, lt_add_k, add_k_ne, ne_add_k]
  have hblk := Blk.new H [.int .i64 0, .int .i64 0, .int .i64 0, .int .i64 0, .int .i64 0] 42
  refine call20 (by simp) ?_
  simp only [Try.f20, Option.getD_some]
  repeat' (first
    | (with_reducible first | refine seq_normal ?_ | (refine hK _ _ ?_; clear hK K) | refine x_seq (fun K hK => ?_) | refine x_nil ?_ | refine x_block ?_ | refine x_skip ?_ | refine x_exit ?_ | refine x_ret ?_ | refine x_label ?_ | refine x_scope ?_ | (refine seq_ret ?_; clear hK K) | (refine seq_exit ?_; clear hK K) | refine block_normal ?_ | refine block_ret ?_ | refine block_exit ?_ | refine loop_exit ?_ | refine loop_ret ?_)
    | ((with_reducible refine x_reg_lit ?hq ?_); case hq => rfl)
    | ((first | (with_reducible first | refine x_op (fun K hK => ?_) | refine end_ret ?_ | refine end_normal ?_) | ((with_reducible refine x_guard_yes ?hy (fun K hK => ?_)); case hy => rfl)); simp only [go_sem, Int.cast_ofNat_Int, Nat.reduceEqDiff, Nat.reduceAdd, Nat.reduceMul, Nat.reduceLeDiff, Nat.reduceLT, Int.reduceLT, Int.reduceLE, Int.reduceEq, Int.reduceNeg, Int.reduceToNat, Nat.reducePow, reduceIte, reduceCtorEq])
    | ((with_reducible first | refine x_guard_no ?hy ?_ | refine x_cond_true ?hy ?_); case hy => rfl)
    | ((with_reducible first | refine x_guard_none ?hy ?_ | refine x_cond_false ?hy ?_); case hy => rfl)
    | ((with_reducible refine block_exit_ne ?hy ?_); case hy => decide))
  refine node_ok hF1.mem hU ?_
  repeat' (first
    | (with_reducible first | refine seq_normal ?_ | (refine hK _ _ ?_; clear hK K) | refine x_seq (fun K hK => ?_) | refine x_nil ?_ | refine x_block ?_ | refine x_skip ?_ | refine x_exit ?_ | refine x_ret ?_ | refine x_label ?_ | refine x_scope ?_ | (refine seq_ret ?_; clear hK K) | (refine seq_exit ?_; clear hK K) | refine block_normal ?_ | refine block_ret ?_ | refine block_exit ?_ | refine loop_exit ?_ | refine loop_ret ?_)
    | ((with_reducible refine x_reg_lit ?hq ?_); case hq => rfl)
    | ((first | (with_reducible first | refine x_op (fun K hK => ?_) | refine end_ret ?_ | refine end_normal ?_) | ((with_reducible refine x_guard_yes ?hy (fun K hK => ?_)); case hy => rfl)); simp only [go_sem, Int.cast_ofNat_Int, Nat.reduceEqDiff, Nat.reduceAdd, Nat.reduceMul, Nat.reduceLeDiff, Nat.reduceLT, Int.reduceLT, Int.reduceLE, Int.reduceEq, Int.reduceNeg, Int.reduceToNat, Nat.reducePow, reduceIte, reduceCtorEq])
    | ((with_reducible first | refine x_guard_no ?hy ?_ | refine x_cond_true ?hy ?_); case hy => rfl)
    | ((with_reducible first | refine x_guard_none ?hy ?_ | refine x_cond_false ?hy ?_); case hy => rfl)
    | ((with_reducible refine block_exit_ne ?hy ?_); case hy => decide))
  refine splay_row hF1 hx hk (hF.apart hx) ?_
  intro H2 N2 a b hF2 ht e hf hoff
  have hn := hF2.mem.nd k hU
  have hne : ¬ H.size = nb k := by omega
  have hne' : ¬ nb k = H.size := by omega
  have hnb : ¬ NB A nb H.size := by
    rintro ⟨j, hj, ej⟩
    have := (hF.mem.nd j hj).lt
    omega
  have hb2 := hblk.frame hf hnb
  have w0 := hb2.okW (i := 0) (by simp)
  have w1 := hb2.okW (i := 1) (by simp)
  have w2 := hb2.okW (i := 2) (by simp)
  have w3 := hb2.okW (i := 3) (by simp)
  have w4 := hb2.okW (i := 4) (by simp)
  have eN : (N2 k).total = aggOf S.it xs := by
    obtain ⟨_, ek, _⟩ := ht
    rw [ek, ← e]
    rfl
  have c7 := hn.cellOf (i := 7) rfl
  have c8 := hn.cellOf (i := 8) rfl
  have c9 := hn.cellOf (i := 9) rfl
  have c10 := hn.cellOf (i := 10) rfl
  have c11 := hn.cellOf (i := 11) rfl
  rw [eN] at c7 c8 c9 c10 c11
  repeat' (first
    | (with_reducible first | refine seq_normal ?_ | (refine hK _ _ ?_; clear hK K) | refine x_seq (fun K hK => ?_) | refine x_nil ?_ | refine x_block ?_ | refine x_skip ?_ | refine x_exit ?_ | refine x_ret ?_ | refine x_label ?_ | refine x_scope ?_ | (refine seq_ret ?_; clear hK K) | (refine seq_exit ?_; clear hK K) | refine block_normal ?_ | refine block_ret ?_ | refine block_exit ?_ | refine loop_exit ?_ | refine loop_ret ?_)
    | ((with_reducible refine x_reg_lit ?hq ?_); case hq => rfl)
    | ((first | (with_reducible first | refine x_op (fun K hK => ?_) | refine end_ret ?_ | refine end_normal ?_) | ((with_reducible refine x_guard_yes ?hy (fun K hK => ?_)); case hy => rfl)); simp only [go_sem, Int.cast_ofNat_Int, Nat.reduceEqDiff, Nat.reduceAdd, Nat.reduceMul, Nat.reduceLeDiff, Nat.reduceLT, Int.reduceLT, Int.reduceLE, Int.reduceEq, Int.reduceNeg, Int.reduceToNat, Nat.reducePow, reduceIte, reduceCtorEq, c7, c8, c9, c10, c11, w0, w1, w2, w3, w4, okW_hset, hcell_hset_eq, hcell_hset_ne, hcell_hset_off, hne, hne'])
    | ((with_reducible first | refine x_guard_no ?hy ?_ | refine x_cond_true ?hy ?_); case hy => rfl)
    | ((with_reducible first | refine x_guard_none ?hy ?_ | refine x_cond_false ?hy ?_); case hy => rfl)
    | ((with_reducible refine block_exit_ne ?hy ?_); case hy => decide))
  have hfr : Fr (fun b => H.size ≤ b) H2 (hset (hset (hset (hset (hset H2 ⟨H.size, 0, none⟩ (.int .i64 (aggOf S.it xs).count)) ⟨H.size, 1, none⟩ (.int .i64 (aggOf S.it xs).sum)) ⟨H.size, 2, none⟩ (.int .i64 (aggOf S.it xs).least)) ⟨H.size, 3, none⟩ (.int .i64 (aggOf S.it xs).most)) ⟨H.size, 4, none⟩ (.int .i64 (aggOf S.it xs).flags)) := by
    have step : ∀ {H' : Heap} (o : Nat) (v : Value), Fr (fun b => H.size ≤ b) H2 H' → Fr (fun b => H.size ≤ b) H2 (hset H' ⟨H.size, o, none⟩ v) := fun o v h => Fr.set (S := fun b => H.size ≤ b) (a := ⟨H.size, o, none⟩) h (.inl (Nat.le_refl _)) v
    exact step 4 _ (step 3 _ (step 2 _ (step 1 _ (step 0 _ (Fr.refl _ _)))))
  refine fin _ N2 (hF2.frame hfr fun b hb hle => ?_) ?_
  · have := hF.mem.lt hb; omega
  · refine (((Fr.refl (NB A nb) H).push _).trans hf).trans' hfr fun b hb hle => ?_
    exact absurd hle (by omega)
end
end Go.Proofs.Ytndkbhlfbeiniaa
