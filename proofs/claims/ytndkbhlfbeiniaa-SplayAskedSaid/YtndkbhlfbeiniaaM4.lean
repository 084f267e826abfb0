/-
  Splay forests as sequences: splay.
  Splay forests as sequences: what only asks.
  Splay forests as sequences: Get, Rank.
  Splay forests as sequences: what changes: Split.
  Splay forests as sequences: same.
  Splay forests as sequences: a node more, a node less, in memory; the forest for whoever uses it.
  Splay forests for whoever uses them: what hides the nodes' places.
  Splay forests as sequences: may, New, Make, Free, Set.
  Splay forests as sequences: end, Join; Make, Free, Set.
  Splay forests for whoever uses them: Make, Free, Set.
-/
import Derived.Test.YtndkbhlfbeiniaaM3
import Derived.Test.YtndkbhlfbeiniaaSpW
import Derived.Test.YtndkbhlfbeiniaaSpK
import Derived.Test.YtndkbhlfbeiniaaSpL
import Derived.Test.YtndkbhlfbeiniaaArKeepsP
namespace Go.Sp
open Go Go.Hp
set_option linter.unusedVariables false

/-- A forest for whoever uses it: items by handle, the sequences. -/
structure Fo where
  it : Nat → Item
  rows : List (List Nat)
theorem find_path {k : Nat} : ∀ {t : Tr}, k ∈ t.list → ∃ (a b : Tr) (ps : List Fm), plug (.node a k b) ps = t
  | .nil, h => by simp [Tr.list] at h
  | .node l h r, hk => by
    have app : ∀ (ps qs : List Fm) (t : Tr), plug t (ps ++ qs) = plug (plug t ps) qs := by
      intro ps
      induction ps with
      | nil => intro qs t; rfl
      | cons f ps ih =>
        intro qs t
        obtain ⟨side, u, c⟩ := f
        cases side
        · exact ih qs _
        · exact ih qs _
    simp only [Tr.list, List.mem_append, List.mem_cons] at hk
    rcases hk with hk | rfl | hk
    · obtain ⟨a, b, ps, e⟩ := find_path hk
      exact ⟨a, b, ps ++ [⟨false, h, r⟩], by rw [app, e]; rfl⟩
    · exact ⟨l, r, [], rfl⟩
    · obtain ⟨a, b, ps, e⟩ := find_path hk
      exact ⟨a, b, ps ++ [⟨true, h, l⟩], by rw [app, e]; rfl⟩
end Go.Sp
namespace Go.Proofs.Ytndkbhlfbeiniaa
open Go Go.Hp Go.Sp
set_option linter.all false
set_option maxRecDepth 100000
set_option maxHeartbeats 1600000

structure FoAt (H : Heap) (f p g : Nat) (A : Ar) (nb : Nat → Nat) (N : Nodes) (S : Fo) : Prop where
  mem : FAt H f p g A nb N
  trees : ∀ xs ∈ S.rows, ∃ t, TrAt N S.it 0 t ∧ t.list = xs
  nodup : S.rows.flatten.Nodup
  use : ∀ h, h ∈ S.rows.flatten ↔ U A h
  may : ∀ h, U A h → May (S.it h)
section
variable {H H' : Heap} {f p g : Nat} {A : Ar} {nb : Nat → Nat} {N : Nodes} {S : Fo} {xs : List Nat} {k : Nat}
theorem FoAt.grow (h : FoAt H f p g A nb N S) (hf : Fr (fun _ => False) H H') : FoAt H' f p g A nb N S := ⟨h.mem.grow hf, h.trees, h.nodup, h.use, h.may⟩
theorem FoAt.len (h : FoAt H f p g A nb N S) : S.rows.flatten.length ≤ 4096 := by
  have hp : S.rows.flatten.Perm A.handles := by
    unfold Ar.handles
    rw [List.perm_ext_iff_of_nodup h.nodup (List.nodup_range.filter _)]
    intro i
    rw [h.use i]
    simp only [List.mem_filter, List.mem_range]
    refine ⟨fun hu => ?_, fun hu => hu.2⟩
    obtain ⟨v, hv⟩ := Option.isSome_iff_exists.1 hu
    exact ⟨Ar.get_some_lt hv, hu⟩
  have hm : A.many = A.handles.length := by
    have e : A.vals = (List.range A.vals.length).map A.get := by
      apply List.ext_getElem?
      intro i
      rcases Nat.lt_or_ge i A.vals.length with h' | h'
      · rw [Ar.get_eq h']; simp [h']
      · rw [List.getElem?_eq_none h', List.getElem?_eq_none (by simpa using h')]
    unfold Ar.many Ar.handles
    conv => lhs; rw [e]
    rw [List.filter_map, List.length_map]
    rfl
  rw [hp.length_eq, ← hm]
  exact Nat.le_trans h.mem.ar.ok.most h.mem.ar.ok.room
theorem FoAt.row (h : FoAt H f p g A nb N S) (hx : xs ∈ S.rows) : Row S.it xs where
  nd := (List.sublist_flatten_of_mem hx).nodup h.nodup
  may := fun i hi => h.may i ((h.use i).1 (List.mem_flatten.2 ⟨xs, hx, hi⟩))
  len := Nat.le_trans (List.sublist_flatten_of_mem hx).length_le h.len
theorem splay_row {K : Value → Heap → Prop} (hF : FoAt H f p g A nb N S) (hx : xs ∈ S.rows) (hk : k ∈ xs)
    (hd : ∀ ys ∈ S.rows, ys = xs ∨ ∀ i ∈ ys, i ∉ xs)
    (fin : ∀ H' N' a b, FoAt H' f p g A nb N' S → TrAt N' S.it 0 (.node a k b) → a.list ++ k :: b.list = xs → Fr (NB A nb) H H' → (∀ i, i ∉ xs → N' i = N i) → K (.tuple #[]) H') :
    CallsH Try.prog 40 #[.pointer (some ⟨f, 0, none⟩), .int .i64 k] H K := by
  obtain ⟨t, ht, e⟩ := hF.trees xs hx
  obtain ⟨a, b, ps, ep⟩ := find_path (t := t) (k := k) (by rw [e]; exact hk)
  have hU : U A k := (hF.use k).1 (List.mem_flatten.2 ⟨xs, hx, hk⟩)
  have hr := hF.row hx
  refine splay_ok (P := Below S.it k xs N) (m := ps.length) hF.mem hU ⟨⟨a, b, ps, rfl, by rw [ep]; exact ht, by rw [ep]; exact e⟩, fun _ _ => rfl⟩ (below_step hr) ?_
  rintro H' N' m' hF' ⟨⟨a', b', ps', rfl, ht', e'⟩, hoff⟩ hz hf
  have hup := (up_of ht').1
  have hps : ps' = [] := by
    cases ps' with
    | nil => rfl
    | cons fm ps' =>
      obtain ⟨_, hpath⟩ := (trAt_plug _ _).1 ht'
      have hf1 : fm.h ∈ ctx (fm :: ps') := by cases fm; simp [ctx]
      rw [hz] at hup
      exact absurd hf1 (by rw [show fm.h = 0 from hup.symm]; exact hpath.ne_zero)
  subst hps
  refine fin H' N' a' b' ⟨hF', fun ys hy => ?_, hF.nodup, hF.use, hF.may⟩ ht' e' hf hoff
  rcases hd ys hy with rfl | hdis
  · exact ⟨_, ht', e'⟩
  · obtain ⟨t2, h1, h2⟩ := hF.trees ys hy
    exact ⟨t2, h1.congr fun i hi => hoff i (hdis i (by rw [← h2]; exact hi)), h2⟩
end
end Go.Proofs.Ytndkbhlfbeiniaa

namespace Go.Proofs.Ytndkbhlfbeiniaa
open Go Go.Hp Go.Sp
set_option linter.all false
set_option maxRecDepth 100000
set_option maxHeartbeats 1600000

theorem rows_apart {α : Type} : ∀ {l : List (List α)}, l.flatten.Nodup → ∀ {xs ys : List α}, xs ∈ l → ys ∈ l → ys = xs ∨ ∀ i ∈ ys, i ∉ xs
  | [], _, _, _, h, _ => by cases h
  | z :: l, hn, xs, ys, hx, hy => by
    rw [List.flatten_cons, List.nodup_append] at hn
    obtain ⟨h1, h2, h3⟩ := hn
    rcases List.mem_cons.1 hx with ex | hx'
    · rcases List.mem_cons.1 hy with ey | hy'
      · exact .inl (ey.trans ex.symm)
      · exact .inr fun i hi hi' => h3 i (ex ▸ hi') i (List.mem_flatten.2 ⟨ys, hy', hi⟩) rfl
    · rcases List.mem_cons.1 hy with ey | hy'
      · exact .inr fun i hi hi' => h3 i (ey ▸ hi) i (List.mem_flatten.2 ⟨xs, hx', hi'⟩) rfl
      · exact rows_apart h2 hx' hy'
section
variable {H H' : Heap} {f p g : Nat} {A : Ar} {nb : Nat → Nat} {N : Nodes} {S : Fo} {xs : List Nat} {k : Nat}
theorem FoAt.apart (h : FoAt H f p g A nb N S) (hx : xs ∈ S.rows) : ∀ ys ∈ S.rows, ys = xs ∨ ∀ i ∈ ys, i ∉ xs := fun ys hy => rows_apart h.nodup hx hy
theorem FoAt.u (h : FoAt H f p g A nb N S) (hx : xs ∈ S.rows) (hk : k ∈ xs) : U A k := (h.use k).1 (List.mem_flatten.2 ⟨xs, hx, hk⟩)
/-- The forest's blocks. -/
def Foot (f p g : Nat) (A : Ar) (nb : Nat → Nat) (b : Nat) : Prop := b = f ∨ b = p ∨ b = g ∨ NB A nb b
theorem FAt.frame {T : Nat → Prop} (h : FAt H f p g A nb N) (hf : Fr T H H') (hT : ∀ b, Foot f p g A nb b → ¬ T b) : FAt H' f p g A nb N :=
  ⟨h.ff.frame hf (hT _ (.inl rfl)), h.ar.frame hf (hT _ (.inr (.inl rfl))) (hT _ (.inr (.inr (.inl rfl)))), h.use, fun k hk => (h.nd k hk).frame hf (hT _ (.inr (.inr (.inr ⟨k, hk, rfl⟩)))), h.inj, h.dis, h.fp, h.cl⟩
theorem FAt.lt (h : FAt H f p g A nb N) {b : Nat} (hb : Foot f p g A nb b) : b < H.size := by
  obtain ⟨c, rest, b1, b2, _⟩ := h.ar.at_
  rcases hb with rfl | rfl | rfl | ⟨k, hk, rfl⟩
  · exact h.ff.lt
  · exact b1.lt
  · exact b2.lt
  · exact (h.nd k hk).lt
theorem FoAt.frame {T : Nat → Prop} (h : FoAt H f p g A nb N S) (hf : Fr T H H') (hT : ∀ b, Foot f p g A nb b → ¬ T b) : FoAt H' f p g A nb N S := ⟨h.mem.frame hf hT, h.trees, h.nodup, h.use, h.may⟩
theorem sum_ok {K : Value → Heap → Prop} (hF : FoAt H f p g A nb N S) (hx : xs ∈ S.rows) (hk : k ∈ xs)
    (fin : ∀ H' N', FoAt H' f p g A nb N' S → Fr (NB A nb) H H' → K (.tuple #[(aggOf S.it xs).val, .int .i64 0]) H') :
    CallsH Try.prog 20 #[.pointer (some ⟨f, 0, none⟩), .int .i64 k] H K := by
  have hU := hF.u hx hk
  have hlt := (hF.mem.nd k hU).lt
  have hF1 := hF.grow (H' := H.push (.cells #[.int .i64 0, .int .i64 0, .int .i64 0, .int .i64 0, .int .i64 0] 42)) ((Fr.refl _ _).push _)
  have hc1 : Cells [(H.size, 0, .int .i64 0), (H.size, 1, .int .i64 0), (H.size, 2, .int .i64 0), (H.size, 3, .int .i64 0), (H.size, 4, .int .i64 0)] (H.push (.cells #[.int .i64 0, .int .i64 0, .int .i64 0, .int .i64 0, .int .i64 0] 42)) := by
    simp only [go_sem, Int.cast_ofNat_Int, Nat.reduceEqDiff, Nat.reduceAdd, Nat.reduceMul, Nat.reduceLeDiff, Nat.reduceLT, Int.reduceLT, Int.reduceLE, Int.reduceEq, Int.reduceNeg, Int.reduceToNat, Nat.reducePow, reduceIte, reduceCtorEq, Cells, and_true, hcell_push, hcell_top, okW_push, okW_top, hcell_hset_ne, hcell_hset_off, hcell_hset_eq, okW_hset, hset_size, Array.size_push, Nat.lt_add_one, ne_add_one, add_one_ne, Nat.add_assoc, add_same, add_lt_same, Nat.reduceEqDiff, lt_add_k, add_k_ne, ne_add_k]
  have hblk := Blk.new H [.int .i64 0, .int .i64 0, .int .i64 0, .int .i64 0, .int .i64 0] 42
  refine call20 (by simp) ?_
  simp only [Try.f20, Option.getD_some]
  repeat' (first
    | (with_reducible first | refine seq_normal ?_ | (refine hK _ _ ?_; clear hK K) | refine x_seq (fun K hK => ?_) | refine x_nil ?_ | refine x_block ?_ | refine x_skip ?_ | refine x_exit ?_ | refine x_ret ?_ | refine x_label ?_ | refine x_scope ?_ | (refine seq_ret ?_; clear hK K) | (refine seq_exit ?_; clear hK K) | refine block_normal ?_ | refine block_ret ?_ | refine block_exit ?_ | refine loop_exit ?_ | refine loop_ret ?_)
    | ((with_reducible refine x_reg_lit ?hq ?_); case hq => rfl)
    | ((first | (with_reducible first | refine x_op (fun K hK => ?_) | refine end_ret ?_ | refine end_normal ?_) | ((with_reducible refine x_guard_yes ?hy (fun K hK => ?_)); case hy => rfl)); simp only [go_sem, Int.cast_ofNat_Int, Nat.reduceEqDiff, Nat.reduceAdd, Nat.reduceMul, Nat.reduceLeDiff, Nat.reduceLT, Int.reduceLT, Int.reduceLE, Int.reduceEq, Int.reduceNeg, Int.reduceToNat, Nat.reducePow, reduceIte, reduceCtorEq])
    | ((with_reducible first | refine x_guard_no ?hy ?_ | refine x_cond_true ?hy ?_); case hy => rfl)
    | ((with_reducible first | refine x_guard_none ?hy ?_ | refine x_cond_false ?hy ?_); case hy => rfl)
    | ((with_reducible refine block_exit_ne ?hy ?_); case hy => decide))
  refine node_ok hF1.mem hU ?_
  repeat' (first
    | (with_reducible first | refine seq_normal ?_ | (refine hK _ _ ?_; clear hK K) | refine x_seq (fun K hK => ?_) | refine x_nil ?_ | refine x_block ?_ | refine x_skip ?_ | refine x_exit ?_ | refine x_ret ?_ | refine x_label ?_ | refine x_scope ?_ | (refine seq_ret ?_; clear hK K) | (refine seq_exit ?_; clear hK K) | refine block_normal ?_ | refine block_ret ?_ | refine block_exit ?_ | refine loop_exit ?_ | refine loop_ret ?_)
    | ((with_reducible refine x_reg_lit ?hq ?_); case hq => rfl)
    | ((first | (with_reducible first | refine x_op (fun K hK => ?_) | refine end_ret ?_ | refine end_normal ?_) | ((with_reducible refine x_guard_yes ?hy (fun K hK => ?_)); case hy => rfl)); simp only [go_sem, Int.cast_ofNat_Int, Nat.reduceEqDiff, Nat.reduceAdd, Nat.reduceMul, Nat.reduceLeDiff, Nat.reduceLT, Int.reduceLT, Int.reduceLE, Int.reduceEq, Int.reduceNeg, Int.reduceToNat, Nat.reducePow, reduceIte, reduceCtorEq])
    | ((with_reducible first | refine x_guard_no ?hy ?_ | refine x_cond_true ?hy ?_); case hy => rfl)
    | ((with_reducible first | refine x_guard_none ?hy ?_ | refine x_cond_false ?hy ?_); case hy => rfl)
    | ((with_reducible refine block_exit_ne ?hy ?_); case hy => decide))
  refine splay_row hF1 hx hk (hF.apart hx) ?_
  intro H2 N2 a b hF2 ht e hf hoff
  have hn := hF2.mem.nd k hU
  have hne : ¬ H.size = nb k := by omega
  have hne' : ¬ nb k = H.size := by omega
  have hnb : ¬ NB A nb H.size := by
    rintro ⟨j, hj, ej⟩
    have := (hF.mem.nd j hj).lt
    omega
  have hb2 := hblk.frame hf hnb
  have w0 := hb2.okW (i := 0) (by simp)
  have w1 := hb2.okW (i := 1) (by simp)
  have w2 := hb2.okW (i := 2) (by simp)
  have w3 := hb2.okW (i := 3) (by simp)
  have w4 := hb2.okW (i := 4) (by simp)
  have eN : (N2 k).total = aggOf S.it xs := by
    obtain ⟨_, ek, _⟩ := ht
    rw [ek, ← e]
    rfl
  have c7 := hn.cellOf (i := 7) rfl
  have c8 := hn.cellOf (i := 8) rfl
  have c9 := hn.cellOf (i := 9) rfl
  have c10 := hn.cellOf (i := 10) rfl
  have c11 := hn.cellOf (i := 11) rfl
  rw [eN] at c7 c8 c9 c10 c11
  repeat' (first
    | (with_reducible first | refine seq_normal ?_ | (refine hK _ _ ?_; clear hK K) | refine x_seq (fun K hK => ?_) | refine x_nil ?_ | refine x_block ?_ | refine x_skip ?_ | refine x_exit ?_ | refine x_ret ?_ | refine x_label ?_ | refine x_scope ?_ | (refine seq_ret ?_; clear hK K) | (refine seq_exit ?_; clear hK K) | refine block_normal ?_ | refine block_ret ?_ | refine block_exit ?_ | refine loop_exit ?_ | refine loop_ret ?_)
    | ((with_reducible refine x_reg_lit ?hq ?_); case hq => rfl)
    | ((first | (with_reducible first | refine x_op (fun K hK => ?_) | refine end_ret ?_ | refine end_normal ?_) | ((with_reducible refine x_guard_yes ?hy (fun K hK => ?_)); case hy => rfl)); simp only [go_sem, Int.cast_ofNat_Int, Nat.reduceEqDiff, Nat.reduceAdd, Nat.reduceMul, Nat.reduceLeDiff, Nat.reduceLT, Int.reduceLT, Int.reduceLE, Int.reduceEq, Int.reduceNeg, Int.reduceToNat, Nat.reducePow, reduceIte, reduceCtorEq, c7, c8, c9, c10, c11, w0, w1, w2, w3, w4, okW_hset, hcell_hset_eq, hcell_hset_ne, hcell_hset_off, hne, hne'])
    | ((with_reducible first | refine x_guard_no ?hy ?_ | refine x_cond_true ?hy ?_); case hy => rfl)
    | ((with_reducible first | refine x_guard_none ?hy ?_ | refine x_cond_false ?hy ?_); case hy => rfl)
    | ((with_reducible refine block_exit_ne ?hy ?_); case hy => decide))
  have hfr : Fr (fun b => H.size ≤ b) H2 (hset (hset (hset (hset (hset H2 ⟨H.size, 0, none⟩ (.int .i64 (aggOf S.it xs).count)) ⟨H.size, 1, none⟩ (.int .i64 (aggOf S.it xs).sum)) ⟨H.size, 2, none⟩ (.int .i64 (aggOf S.it xs).least)) ⟨H.size, 3, none⟩ (.int .i64 (aggOf S.it xs).most)) ⟨H.size, 4, none⟩ (.int .i64 (aggOf S.it xs).flags)) := by
    have step : ∀ {H' : Heap} (o : Nat) (v : Value), Fr (fun b => H.size ≤ b) H2 H' → Fr (fun b => H.size ≤ b) H2 (hset H' ⟨H.size, o, none⟩ v) := fun o v h => Fr.set (S := fun b => H.size ≤ b) (a := ⟨H.size, o, none⟩) h (.inl (Nat.le_refl _)) v
    exact step 4 _ (step 3 _ (step 2 _ (step 1 _ (step 0 _ (Fr.refl _ _)))))
  refine fin _ N2 (hF2.frame hfr fun b hb hle => ?_) ?_
  · have := hF.mem.lt hb; omega
  · refine (((Fr.refl (NB A nb) H).push _).trans hf).trans' hfr fun b hb hle => ?_
    exact absurd hle (by omega)
end
end Go.Proofs.Ytndkbhlfbeiniaa

namespace Go.Proofs.Ytndkbhlfbeiniaa
open Go Go.Hp Go.Sp
set_option linter.all false
set_option maxRecDepth 100000
set_option maxHeartbeats 1600000

theorem item_of {N : Nodes} {it : Nat → Sp.Item} {k : Nat} : ∀ {t : Tr} {up : Nat}, TrAt N it up t → k ∈ t.list → (N k).item = it k
  | .nil, _, _, h => by simp [Tr.list] at h
  | .node l h r, up, ⟨a, b, c, d⟩, hk => by
    simp only [Tr.list, List.mem_append, List.mem_cons] at hk
    rcases hk with hk | rfl | hk
    · exact item_of c hk
    · rw [b]; rfl
    · exact item_of d hk
theorem split_unique {α : Type} {x : α} : ∀ {l l' r r' : List α}, (l ++ x :: r).Nodup → l ++ x :: r = l' ++ x :: r' → l = l' ∧ r = r'
  | [], [], r, r', _, e => ⟨rfl, by simpa using e⟩
  | [], y :: l', r, r', hn, e => by
    simp only [List.nil_append, List.cons_append, List.cons.injEq] at e
    obtain ⟨rfl, e⟩ := e
    rw [List.nil_append, List.nodup_cons] at hn
    exact absurd (by rw [e]; simp) hn.1
  | y :: l, [], r, r', hn, e => by
    simp only [List.nil_append, List.cons_append, List.cons.injEq] at e
    obtain ⟨rfl, e⟩ := e
    rw [List.cons_append, List.nodup_cons] at hn
    exact absurd (by simp) hn.1
  | y :: l, z :: l', r, r', hn, e => by
    simp only [List.cons_append, List.cons.injEq] at e
    obtain ⟨rfl, e⟩ := e
    rw [List.cons_append, List.nodup_cons] at hn
    obtain ⟨h1, h2⟩ := split_unique hn.2 e
    exact ⟨by rw [h1], h2⟩
section
variable {H H' : Heap} {f p g : Nat} {A : Ar} {nb : Nat → Nat} {N : Nodes} {S : Fo} {xs : List Nat} {k : Nat}
theorem get_ok {K : Value → Heap → Prop} (hF : FoAt H f p g A nb N S) (hx : xs ∈ S.rows) (hk : k ∈ xs)
    (fin : ∀ H', Fr (fun _ => False) H H' → K (.tuple #[(S.it k).val, .int .i64 0]) H') :
    CallsH Try.prog 16 #[.pointer (some ⟨f, 0, none⟩), .int .i64 k] H K := by
  have hU := hF.u hx hk
  have hn := hF.mem.nd k hU
  have hlt := hn.lt
  have hF1 := hF.grow (H' := H.push (.cells #[.int .i64 0, .bool false, .int .i64 0] 31)) ((Fr.refl _ _).push _)
  have hne : ¬ H.size = nb k := by omega
  have hne' : ¬ nb k = H.size := by omega
  obtain ⟨t, ht, e⟩ := hF.trees xs hx
  have hi := item_of ht (by rw [e]; exact hk)
  have c0 := hn.cellOf (i := 0) rfl
  have c1 := hn.cellOf (i := 1) rfl
  have c2 := hn.cellOf (i := 2) rfl
  rw [hi] at c0 c1 c2
  refine call16 (by simp) ?_
  simp only [Try.f16, Option.getD_some]
  repeat' (first
    | (with_reducible first | refine seq_normal ?_ | (refine hK _ _ ?_; clear hK K) | refine x_seq (fun K hK => ?_) | refine x_nil ?_ | refine x_block ?_ | refine x_skip ?_ | refine x_exit ?_ | refine x_ret ?_ | refine x_label ?_ | refine x_scope ?_ | (refine seq_ret ?_; clear hK K) | (refine seq_exit ?_; clear hK K) | refine block_normal ?_ | refine block_ret ?_ | refine block_exit ?_ | refine loop_exit ?_ | refine loop_ret ?_)
    | ((with_reducible refine x_reg_lit ?hq ?_); case hq => rfl)
    | ((first | (with_reducible first | refine x_op (fun K hK => ?_) | refine end_ret ?_ | refine end_normal ?_) | ((with_reducible refine x_guard_yes ?hy (fun K hK => ?_)); case hy => rfl)); simp only [go_sem, Int.cast_ofNat_Int, Nat.reduceEqDiff, Nat.reduceAdd, Nat.reduceMul, Nat.reduceLeDiff, Nat.reduceLT, Int.reduceLT, Int.reduceLE, Int.reduceEq, Int.reduceNeg, Int.reduceToNat, Nat.reducePow, reduceIte, reduceCtorEq, hcell_push, hcell_top, okW_push, okW_top, hcell_hset_ne, hcell_hset_off, hcell_hset_eq, okW_hset, hset_size, Array.size_push, Nat.lt_add_one, ne_add_one, add_one_ne, Nat.add_assoc, add_same, add_lt_same, Nat.reduceEqDiff, lt_add_k, add_k_ne, ne_add_k])
    | ((with_reducible first | refine x_guard_no ?hy ?_ | refine x_cond_true ?hy ?_); case hy => rfl)
    | ((with_reducible first | refine x_guard_none ?hy ?_ | refine x_cond_false ?hy ?_); case hy => rfl)
    | ((with_reducible refine block_exit_ne ?hy ?_); case hy => decide))
  refine node_ok hF1.mem hU ?_
  repeat' (first
    | (with_reducible first | refine seq_normal ?_ | (refine hK _ _ ?_; clear hK K) | refine x_seq (fun K hK => ?_) | refine x_nil ?_ | refine x_block ?_ | refine x_skip ?_ | refine x_exit ?_ | refine x_ret ?_ | refine x_label ?_ | refine x_scope ?_ | (refine seq_ret ?_; clear hK K) | (refine seq_exit ?_; clear hK K) | refine block_normal ?_ | refine block_ret ?_ | refine block_exit ?_ | refine loop_exit ?_ | refine loop_ret ?_)
    | ((with_reducible refine x_reg_lit ?hq ?_); case hq => rfl)
    | ((first | (with_reducible first | refine x_op (fun K hK => ?_) | refine end_ret ?_ | refine end_normal ?_) | ((with_reducible refine x_guard_yes ?hy (fun K hK => ?_)); case hy => rfl)); simp only [go_sem, Int.cast_ofNat_Int, Nat.reduceEqDiff, Nat.reduceAdd, Nat.reduceMul, Nat.reduceLeDiff, Nat.reduceLT, Int.reduceLT, Int.reduceLE, Int.reduceEq, Int.reduceNeg, Int.reduceToNat, Nat.reducePow, reduceIte, reduceCtorEq, c0, c1, c2, hlt, hne, hne', hcell_push, hcell_top, okW_push, okW_top, hcell_hset_ne, hcell_hset_off, hcell_hset_eq, okW_hset, hset_size, Array.size_push, Nat.lt_add_one, ne_add_one, add_one_ne, Nat.add_assoc, add_same, add_lt_same, Nat.reduceEqDiff, lt_add_k, add_k_ne, ne_add_k])
    | ((with_reducible first | refine x_guard_no ?hy ?_ | refine x_cond_true ?hy ?_); case hy => rfl)
    | ((with_reducible first | refine x_guard_none ?hy ?_ | refine x_cond_false ?hy ?_); case hy => rfl)
    | ((with_reducible refine block_exit_ne ?hy ?_); case hy => decide))
  exact fin _ (by ((repeat (first | refine Fr.set ?_ (by simp) _ | refine Fr.push ?_ _)); exact Fr.refl _ _))
theorem rank_ok {K : Value → Heap → Prop} {l r : List Nat} (hF : FoAt H f p g A nb N S) (hx : xs ∈ S.rows) (hxs : xs = l ++ k :: r)
    (fin : ∀ H' N', FoAt H' f p g A nb N' S → Fr (NB A nb) H H' → K (.tuple #[.int .i64 (l.length : Nat), .int .i64 0]) H') :
    CallsH Try.prog 18 #[.pointer (some ⟨f, 0, none⟩), .int .i64 k] H K := by
  have hk : k ∈ xs := by rw [hxs]; simp
  have hU := hF.u hx hk
  refine call18 (by simp) ?_
  simp only [Try.f18, Option.getD_some]
  repeat' (first
    | (with_reducible first | refine seq_normal ?_ | (refine hK _ _ ?_; clear hK K) | refine x_seq (fun K hK => ?_) | refine x_nil ?_ | refine x_block ?_ | refine x_skip ?_ | refine x_exit ?_ | refine x_ret ?_ | refine x_label ?_ | refine x_scope ?_ | (refine seq_ret ?_; clear hK K) | (refine seq_exit ?_; clear hK K) | refine block_normal ?_ | refine block_ret ?_ | refine block_exit ?_ | refine loop_exit ?_ | refine loop_ret ?_)
    | ((with_reducible refine x_reg_lit ?hq ?_); case hq => rfl)
    | ((first | (with_reducible first | refine x_op (fun K hK => ?_) | refine end_ret ?_ | refine end_normal ?_) | ((with_reducible refine x_guard_yes ?hy (fun K hK => ?_)); case hy => rfl)); simp only [go_sem, Int.cast_ofNat_Int, Nat.reduceEqDiff, Nat.reduceAdd, Nat.reduceMul, Nat.reduceLeDiff, Nat.reduceLT, Int.reduceLT, Int.reduceLE, Int.reduceEq, Int.reduceNeg, Int.reduceToNat, Nat.reducePow, reduceIte, reduceCtorEq])
    | ((with_reducible first | refine x_guard_no ?hy ?_ | refine x_cond_true ?hy ?_); case hy => rfl)
    | ((with_reducible first | refine x_guard_none ?hy ?_ | refine x_cond_false ?hy ?_); case hy => rfl)
    | ((with_reducible refine block_exit_ne ?hy ?_); case hy => decide))
  refine node_ok hF.mem hU ?_
  repeat' (first
    | (with_reducible first | refine seq_normal ?_ | (refine hK _ _ ?_; clear hK K) | refine x_seq (fun K hK => ?_) | refine x_nil ?_ | refine x_block ?_ | refine x_skip ?_ | refine x_exit ?_ | refine x_ret ?_ | refine x_label ?_ | refine x_scope ?_ | (refine seq_ret ?_; clear hK K) | (refine seq_exit ?_; clear hK K) | refine block_normal ?_ | refine block_ret ?_ | refine block_exit ?_ | refine loop_exit ?_ | refine loop_ret ?_)
    | ((with_reducible refine x_reg_lit ?hq ?_); case hq => rfl)
    | ((first | (with_reducible first | refine x_op (fun K hK => ?_) | refine end_ret ?_ | refine end_normal ?_) | ((with_reducible refine x_guard_yes ?hy (fun K hK => ?_)); case hy => rfl)); simp only [go_sem, Int.cast_ofNat_Int, Nat.reduceEqDiff, Nat.reduceAdd, Nat.reduceMul, Nat.reduceLeDiff, Nat.reduceLT, Int.reduceLT, Int.reduceLE, Int.reduceEq, Int.reduceNeg, Int.reduceToNat, Nat.reducePow, reduceIte, reduceCtorEq])
    | ((with_reducible first | refine x_guard_no ?hy ?_ | refine x_cond_true ?hy ?_); case hy => rfl)
    | ((with_reducible first | refine x_guard_none ?hy ?_ | refine x_cond_false ?hy ?_); case hy => rfl)
    | ((with_reducible refine block_exit_ne ?hy ?_); case hy => decide))
  refine splay_row hF hx hk (hF.apart hx) ?_
  intro H2 N2 a b hF2 ht e hf hoff
  have hn := hF2.mem.nd k hU
  have c4 := hn.cellOf (i := 4) rfl
  obtain ⟨hla, _⟩ := split_unique (by rw [e]; exact (hF.row hx).nd) (e.trans hxs)
  repeat' (first
    | (with_reducible first | refine seq_normal ?_ | (refine hK _ _ ?_; clear hK K) | refine x_seq (fun K hK => ?_) | refine x_nil ?_ | refine x_block ?_ | refine x_skip ?_ | refine x_exit ?_ | refine x_ret ?_ | refine x_label ?_ | refine x_scope ?_ | (refine seq_ret ?_; clear hK K) | (refine seq_exit ?_; clear hK K) | refine block_normal ?_ | refine block_ret ?_ | refine block_exit ?_ | refine loop_exit ?_ | refine loop_ret ?_)
    | ((with_reducible refine x_reg_lit ?hq ?_); case hq => rfl)
    | ((first | (with_reducible first | refine x_op (fun K hK => ?_) | refine end_ret ?_ | refine end_normal ?_) | ((with_reducible refine x_guard_yes ?hy (fun K hK => ?_)); case hy => rfl)); simp only [go_sem, Int.cast_ofNat_Int, Nat.reduceEqDiff, Nat.reduceAdd, Nat.reduceMul, Nat.reduceLeDiff, Nat.reduceLT, Int.reduceLT, Int.reduceLE, Int.reduceEq, Int.reduceNeg, Int.reduceToNat, Nat.reducePow, reduceIte, reduceCtorEq, c4])
    | ((with_reducible first | refine x_guard_no ?hy ?_ | refine x_cond_true ?hy ?_); case hy => rfl)
    | ((with_reducible first | refine x_guard_none ?hy ?_ | refine x_cond_false ?hy ?_); case hy => rfl)
    | ((with_reducible refine block_exit_ne ?hy ?_); case hy => decide))
  refine below_ok hF2.mem (hF2.mem.cl.l k hU) ?_
  intro H3 hf3
  have eb : belowN N2 (N2 k).l = ((l.length : Int), aggOf S.it l) := by
    obtain ⟨_, ek, ha, _⟩ := ht
    have := ha.below
    rw [ek, ← hla]
    exact this
  rw [eb]
  repeat' (first
    | (with_reducible first | refine seq_normal ?_ | (refine hK _ _ ?_; clear hK K) | refine x_seq (fun K hK => ?_) | refine x_nil ?_ | refine x_block ?_ | refine x_skip ?_ | refine x_exit ?_ | refine x_ret ?_ | refine x_label ?_ | refine x_scope ?_ | (refine seq_ret ?_; clear hK K) | (refine seq_exit ?_; clear hK K) | refine block_normal ?_ | refine block_ret ?_ | refine block_exit ?_ | refine loop_exit ?_ | refine loop_ret ?_)
    | ((with_reducible refine x_reg_lit ?hq ?_); case hq => rfl)
    | ((first | (with_reducible first | refine x_op (fun K hK => ?_) | refine end_ret ?_ | refine end_normal ?_) | ((with_reducible refine x_guard_yes ?hy (fun K hK => ?_)); case hy => rfl)); simp only [go_sem, Int.cast_ofNat_Int, Nat.reduceEqDiff, Nat.reduceAdd, Nat.reduceMul, Nat.reduceLeDiff, Nat.reduceLT, Int.reduceLT, Int.reduceLE, Int.reduceEq, Int.reduceNeg, Int.reduceToNat, Nat.reducePow, reduceIte, reduceCtorEq, Agg.val, hcell_push, hcell_top, okW_push, okW_top, hcell_hset_ne, hcell_hset_off, hcell_hset_eq, okW_hset, hset_size, Array.size_push, Nat.lt_add_one, ne_add_one, add_one_ne, Nat.add_assoc, add_same, add_lt_same, Nat.reduceEqDiff, lt_add_k, add_k_ne, ne_add_k])
    | ((with_reducible first | refine x_guard_no ?hy ?_ | refine x_cond_true ?hy ?_); case hy => rfl)
    | ((with_reducible first | refine x_guard_none ?hy ?_ | refine x_cond_false ?hy ?_); case hy => rfl)
    | ((with_reducible refine block_exit_ne ?hy ?_); case hy => decide))
  generalize hH4 : hset _ _ _ = H4
  have hf4 : Fr (fun _ => False) H3 H4 := by rw [← hH4]; exact (by ((repeat (first | refine Fr.set ?_ (by simp) _ | refine Fr.push ?_ _)); exact Fr.refl _ _))
  exact fin _ N2 ((hF2.grow hf3).grow hf4) ((hf.trans (hf3.mono fun b _ h => h.elim)).trans (hf4.mono fun b _ h => h.elim))
end
end Go.Proofs.Ytndkbhlfbeiniaa

namespace Go.Proofs.Ytndkbhlfbeiniaa
open Go Go.Hp Go.Sp
set_option linter.all false
set_option maxRecDepth 100000
set_option maxHeartbeats 1600000

section
variable {H H' : Heap} {f p g : Nat} {A : Ar} {nb : Nat → Nat} {N : Nodes} {S : Fo} {xs : List Nat} {k : Nat} {R : List (List Nat)}
theorem FoAt.perm (h : FoAt H f p g A nb N S) (hr : S.rows.Perm R) : FoAt H f p g A nb N ⟨S.it, R⟩ :=
  ⟨h.mem, fun xs hx => h.trees xs (hr.mem_iff.2 hx), (hr.flatten.nodup_iff).1 h.nodup, fun i => by rw [← h.use i]; exact (hr.flatten.mem_iff).symm, h.may⟩
/-- A tree cut ahead of its root. -/
theorem cut_tree {it : Nat → Sp.Item} {a b : Tr} (ht : TrAt N it 0 (.node a k b)) (ha : a.root ≠ 0) (hd : (a.list ++ k :: b.list).Nodup) (hm : ∀ i ∈ a.list ++ k :: b.list, May (it i)) (hl : (a.list ++ k :: b.list).length ≤ 4096) :
    let M := upd (setUp N a.root 0) k ((setUp N a.root 0 k).setKid 0 0)
    TrAt (pullN M k) it 0 a ∧ TrAt (pullN M k) it 0 (.node .nil k b) ∧ ∀ i, i ∉ a.list ++ k :: b.list → pullN M k i = N i := by
  intro M
  obtain ⟨k0, ek, hta, htb⟩ := ht
  simp only [List.nodup_append, List.nodup_cons, List.mem_cons] at hd
  obtain ⟨na, ⟨kb, nb'⟩, dab⟩ := hd
  have hka : k ∉ a.list := fun e => dab k e k (.inl rfl) rfl
  have har := Tr.root_mem ha
  have hkr : k ≠ a.root := fun e => hka (by rw [e]; exact har)
  have Mk : M k = (N k).setKid 0 0 := by
    show upd _ k _ k = _
    rw [upd_same]
    unfold Sp.setUp
    rw [upd_ne _ _ hkr]
  have Mo : ∀ i, i ≠ k → i ≠ a.root → M i = N i := fun i h1 h2 => by
    show upd _ k _ i = _
    rw [upd_ne _ _ h1]
    unfold Sp.setUp
    rw [upd_ne _ _ h2]
  have Ma : M a.root = { N a.root with up := 0 } := by
    show upd _ k _ a.root = _
    rw [upd_ne _ _ (Ne.symm hkr)]
    unfold Sp.setUp
    rw [upd_same]
  have hrb : ∀ i ∈ b.list, i ≠ a.root := fun i hi e => dab a.root har i (.inr hi) e.symm
  have htM : TrAt M it k b := htb.congr fun i hi => Mo i (fun e => kb (e ▸ hi)) (hrb i hi)
  have pk : pullR M k = recOf it 0 0 k b.root ([] ++ k :: b.list) := by
    refine pullR_of (xs := []) rfl htM.below (by rw [Mk, ek]; rfl) (by rw [Mk, ek]; rfl) (by rw [Mk]; rfl) (by rw [Mk, ek]; rfl) (fun i hi => hm i ?_) ?_
    · exact List.mem_append_right _ hi
    · simp only [List.nil_append, List.length_append, List.length_cons] at hl ⊢; omega
  have eM : pullN M k = upd M k (recOf it 0 0 k b.root ([] ++ k :: b.list)) := by unfold pullN; rw [pk]
  rw [eM]
  refine ⟨?_, ⟨k0, by rw [upd_same]; rfl, trivial, htM.congr fun i hi => upd_ne _ _ (fun e => kb (e ▸ hi))⟩, fun i hi => ?_⟩
  · refine (hta.hung (N' := M) na (fun _ => Ma) (fun i hi hne => Mo i (fun e => hka (e ▸ hi)) hne)).congr fun i hi => upd_ne _ _ (fun e => hka (e ▸ hi))
  · simp only [List.mem_append, List.mem_cons, not_or] at hi
    rw [upd_ne _ _ hi.2.1]
    exact Mo i hi.2.1 (fun e => hi.1 (e ▸ har))
theorem split_first {K : Value → Heap → Prop} {r : List Nat} (hF : FoAt H f p g A nb N S) (hx : k :: r ∈ S.rows)
    (fin : ∀ H' N', FoAt H' f p g A nb N' S → Fr (NB A nb) H H' → K (.int .i64 0) H') :
    CallsH Try.prog 23 #[.pointer (some ⟨f, 0, none⟩), .int .i64 k] H K := by
  have hU := hF.u hx (.head _)
  refine call23 (by simp) ?_
  simp only [Try.f23, Option.getD_some]
  repeat' (first
    | (with_reducible first | refine seq_normal ?_ | (refine hK _ _ ?_; clear hK K) | refine x_seq (fun K hK => ?_) | refine x_nil ?_ | refine x_block ?_ | refine x_skip ?_ | refine x_exit ?_ | refine x_ret ?_ | refine x_label ?_ | refine x_scope ?_ | (refine seq_ret ?_; clear hK K) | (refine seq_exit ?_; clear hK K) | refine block_normal ?_ | refine block_ret ?_ | refine block_exit ?_ | refine loop_exit ?_ | refine loop_ret ?_)
    | ((with_reducible refine x_reg_lit ?hq ?_); case hq => rfl)
    | ((first | (with_reducible first | refine x_op (fun K hK => ?_) | refine end_ret ?_ | refine end_normal ?_) | ((with_reducible refine x_guard_yes ?hy (fun K hK => ?_)); case hy => rfl)); simp only [go_sem, Int.cast_ofNat_Int, Nat.reduceEqDiff, Nat.reduceAdd, Nat.reduceMul, Nat.reduceLeDiff, Nat.reduceLT, Int.reduceLT, Int.reduceLE, Int.reduceEq, Int.reduceNeg, Int.reduceToNat, Nat.reducePow, reduceIte, reduceCtorEq])
    | ((with_reducible first | refine x_guard_no ?hy ?_ | refine x_cond_true ?hy ?_); case hy => rfl)
    | ((with_reducible first | refine x_guard_none ?hy ?_ | refine x_cond_false ?hy ?_); case hy => rfl)
    | ((with_reducible refine block_exit_ne ?hy ?_); case hy => decide))
  refine node_ok hF.mem hU ?_
  repeat' (first
    | (with_reducible first | refine seq_normal ?_ | (refine hK _ _ ?_; clear hK K) | refine x_seq (fun K hK => ?_) | refine x_nil ?_ | refine x_block ?_ | refine x_skip ?_ | refine x_exit ?_ | refine x_ret ?_ | refine x_label ?_ | refine x_scope ?_ | (refine seq_ret ?_; clear hK K) | (refine seq_exit ?_; clear hK K) | refine block_normal ?_ | refine block_ret ?_ | refine block_exit ?_ | refine loop_exit ?_ | refine loop_ret ?_)
    | ((with_reducible refine x_reg_lit ?hq ?_); case hq => rfl)
    | ((first | (with_reducible first | refine x_op (fun K hK => ?_) | refine end_ret ?_ | refine end_normal ?_) | ((with_reducible refine x_guard_yes ?hy (fun K hK => ?_)); case hy => rfl)); simp only [go_sem, Int.cast_ofNat_Int, Nat.reduceEqDiff, Nat.reduceAdd, Nat.reduceMul, Nat.reduceLeDiff, Nat.reduceLT, Int.reduceLT, Int.reduceLE, Int.reduceEq, Int.reduceNeg, Int.reduceToNat, Nat.reducePow, reduceIte, reduceCtorEq])
    | ((with_reducible first | refine x_guard_no ?hy ?_ | refine x_cond_true ?hy ?_); case hy => rfl)
    | ((with_reducible first | refine x_guard_none ?hy ?_ | refine x_cond_false ?hy ?_); case hy => rfl)
    | ((with_reducible refine block_exit_ne ?hy ?_); case hy => decide))
  refine splay_row hF hx (.head _) (hF.apart hx) ?_
  intro H2 N2 a b hF2 ht e hf hoff
  have hn := hF2.mem.nd k hU
  have c4 := hn.cellOf (i := 4) rfl
  obtain ⟨hla, _⟩ := split_unique (l := a.list) (l' := []) (by rw [e]; exact (hF.row hx).nd) e
  have ea : (N2 k).l = 0 := by
    obtain ⟨_, ek, _⟩ := ht
    rw [ek]
    cases a with
    | nil => rfl
    | node a1 h a2 => simp [Tr.list] at hla
  rw [ea] at c4
  have t1 : (((0 : Nat) : Int) != 0) = false := rfl
  repeat' (first
    | (with_reducible first | refine seq_normal ?_ | (refine hK _ _ ?_; clear hK K) | refine x_seq (fun K hK => ?_) | refine x_nil ?_ | refine x_block ?_ | refine x_skip ?_ | refine x_exit ?_ | refine x_ret ?_ | refine x_label ?_ | refine x_scope ?_ | (refine seq_ret ?_; clear hK K) | (refine seq_exit ?_; clear hK K) | refine block_normal ?_ | refine block_ret ?_ | refine block_exit ?_ | refine loop_exit ?_ | refine loop_ret ?_)
    | ((with_reducible refine x_reg_lit ?hq ?_); case hq => rfl)
    | ((first | (with_reducible first | refine x_op (fun K hK => ?_) | refine end_ret ?_ | refine end_normal ?_) | ((with_reducible refine x_guard_yes ?hy (fun K hK => ?_)); case hy => rfl)); simp only [go_sem, Int.cast_ofNat_Int, Nat.reduceEqDiff, Nat.reduceAdd, Nat.reduceMul, Nat.reduceLeDiff, Nat.reduceLT, Int.reduceLT, Int.reduceLE, Int.reduceEq, Int.reduceNeg, Int.reduceToNat, Nat.reducePow, reduceIte, reduceCtorEq, c4, t1])
    | ((with_reducible first | refine x_guard_no ?hy ?_ | refine x_cond_true ?hy ?_); case hy => rfl)
    | ((with_reducible first | refine x_guard_none ?hy ?_ | refine x_cond_false ?hy ?_); case hy => rfl)
    | ((with_reducible refine block_exit_ne ?hy ?_); case hy => decide))
  exact fin _ N2 hF2 hf
theorem split_ok {K : Value → Heap → Prop} {l r : List Nat} (hF : FoAt H f p g A nb N S) (hr : S.rows.Perm ((l ++ k :: r) :: R)) (hl : l ≠ [])
    (fin : ∀ H' N', FoAt H' f p g A nb N' ⟨S.it, l :: (k :: r) :: R⟩ → Fr (NB A nb) H H' → K (.int .i64 0) H') :
    CallsH Try.prog 23 #[.pointer (some ⟨f, 0, none⟩), .int .i64 k] H K := by
  have hx : l ++ k :: r ∈ S.rows := hr.mem_iff.2 (.head _)
  have hk : k ∈ l ++ k :: r := by simp
  have hU := hF.u hx hk
  have row := hF.row hx
  refine call23 (by simp) ?_
  simp only [Try.f23, Option.getD_some]
  repeat' (first
    | (with_reducible first | refine seq_normal ?_ | (refine hK _ _ ?_; clear hK K) | refine x_seq (fun K hK => ?_) | refine x_nil ?_ | refine x_block ?_ | refine x_skip ?_ | refine x_exit ?_ | refine x_ret ?_ | refine x_label ?_ | refine x_scope ?_ | (refine seq_ret ?_; clear hK K) | (refine seq_exit ?_; clear hK K) | refine block_normal ?_ | refine block_ret ?_ | refine block_exit ?_ | refine loop_exit ?_ | refine loop_ret ?_)
    | ((with_reducible refine x_reg_lit ?hq ?_); case hq => rfl)
    | ((first | (with_reducible first | refine x_op (fun K hK => ?_) | refine end_ret ?_ | refine end_normal ?_) | ((with_reducible refine x_guard_yes ?hy (fun K hK => ?_)); case hy => rfl)); simp only [go_sem, Int.cast_ofNat_Int, Nat.reduceEqDiff, Nat.reduceAdd, Nat.reduceMul, Nat.reduceLeDiff, Nat.reduceLT, Int.reduceLT, Int.reduceLE, Int.reduceEq, Int.reduceNeg, Int.reduceToNat, Nat.reducePow, reduceIte, reduceCtorEq])
    | ((with_reducible first | refine x_guard_no ?hy ?_ | refine x_cond_true ?hy ?_); case hy => rfl)
    | ((with_reducible first | refine x_guard_none ?hy ?_ | refine x_cond_false ?hy ?_); case hy => rfl)
    | ((with_reducible refine block_exit_ne ?hy ?_); case hy => decide))
  refine node_ok hF.mem hU ?_
  repeat' (first
    | (with_reducible first | refine seq_normal ?_ | (refine hK _ _ ?_; clear hK K) | refine x_seq (fun K hK => ?_) | refine x_nil ?_ | refine x_block ?_ | refine x_skip ?_ | refine x_exit ?_ | refine x_ret ?_ | refine x_label ?_ | refine x_scope ?_ | (refine seq_ret ?_; clear hK K) | (refine seq_exit ?_; clear hK K) | refine block_normal ?_ | refine block_ret ?_ | refine block_exit ?_ | refine loop_exit ?_ | refine loop_ret ?_)
    | ((with_reducible refine x_reg_lit ?hq ?_); case hq => rfl)
    | ((first | (with_reducible first | refine x_op (fun K hK => ?_) | refine end_ret ?_ | refine end_normal ?_) | ((with_reducible refine x_guard_yes ?hy (fun K hK => ?_)); case hy => rfl)); simp only [go_sem, Int.cast_ofNat_Int, Nat.reduceEqDiff, Nat.reduceAdd, Nat.reduceMul, Nat.reduceLeDiff, Nat.reduceLT, Int.reduceLT, Int.reduceLE, Int.reduceEq, Int.reduceNeg, Int.reduceToNat, Nat.reducePow, reduceIte, reduceCtorEq])
    | ((with_reducible first | refine x_guard_no ?hy ?_ | refine x_cond_true ?hy ?_); case hy => rfl)
    | ((with_reducible first | refine x_guard_none ?hy ?_ | refine x_cond_false ?hy ?_); case hy => rfl)
    | ((with_reducible refine block_exit_ne ?hy ?_); case hy => decide))
  refine splay_row hF hx hk (hF.apart hx) ?_
  intro H2 N2 a b hF2 ht e hf hoff
  have hn := hF2.mem.nd k hU
  have c4 := hn.cellOf (i := 4) rfl
  obtain ⟨hla, hrb⟩ := split_unique (l := a.list) (by rw [e]; exact row.nd) e
  have ek : (N2 k).l = a.root := by
    obtain ⟨_, ek, _⟩ := ht
    rw [ek]; rfl
  have ha0 : a.root ≠ 0 := fun h0 => by
    cases a with
    | nil => exact hl hla.symm
    | node a1 h a2 =>
      obtain ⟨_, _, ⟨h1, _⟩, _⟩ := ht
      exact h1 h0
  have hUa : U A a.root := hF.u hx (by rw [← hla]; exact List.mem_append_left _ (Tr.root_mem ha0))
  have t1 : ((a.root : Int) != 0) = true := by simp [ha0]
  rw [ek] at c4
  obtain ⟨w1, hF3, hf3⟩ := hF2.mem.setUp hUa (.inl rfl) (x := 0)
  obtain ⟨w2, hF4, hf4⟩ := hF3.kid hU (.inl rfl) (.inl rfl) (s := 0) (x := 0)
  have cut := cut_tree ht ha0 (by rw [e]; exact row.nd) (fun i hi => row.may i (by rw [e] at hi; exact hi)) (by rw [e]; exact row.len)
  repeat' (first
    | (with_reducible first | refine seq_normal ?_ | (refine hK _ _ ?_; clear hK K) | refine x_seq (fun K hK => ?_) | refine x_nil ?_ | refine x_block ?_ | refine x_skip ?_ | refine x_exit ?_ | refine x_ret ?_ | refine x_label ?_ | refine x_scope ?_ | (refine seq_ret ?_; clear hK K) | (refine seq_exit ?_; clear hK K) | refine block_normal ?_ | refine block_ret ?_ | refine block_exit ?_ | refine loop_exit ?_ | refine loop_ret ?_)
    | ((with_reducible refine x_reg_lit ?hq ?_); case hq => rfl)
    | ((first | (with_reducible first | refine x_op (fun K hK => ?_) | refine end_ret ?_ | refine end_normal ?_) | ((with_reducible refine x_guard_yes ?hy (fun K hK => ?_)); case hy => rfl)); simp only [go_sem, Int.cast_ofNat_Int, Nat.reduceEqDiff, Nat.reduceAdd, Nat.reduceMul, Nat.reduceLeDiff, Nat.reduceLT, Int.reduceLT, Int.reduceLE, Int.reduceEq, Int.reduceNeg, Int.reduceToNat, Nat.reducePow, reduceIte, reduceCtorEq, c4, t1])
    | ((with_reducible first | refine x_guard_no ?hy ?_ | refine x_cond_true ?hy ?_); case hy => rfl)
    | ((with_reducible first | refine x_guard_none ?hy ?_ | refine x_cond_false ?hy ?_); case hy => rfl)
    | ((with_reducible refine block_exit_ne ?hy ?_); case hy => decide))
  refine node_ok hF2.mem hUa ?_
  have w2' : okW (hset H2 ⟨nb a.root, 3, none⟩ (.int .i64 0)) ⟨nb k, 4, none⟩ := w2
  repeat' (first
    | (with_reducible first | refine seq_normal ?_ | (refine hK _ _ ?_; clear hK K) | refine x_seq (fun K hK => ?_) | refine x_nil ?_ | refine x_block ?_ | refine x_skip ?_ | refine x_exit ?_ | refine x_ret ?_ | refine x_label ?_ | refine x_scope ?_ | (refine seq_ret ?_; clear hK K) | (refine seq_exit ?_; clear hK K) | refine block_normal ?_ | refine block_ret ?_ | refine block_exit ?_ | refine loop_exit ?_ | refine loop_ret ?_)
    | ((with_reducible refine x_reg_lit ?hq ?_); case hq => rfl)
    | ((first | (with_reducible first | refine x_op (fun K hK => ?_) | refine end_ret ?_ | refine end_normal ?_) | ((with_reducible refine x_guard_yes ?hy (fun K hK => ?_)); case hy => rfl)); simp only [go_sem, Int.cast_ofNat_Int, Nat.reduceEqDiff, Nat.reduceAdd, Nat.reduceMul, Nat.reduceLeDiff, Nat.reduceLT, Int.reduceLT, Int.reduceLE, Int.reduceEq, Int.reduceNeg, Int.reduceToNat, Nat.reducePow, reduceIte, reduceCtorEq, w1, w2'])
    | ((with_reducible first | refine x_guard_no ?hy ?_ | refine x_cond_true ?hy ?_); case hy => rfl)
    | ((with_reducible first | refine x_guard_none ?hy ?_ | refine x_cond_false ?hy ?_); case hy => rfl)
    | ((with_reducible refine block_exit_ne ?hy ?_); case hy => decide))
  refine pull_ok hF4 hU ?_
  intro H5 hF5 hf5
  repeat' (first
    | (with_reducible first | refine seq_normal ?_ | (refine hK _ _ ?_; clear hK K) | refine x_seq (fun K hK => ?_) | refine x_nil ?_ | refine x_block ?_ | refine x_skip ?_ | refine x_exit ?_ | refine x_ret ?_ | refine x_label ?_ | refine x_scope ?_ | (refine seq_ret ?_; clear hK K) | (refine seq_exit ?_; clear hK K) | refine block_normal ?_ | refine block_ret ?_ | refine block_exit ?_ | refine loop_exit ?_ | refine loop_ret ?_)
    | ((with_reducible refine x_reg_lit ?hq ?_); case hq => rfl)
    | ((first | (with_reducible first | refine x_op (fun K hK => ?_) | refine end_ret ?_ | refine end_normal ?_) | ((with_reducible refine x_guard_yes ?hy (fun K hK => ?_)); case hy => rfl)); simp only [go_sem, Int.cast_ofNat_Int, Nat.reduceEqDiff, Nat.reduceAdd, Nat.reduceMul, Nat.reduceLeDiff, Nat.reduceLT, Int.reduceLT, Int.reduceLE, Int.reduceEq, Int.reduceNeg, Int.reduceToNat, Nat.reducePow, reduceIte, reduceCtorEq])
    | ((with_reducible first | refine x_guard_no ?hy ?_ | refine x_cond_true ?hy ?_); case hy => rfl)
    | ((with_reducible first | refine x_guard_none ?hy ?_ | refine x_cond_false ?hy ?_); case hy => rfl)
    | ((with_reducible refine block_exit_ne ?hy ?_); case hy => decide))
  refine fin _ _ ⟨hF5, ?_, ?_, ?_, hF.may⟩ (((hf.trans hf3).trans hf4).trans hf5)
  · intro ys hy
    rcases List.mem_cons.1 hy with rfl | hy
    · exact ⟨a, cut.1, hla⟩
    · rcases List.mem_cons.1 hy with rfl | hy
      · exact ⟨_, cut.2.1, by simp [Tr.list, hrb]⟩
      · obtain ⟨t, h1, h2⟩ := hF2.trees ys (hr.mem_iff.2 (.tail _ hy))
        have hn2 : ((l ++ k :: r) :: R).flatten.Nodup := (hr.flatten.nodup_iff).1 hF.nodup
        rw [List.flatten_cons, List.nodup_append] at hn2
        refine ⟨t, h1.congr fun i hi => cut.2.2 i (fun hi' => ?_), h2⟩
        rw [e] at hi'
        exact hn2.2.2 i hi' i (List.mem_flatten.2 ⟨ys, hy, by rw [← h2]; exact hi⟩) rfl
  · have hn2 : ((l ++ k :: r) :: R).flatten.Nodup := (hr.flatten.nodup_iff).1 hF.nodup
    simpa using hn2
  · intro i
    rw [← hF.use i, hr.flatten.mem_iff]
    simp
end
end Go.Proofs.Ytndkbhlfbeiniaa

namespace Go.Proofs.Ytndkbhlfbeiniaa
open Go Go.Hp Go.Sp
set_option linter.all false
set_option maxRecDepth 100000
set_option maxHeartbeats 1600000

theorem up_ne_zero {N : Nodes} {it : Nat → Sp.Item} {i : Nat} : ∀ {t : Tr} {up : Nat}, TrAt N it up t → i ∈ t.list → i ≠ t.root → (N i).up ≠ 0
  | .nil, _, _, h, _ => by simp [Tr.list] at h
  | .node l h r, up, ⟨a, b, c, d⟩, hi, hne => by
    simp only [Tr.list, List.mem_append, List.mem_cons] at hi
    have kid : ∀ {t : Tr}, TrAt N it h t → (i ≠ t.root → (N i).up ≠ 0) → i ∈ t.list → (N i).up ≠ 0 := fun {t} ht ih hit => by
      by_cases e : i = t.root
      · cases t with
        | nil => simp [Tr.list] at hit
        | node x y z =>
          obtain ⟨_, ey, _⟩ := ht
          have e' : i = y := e
          rw [e', ey]
          exact a
      · exact ih e
    rcases hi with hi | hi | hi
    · exact kid c (fun e => up_ne_zero c hi e) hi
    · exact absurd hi hne
    · exact kid d (fun e => up_ne_zero d hi e) hi
section
variable {H H' : Heap} {f p g : Nat} {A : Ar} {nb : Nat → Nat} {N : Nodes} {S : Fo} {xs ys : List Nat} {k j : Nat}
theorem same_ok {K : Value → Heap → Prop} (hF : FoAt H f p g A nb N S) (hx : xs ∈ S.rows) (hk : k ∈ xs) (hy : ys ∈ S.rows) (hj : j ∈ ys)
    (fin : ∀ H' N' (b : Bool), FoAt H' f p g A nb N' S → Fr (NB A nb) H H' → (b = true ↔ ys = xs) → K (.bool b) H') :
    CallsH Try.prog 46 #[.pointer (some ⟨f, 0, none⟩), .int .i64 k, .int .i64 j] H K := by
  have hU := hF.u hx hk
  refine call46 (by simp) ?_
  simp only [Try.f46, Option.getD_some]
  by_cases h : k = j
  · subst h
    have t1 : ((k : Int) == (k : Int)) = true := by simp
    have hxy : ys = xs := (hF.apart hx ys hy).resolve_right fun h => h k hj hk
    repeat' (first
      | (with_reducible first | refine seq_normal ?_ | (refine hK _ _ ?_; clear hK K) | refine x_seq (fun K hK => ?_) | refine x_nil ?_ | refine x_block ?_ | refine x_skip ?_ | refine x_exit ?_ | refine x_ret ?_ | refine x_label ?_ | refine x_scope ?_ | (refine seq_ret ?_; clear hK K) | (refine seq_exit ?_; clear hK K) | refine block_normal ?_ | refine block_ret ?_ | refine block_exit ?_ | refine loop_exit ?_ | refine loop_ret ?_)
      | ((with_reducible refine x_reg_lit ?hq ?_); case hq => rfl)
      | ((first | (with_reducible first | refine x_op (fun K hK => ?_) | refine end_ret ?_ | refine end_normal ?_) | ((with_reducible refine x_guard_yes ?hy (fun K hK => ?_)); case hy => rfl)); simp only [go_sem, Int.cast_ofNat_Int, Nat.reduceEqDiff, Nat.reduceAdd, Nat.reduceMul, Nat.reduceLeDiff, Nat.reduceLT, Int.reduceLT, Int.reduceLE, Int.reduceEq, Int.reduceNeg, Int.reduceToNat, Nat.reducePow, reduceIte, reduceCtorEq, t1])
      | ((with_reducible first | refine x_guard_no ?hy ?_ | refine x_cond_true ?hy ?_); case hy => rfl)
      | ((with_reducible first | refine x_guard_none ?hy ?_ | refine x_cond_false ?hy ?_); case hy => rfl)
      | ((with_reducible refine block_exit_ne ?hy ?_); case hy => decide))
    exact fin _ N true hF (.refl _ _) (by simp [hxy])
  · have t1 : ((k : Int) == (j : Int)) = false := by simp; omega
    repeat' (first
      | (with_reducible first | refine seq_normal ?_ | (refine hK _ _ ?_; clear hK K) | refine x_seq (fun K hK => ?_) | refine x_nil ?_ | refine x_block ?_ | refine x_skip ?_ | refine x_exit ?_ | refine x_ret ?_ | refine x_label ?_ | refine x_scope ?_ | (refine seq_ret ?_; clear hK K) | (refine seq_exit ?_; clear hK K) | refine block_normal ?_ | refine block_ret ?_ | refine block_exit ?_ | refine loop_exit ?_ | refine loop_ret ?_)
      | ((with_reducible refine x_reg_lit ?hq ?_); case hq => rfl)
      | ((first | (with_reducible first | refine x_op (fun K hK => ?_) | refine end_ret ?_ | refine end_normal ?_) | ((with_reducible refine x_guard_yes ?hy (fun K hK => ?_)); case hy => rfl)); simp only [go_sem, Int.cast_ofNat_Int, Nat.reduceEqDiff, Nat.reduceAdd, Nat.reduceMul, Nat.reduceLeDiff, Nat.reduceLT, Int.reduceLT, Int.reduceLE, Int.reduceEq, Int.reduceNeg, Int.reduceToNat, Nat.reducePow, reduceIte, reduceCtorEq, t1])
      | ((with_reducible first | refine x_guard_no ?hy ?_ | refine x_cond_true ?hy ?_); case hy => rfl)
      | ((with_reducible first | refine x_guard_none ?hy ?_ | refine x_cond_false ?hy ?_); case hy => rfl)
      | ((with_reducible refine block_exit_ne ?hy ?_); case hy => decide))
    refine splay_row hF hx hk (hF.apart hx) ?_
    intro H2 N2 a b hF2 ht e hf hoff
    repeat' (first
      | (with_reducible first | refine seq_normal ?_ | (refine hK _ _ ?_; clear hK K) | refine x_seq (fun K hK => ?_) | refine x_nil ?_ | refine x_block ?_ | refine x_skip ?_ | refine x_exit ?_ | refine x_ret ?_ | refine x_label ?_ | refine x_scope ?_ | (refine seq_ret ?_; clear hK K) | (refine seq_exit ?_; clear hK K) | refine block_normal ?_ | refine block_ret ?_ | refine block_exit ?_ | refine loop_exit ?_ | refine loop_ret ?_)
      | ((with_reducible refine x_reg_lit ?hq ?_); case hq => rfl)
      | ((first | (with_reducible first | refine x_op (fun K hK => ?_) | refine end_ret ?_ | refine end_normal ?_) | ((with_reducible refine x_guard_yes ?hy (fun K hK => ?_)); case hy => rfl)); simp only [go_sem, Int.cast_ofNat_Int, Nat.reduceEqDiff, Nat.reduceAdd, Nat.reduceMul, Nat.reduceLeDiff, Nat.reduceLT, Int.reduceLT, Int.reduceLE, Int.reduceEq, Int.reduceNeg, Int.reduceToNat, Nat.reducePow, reduceIte, reduceCtorEq])
      | ((with_reducible first | refine x_guard_no ?hy ?_ | refine x_cond_true ?hy ?_); case hy => rfl)
      | ((with_reducible first | refine x_guard_none ?hy ?_ | refine x_cond_false ?hy ?_); case hy => rfl)
      | ((with_reducible refine block_exit_ne ?hy ?_); case hy => decide))
    refine splay_row hF2 hy hj (hF2.apart hy) ?_
    intro H3 N3 c d hF3 ht3 e3 hf3 hoff3
    repeat' (first
      | (with_reducible first | refine seq_normal ?_ | (refine hK _ _ ?_; clear hK K) | refine x_seq (fun K hK => ?_) | refine x_nil ?_ | refine x_block ?_ | refine x_skip ?_ | refine x_exit ?_ | refine x_ret ?_ | refine x_label ?_ | refine x_scope ?_ | (refine seq_ret ?_; clear hK K) | (refine seq_exit ?_; clear hK K) | refine block_normal ?_ | refine block_ret ?_ | refine block_exit ?_ | refine loop_exit ?_ | refine loop_ret ?_)
      | ((with_reducible refine x_reg_lit ?hq ?_); case hq => rfl)
      | ((first | (with_reducible first | refine x_op (fun K hK => ?_) | refine end_ret ?_ | refine end_normal ?_) | ((with_reducible refine x_guard_yes ?hy (fun K hK => ?_)); case hy => rfl)); simp only [go_sem, Int.cast_ofNat_Int, Nat.reduceEqDiff, Nat.reduceAdd, Nat.reduceMul, Nat.reduceLeDiff, Nat.reduceLT, Int.reduceLT, Int.reduceLE, Int.reduceEq, Int.reduceNeg, Int.reduceToNat, Nat.reducePow, reduceIte, reduceCtorEq])
      | ((with_reducible first | refine x_guard_no ?hy ?_ | refine x_cond_true ?hy ?_); case hy => rfl)
      | ((with_reducible first | refine x_guard_none ?hy ?_ | refine x_cond_false ?hy ?_); case hy => rfl)
      | ((with_reducible refine block_exit_ne ?hy ?_); case hy => decide))
    refine node_ok hF3.mem hU ?_
    have c3 := (hF3.mem.nd k hU).cellOf (i := 3) rfl
    by_cases hxy : ys = xs
    · have h0 : (N3 k).up ≠ 0 := up_ne_zero ht3 (by show k ∈ c.list ++ j :: d.list; rw [e3, hxy]; exact hk) h
      have t2 : (((N3 k).up : Int) != 0) = true := by simp [h0]
      repeat' (first
        | (with_reducible first | refine seq_normal ?_ | (refine hK _ _ ?_; clear hK K) | refine x_seq (fun K hK => ?_) | refine x_nil ?_ | refine x_block ?_ | refine x_skip ?_ | refine x_exit ?_ | refine x_ret ?_ | refine x_label ?_ | refine x_scope ?_ | (refine seq_ret ?_; clear hK K) | (refine seq_exit ?_; clear hK K) | refine block_normal ?_ | refine block_ret ?_ | refine block_exit ?_ | refine loop_exit ?_ | refine loop_ret ?_)
        | ((with_reducible refine x_reg_lit ?hq ?_); case hq => rfl)
        | ((first | (with_reducible first | refine x_op (fun K hK => ?_) | refine end_ret ?_ | refine end_normal ?_) | ((with_reducible refine x_guard_yes ?hy (fun K hK => ?_)); case hy => rfl)); simp only [go_sem, Int.cast_ofNat_Int, Nat.reduceEqDiff, Nat.reduceAdd, Nat.reduceMul, Nat.reduceLeDiff, Nat.reduceLT, Int.reduceLT, Int.reduceLE, Int.reduceEq, Int.reduceNeg, Int.reduceToNat, Nat.reducePow, reduceIte, reduceCtorEq, c3, t2])
        | ((with_reducible first | refine x_guard_no ?hy ?_ | refine x_cond_true ?hy ?_); case hy => rfl)
        | ((with_reducible first | refine x_guard_none ?hy ?_ | refine x_cond_false ?hy ?_); case hy => rfl)
        | ((with_reducible refine block_exit_ne ?hy ?_); case hy => decide))
      exact fin _ N3 true hF3 (hf.trans hf3) (by simp [hxy])
    · have hky : k ∉ ys := fun h => hxy ((hF.apart hx ys hy).resolve_right fun h' => h' k h hk)
      have h0 : (N3 k).up = 0 := by
        rw [hoff3 k hky]
        obtain ⟨_, ek, _⟩ := ht
        rw [ek]; rfl
      have t2 : (((N3 k).up : Int) != 0) = false := by simp [h0]
      repeat' (first
        | (with_reducible first | refine seq_normal ?_ | (refine hK _ _ ?_; clear hK K) | refine x_seq (fun K hK => ?_) | refine x_nil ?_ | refine x_block ?_ | refine x_skip ?_ | refine x_exit ?_ | refine x_ret ?_ | refine x_label ?_ | refine x_scope ?_ | (refine seq_ret ?_; clear hK K) | (refine seq_exit ?_; clear hK K) | refine block_normal ?_ | refine block_ret ?_ | refine block_exit ?_ | refine loop_exit ?_ | refine loop_ret ?_)
        | ((with_reducible refine x_reg_lit ?hq ?_); case hq => rfl)
        | ((first | (with_reducible first | refine x_op (fun K hK => ?_) | refine end_ret ?_ | refine end_normal ?_) | ((with_reducible refine x_guard_yes ?hy (fun K hK => ?_)); case hy => rfl)); simp only [go_sem, Int.cast_ofNat_Int, Nat.reduceEqDiff, Nat.reduceAdd, Nat.reduceMul, Nat.reduceLeDiff, Nat.reduceLT, Int.reduceLT, Int.reduceLE, Int.reduceEq, Int.reduceNeg, Int.reduceToNat, Nat.reducePow, reduceIte, reduceCtorEq, c3, t2])
        | ((with_reducible first | refine x_guard_no ?hy ?_ | refine x_cond_true ?hy ?_); case hy => rfl)
        | ((with_reducible first | refine x_guard_none ?hy ?_ | refine x_cond_false ?hy ?_); case hy => rfl)
        | ((with_reducible refine block_exit_ne ?hy ?_); case hy => decide))
      exact fin _ N3 false hF3 (hf.trans hf3) (by simp [hxy])
end
end Go.Proofs.Ytndkbhlfbeiniaa

namespace Go.Sp
open Go Go.Hp
set_option linter.unusedVariables false
theorem TrAt.links {N : Nodes} {it : Nat → Item} {i : Nat} : ∀ {t : Tr} {up : Nat}, TrAt N it up t → i ∈ t.list →
    ((N i).up = up ∨ (N i).up ∈ t.list) ∧ ((N i).l = 0 ∨ (N i).l ∈ t.list) ∧ ((N i).r = 0 ∨ (N i).r ∈ t.list)
  | .nil, _, _, h => by simp [Tr.list] at h
  | .node l h r, up, ⟨a, b, c, d⟩, hi => by
    simp only [Tr.list, List.mem_append, List.mem_cons] at hi ⊢
    rcases hi with hi | rfl | hi
    · obtain ⟨h1, h2, h3⟩ := c.links hi
      refine ⟨.inr ?_, ?_, ?_⟩
      · rcases h1 with h1 | h1
        · exact .inr (.inl h1)
        · exact .inl h1
      · rcases h2 with h2 | h2
        · exact .inl h2
        · exact .inr (.inl h2)
      · rcases h3 with h3 | h3
        · exact .inl h3
        · exact .inr (.inl h3)
    · rw [b]
      refine ⟨.inl rfl, ?_, ?_⟩
      · by_cases e : l.root = 0
        · exact .inl e
        · exact .inr (.inl (Tr.root_mem e))
      · by_cases e : r.root = 0
        · exact .inl e
        · exact .inr (.inr (.inr (Tr.root_mem e)))
    · obtain ⟨h1, h2, h3⟩ := d.links hi
      refine ⟨.inr ?_, ?_, ?_⟩
      · rcases h1 with h1 | h1
        · exact .inr (.inl h1)
        · exact .inr (.inr h1)
      · rcases h2 with h2 | h2
        · exact .inl h2
        · exact .inr (.inr (.inr h2))
      · rcases h3 with h3 | h3
        · exact .inl h3
        · exact .inr (.inr (.inr h3))
end Go.Sp
namespace Go.Proofs.Ytndkbhlfbeiniaa
open Go Go.Hp Go.Sp
set_option linter.all false
set_option maxRecDepth 100000
set_option maxHeartbeats 1600000

section
variable {H H' : Heap} {f p g : Nat} {A : Ar} {nb : Nat → Nat} {N : Nodes} {S : Fo} {xs : List Nat} {k : Nat} {R : List (List Nat)}
theorem FAt.made {H1 : Heap} {b g' h : Nat} {A' : Ar} {r : Rec} (hF : FAt H1 f p g A nb N) (hb : Blk H1 b r.cells) (hbn : ∀ i, U A i → nb i ≠ b) (hb3 : b ≠ f ∧ b ≠ p ∧ b ≠ g) (hr : r.up = 0 ∧ r.l = 0 ∧ r.r = 0)
    (hA' : ArAt H' p g' 1 [.pointer none] A') (hn : A.get h = none) (hg : ∀ i, A'.get i = if i = h then some [.pointer (some ⟨b, 0, none⟩)] else A.get i) (hf : Fr (fun y => y = g ∨ y = p) H1 H') (hgg : g' = g ∨ H1.size ≤ g') :
    FAt H' f p g' A' (fun i => if i = h then b else nb i) (upd N h r) := by
  have hU : ∀ i, U A' i ↔ i = h ∨ U A i := fun i => by
    unfold U
    rw [hg]
    by_cases e : i = h
    · simp [e]
    · simp [e]
  have hnh : ∀ i, U A i → i ≠ h := fun i hi e => by subst e; unfold U at hi; rw [hn] at hi; cases hi
  have hlt : ∀ b', b' < H1.size → b' ≠ g → b' ≠ g' := fun b' h1 h2 => by
    rcases hgg with e | e
    · rw [e]; exact h2
    · omega
  refine ⟨hF.ff.frame hf (by have := hF.fp; omega), hA', fun i v hv => ?_, fun i hi => ?_, fun i j hi hj e => ?_, fun i hi => ?_, ⟨hF.fp.1, hlt _ hF.ff.lt hF.fp.2⟩, ?_⟩
  · rw [hg] at hv
    by_cases e : i = h
    · rw [if_pos e] at hv; rw [if_pos e]; exact (Option.some.inj hv).symm
    · rw [if_neg e] at hv; rw [if_neg e]; exact hF.use i v hv
  · rcases (hU i).1 hi with rfl | hi
    · simp only [if_true, upd_same]
      exact hb.frame hf (by omega)
    · have hne := hnh i hi
      simp only [hne, if_false]
      rw [upd_ne _ _ hne]
      have := hF.dis i hi
      exact (hF.nd i hi).frame hf (by omega)
  · rcases (hU i).1 hi with e1 | hi <;> rcases (hU j).1 hj with e2 | hj
    · rw [e1, e2]
    · rw [if_pos e1, if_neg (hnh j hj)] at e
      exact absurd e.symm (hbn j hj)
    · rw [if_pos e2, if_neg (hnh i hi)] at e
      exact absurd e (hbn i hi)
    · rw [if_neg (hnh i hi), if_neg (hnh j hj)] at e
      exact hF.inj i j hi hj e
  · rcases (hU i).1 hi with rfl | hi
    · simp only [if_true]
      exact ⟨hb3.1, hb3.2.1, hlt _ hb.lt hb3.2.2⟩
    · have hne := hnh i hi
      simp only [hne, if_false]
      have := hF.dis i hi
      exact ⟨this.1, this.2.1, hlt _ (hF.nd i hi).lt this.2.2⟩
  · have lift : ∀ x, x = 0 ∨ U A x → x = 0 ∨ U A' x := fun x hx => hx.imp id fun h => (hU x).2 (.inr h)
    refine ⟨fun i hi => ?_, fun i hi => ?_, fun i hi => ?_⟩
    all_goals
      rcases (hU i).1 hi with rfl | hi
      · rw [upd_same]; simp [hr]
      · rw [upd_ne _ _ (hnh i hi)]
        first | exact lift _ (hF.cl.up i hi) | exact lift _ (hF.cl.l i hi) | exact lift _ (hF.cl.r i hi)
theorem FoAt.made {H1 : Heap} {b g' h : Nat} {A' : Ar} {x : Sp.Item} (hF : FoAt H1 f p g A nb N S) (hx : May x) (hh : 1 ≤ h) (hb : Blk H1 b (Rec.mk x 0 0 0 1 (ownA x)).cells) (hbn : ∀ i, U A i → nb i ≠ b) (hb3 : b ≠ f ∧ b ≠ p ∧ b ≠ g)
    (hA' : ArAt H' p g' 1 [.pointer none] A') (hn : A.get h = none) (hg : ∀ i, A'.get i = if i = h then some [.pointer (some ⟨b, 0, none⟩)] else A.get i) (hf : Fr (fun y => y = g ∨ y = p) H1 H') (hgg : g' = g ∨ H1.size ≤ g') :
    FoAt H' f p g' A' (fun i => if i = h then b else nb i) (upd N h (Rec.mk x 0 0 0 1 (ownA x))) ⟨fun i => if i = h then x else S.it i, [h] :: S.rows⟩ := by
  have hU : ∀ i, U A' i ↔ i = h ∨ U A i := fun i => by
    unfold U
    rw [hg]
    by_cases e : i = h
    · simp [e]
    · simp [e]
  have hhU : ¬ U A h := fun hi => by unfold U at hi; rw [hn] at hi; cases hi
  have hhr : h ∉ S.rows.flatten := fun hi => hhU ((hF.use h).1 hi)
  refine ⟨hF.mem.made hb hbn hb3 ⟨rfl, rfl, rfl⟩ hA' hn hg hf hgg, fun ys hy => ?_, ?_, fun i => ?_, fun i hi => ?_⟩
  · rcases List.mem_cons.1 hy with rfl | hy
    · refine ⟨.node .nil h .nil, ⟨by omega, ?_, trivial, trivial⟩, rfl⟩
      rw [upd_same]
      unfold recOf aggOf
      simp [Tr.list, Tr.root, ownA_aggL hx]
    · obtain ⟨t, h1, h2⟩ := hF.trees ys hy
      have hni : ∀ i ∈ t.list, i ≠ h := fun i hi e => hhr (List.mem_flatten.2 ⟨ys, hy, by rw [← h2, ← e]; exact hi⟩)
      exact ⟨t, (h1.congr fun i hi => upd_ne _ _ (hni i hi)).items fun i hi => if_neg (hni i hi), h2⟩
  · rw [List.flatten_cons, List.singleton_append, List.nodup_cons]
    exact ⟨hhr, hF.nodup⟩
  · rw [hU, ← hF.use i]; simp
  · rcases (hU i).1 hi with rfl | hi
    · simp only [if_true]; exact hx
    · have : i ≠ h := fun e => hhU (e ▸ hi)
      simp only [this, if_false]
      exact hF.may i hi
theorem FoAt.freed {h : Nat} (hF : FoAt H f p g A nb N S) (hr : S.rows.Perm ([h] :: R)) (hA' : ArAt H' p g 1 [.pointer none] (A.drop h)) (hf : Fr (fun y => y = g ∨ y = p) H H') : FoAt H' f p g (A.drop h) nb N ⟨S.it, R⟩ := by
  have hx : [h] ∈ S.rows := hr.mem_iff.2 (.head _)
  have hUh := hF.u hx (.head _)
  obtain ⟨v, hv⟩ := Option.isSome_iff_exists.1 hUh
  have hgd := Ar.get_drop hv
  have hU : ∀ i, U (A.drop h) i ↔ i ≠ h ∧ U A i := fun i => by
    unfold U
    rw [hgd]
    by_cases e : i = h
    · simp [e]
    · simp [e]
  have hn2 : ([h] :: R).flatten.Nodup := (hr.flatten.nodup_iff).1 hF.nodup
  rw [List.flatten_cons, List.singleton_append, List.nodup_cons] at hn2
  have huse : ∀ i, i ∈ R.flatten ↔ U (A.drop h) i := fun i => by
    rw [hU, ← hF.use i, hr.flatten.mem_iff, List.flatten_cons, List.singleton_append, List.mem_cons]
    constructor
    · intro hi
      exact ⟨fun e => hn2.1 (e ▸ hi), .inr hi⟩
    · rintro ⟨h1, h2 | h2⟩
      · exact absurd h2 h1
      · exact h2
  have links : ∀ i, U (A.drop h) i → ((N i).up = 0 ∨ U (A.drop h) (N i).up) ∧ ((N i).l = 0 ∨ U (A.drop h) (N i).l) ∧ ((N i).r = 0 ∨ U (A.drop h) (N i).r) := fun i hi => by
    obtain ⟨ys, hy, hiy⟩ := List.mem_flatten.1 ((huse i).2 hi)
    obtain ⟨t, h1, h2⟩ := hF.trees ys (hr.mem_iff.2 (.tail _ hy))
    have hl := h1.links (i := i) (by rw [h2]; exact hiy)
    have lift : ∀ x, x ∈ t.list → U (A.drop h) x := fun x hx => (huse x).1 (List.mem_flatten.2 ⟨ys, hy, by rw [← h2]; exact hx⟩)
    exact ⟨hl.1.imp id (lift _), hl.2.1.imp id (lift _), hl.2.2.imp id (lift _)⟩
  refine ⟨⟨hF.mem.ff.frame hf (by have := hF.mem.fp; omega), hA', fun i v hv => ?_, fun i hi => ?_, fun i j hi hj e => hF.mem.inj i j ((hU i).1 hi).2 ((hU j).1 hj).2 e, fun i hi => hF.mem.dis i ((hU i).1 hi).2, hF.mem.fp, ⟨fun i hi => (links i hi).1, fun i hi => (links i hi).2.1, fun i hi => (links i hi).2.2⟩⟩,
    fun ys hy => hF.trees ys (hr.mem_iff.2 (.tail _ hy)), hn2.2, huse, fun i hi => hF.may i ((hU i).1 hi).2⟩
  · rw [hgd] at hv
    by_cases e : i = h
    · rw [if_pos e] at hv; cases hv
    · rw [if_neg e] at hv; exact hF.mem.use i v hv
  · have := hF.mem.dis i ((hU i).1 hi).2
    exact (hF.mem.nd i ((hU i).1 hi).2).frame hf (by omega)
/-- A node's item laid anew. -/
theorem FAt.item (hF : FAt H f p g A nb N) {x : Sp.Item} (hk : U A k) :
    (∀ j, j < 3 → okW H ⟨nb k, j, none⟩) ∧ FAt (hset (hset (hset H ⟨nb k, 0, none⟩ (.int .i64 x.value)) ⟨nb k, 1, none⟩ (.bool x.counts)) ⟨nb k, 2, none⟩ (.int .i64 x.flags)) f p g A nb (upd N k { N k with item := x }) ∧
      Fr (NB A nb) H (hset (hset (hset H ⟨nb k, 0, none⟩ (.int .i64 x.value)) ⟨nb k, 1, none⟩ (.bool x.counts)) ⟨nb k, 2, none⟩ (.int .i64 x.flags)) := by
  have hn := hF.nd k hk
  have hfr : Fr (· = nb k) H (hset (hset (hset H ⟨nb k, 0, none⟩ (.int .i64 x.value)) ⟨nb k, 1, none⟩ (.bool x.counts)) ⟨nb k, 2, none⟩ (.int .i64 x.flags)) := by
    have step : ∀ {H' : Heap} (o : Nat) (v : Value), Fr (· = nb k) H H' → Fr (· = nb k) H (hset H' ⟨nb k, o, none⟩ v) := fun o v h => Fr.set (S := (· = nb k)) (a := ⟨nb k, o, none⟩) h (.inl rfl) v
    exact step 2 _ (step 1 _ (step 0 _ (Fr.refl _ _)))
  refine ⟨fun j hj => hn.okW (by simp [Rec.cells]; omega), hF.set hk hfr ?_ ?_, NB.of hk hfr⟩
  · exact ((hn.set_same 0 (.int .i64 x.value)).set_same 1 (.bool x.counts)).set_same 2 (.int .i64 x.flags)
  · exact hF.cl.upd (hF.cl.up k hk) (hF.cl.l k hk) (hF.cl.r k hk)
end
end Go.Proofs.Ytndkbhlfbeiniaa

namespace Go.Sp
open Go Go.Hp
set_option linter.unusedVariables false
structure Sq where
  room : Nat
  top : Nat
  free : List Nat
  it : Nat → Item
  rows : List (List Nat)
/-- A node is there. -/
def Sq.Has (S : Sq) (i : Int) : Prop := ∃ k : Nat, i = (k : Int) ∧ k ∈ S.rows.flatten
/-- A node more in a forest: its handle. -/
def Sq.next (S : Sq) : Nat := S.free.headD S.top
def Sq.made (S : Sq) (x : Item) : Sq := { S with top := if S.free = [] then S.top + 1 else S.top, free := S.free.tail, it := fun i => if i = S.next then x else S.it i, rows := [S.next] :: S.rows }
def Sq.freed (S : Sq) (h : Nat) (R : List (List Nat)) : Sq := { S with free := h :: S.free, rows := R }
end Go.Sp
namespace Go.Proofs.Ytndkbhlfbeiniaa
open Go Go.Hp Go.Sp
set_option linter.all false
set_option maxRecDepth 100000
set_option maxHeartbeats 1600000

/-- A forest in memory, header at f, all of it within the blocks T. -/
def FoM (H : Heap) (f : Nat) (T : Nat → Prop) (S : Sq) : Prop :=
  ∃ p g A nb N, FoAt H f p g A nb N ⟨S.it, S.rows⟩ ∧ A.room = S.room ∧ A.vals.length = S.top ∧ A.free = S.free ∧ (∀ b, Foot f p g A nb b → T b) ∧ (∀ b, T b → b < H.size)
section
variable {H H' : Heap} {f : Nat} {T : Nat → Prop} {S : Sq}
theorem FoM.lt (h : FoM H f T S) {b : Nat} (hb : T b) : b < H.size := by
  obtain ⟨p, g, A, nb, N, _, _, _, _, _, h6⟩ := h
  exact h6 b hb
theorem FoM.frame {T0 : Nat → Prop} (h : FoM H f T S) (hf : Fr T0 H H') (hT : ∀ b, T b → ¬ T0 b) : FoM H' f T S := by
  obtain ⟨p, g, A, nb, N, h1, h2, h3, h4, h5, h6⟩ := h
  exact ⟨p, g, A, nb, N, h1.frame hf fun b hb => hT b (h5 b hb), h2, h3, h4, h5, fun b hb => Nat.lt_of_lt_of_le (h6 b hb) hf.size⟩
theorem FoM.grow (h : FoM H f T S) (hf : Fr (fun _ => False) H H') : FoM H' f T S := h.frame hf fun _ _ h => h
theorem FoM.perm (h : FoM H f T S) {R : List (List Nat)} (hr : S.rows.Perm R) : FoM H f T { S with rows := R } := by
  obtain ⟨p, g, A, nb, N, h1, h2, h3, h4, h5, h6⟩ := h
  exact ⟨p, g, A, nb, N, h1.perm hr, h2, h3, h4, h5, h6⟩
theorem FoM.nodup (h : FoM H f T S) : S.rows.flatten.Nodup := by
  obtain ⟨p, g, A, nb, N, h1, _⟩ := h
  exact h1.nodup
theorem FoM.may (h : FoM H f T S) {k : Nat} (hk : k ∈ S.rows.flatten) : May (S.it k) := by
  obtain ⟨p, g, A, nb, N, h1, _⟩ := h
  exact h1.may k ((h1.use k).1 hk)
theorem FoM.pos (h : FoM H f T S) {k : Nat} (hk : k ∈ S.rows.flatten) : 1 ≤ k := by
  obtain ⟨p, g, A, nb, N, h1, _⟩ := h
  exact h1.mem.pos ((h1.use k).1 hk)
theorem FoM.len (h : FoM H f T S) : S.rows.flatten.length ≤ 4096 := by
  obtain ⟨p, g, A, nb, N, h1, _⟩ := h
  exact h1.len
theorem FoAt.many {p g : Nat} {A : Ar} {nb : Nat → Nat} {N : Nodes} {S : Fo} (h : FoAt H f p g A nb N S) : S.rows.flatten.length = A.many := by
  have hp : S.rows.flatten.Perm A.handles := by
    unfold Ar.handles
    rw [List.perm_ext_iff_of_nodup h.nodup (List.nodup_range.filter _)]
    intro i
    rw [h.use i]
    simp only [List.mem_filter, List.mem_range]
    refine ⟨fun hu => ?_, fun hu => hu.2⟩
    obtain ⟨v, hv⟩ := Option.isSome_iff_exists.1 hu
    exact ⟨Ar.get_some_lt hv, hu⟩
  have hm : A.many = A.handles.length := by
    have e : A.vals = (List.range A.vals.length).map A.get := by
      apply List.ext_getElem?
      intro i
      rcases Nat.lt_or_ge i A.vals.length with h' | h'
      · rw [Ar.get_eq h']; simp [h']
      · rw [List.getElem?_eq_none h', List.getElem?_eq_none (by simpa using h')]
    unfold Ar.many Ar.handles
    conv => lhs; rw [e]
    rw [List.filter_map, List.length_map]
    rfl
  rw [hp.length_eq, ← hm]
theorem FoM.room (h : FoM H f T S) : S.rows.flatten.length ≤ S.room ∧ S.room ≤ 4096 ∧ S.rows.flatten.length + S.free.length + 1 = S.top := by
  obtain ⟨p, g, A, nb, N, h1, h2, h3, h4, _⟩ := h
  have hm := h1.many
  have h5 := h1.mem.ar.ok.most
  have h6 := h1.mem.ar.ok.room
  have h7 := Ar.count_free A h1.mem.ar.ok
  simp only [] at hm
  rw [hm, ← h2, ← h3, ← h4]
  exact ⟨h5, h6, h7⟩
theorem FoM.free_mem (h : FoM H f T S) (i : Nat) : i ∈ S.free ↔ 1 ≤ i ∧ i < S.top ∧ i ∉ S.rows.flatten := by
  obtain ⟨p, g, A, nb, N, h1, h2, h3, h4, _⟩ := h
  rw [← h4, ← h3, h1.mem.ar.ok.mem i]
  have := h1.use i
  simp only [] at this
  rw [this]
  unfold U
  simp
theorem FoM.lt_top (h : FoM H f T S) {k : Nat} (hk : k ∈ S.rows.flatten) : k < S.top := by
  obtain ⟨p, g, A, nb, N, h1, h2, h3, h4, _⟩ := h
  have := (h1.use k).1 hk
  obtain ⟨v, hv⟩ := Option.isSome_iff_exists.1 this
  rw [← h3]
  exact Ar.get_some_lt hv
theorem FoAt.none {p g : Nat} {A : Ar} {nb : Nat → Nat} {N : Nodes} {S : Fo} {i : Int} (h : FoAt H f p g A nb N S) (hi : ¬ ∃ k : Nat, i = (k : Int) ∧ k ∈ S.rows.flatten) : i < 1 ∨ A.get i.toNat = none := by
  rcases Int.lt_or_le i 1 with h1 | h1
  · exact .inl h1
  · refine .inr ?_
    obtain ⟨k, rfl⟩ := Int.eq_ofNat_of_zero_le (show 0 ≤ i by omega)
    cases hg : A.get k with
    | none => simpa using hg
    | some v => exact absurd ⟨k, rfl, (h.use k).2 (by unfold U; rw [hg]; rfl)⟩ hi
end
end Go.Proofs.Ytndkbhlfbeiniaa

namespace Go.Proofs.Ytndkbhlfbeiniaa
open Go Go.Hp Go.Sp
set_option linter.all false
set_option maxRecDepth 100000
set_option maxHeartbeats 1600000

def mayB (x : Sp.Item) : Bool := decide (-1099511627776 ≤ x.value ∧ x.value ≤ 1099511627776 ∧ 0 ≤ x.flags ∧ x.flags < 256)
theorem mayB_iff {x : Sp.Item} : mayB x = true ↔ May x := by
  unfold mayB
  rw [decide_eq_true_iff]
  exact ⟨fun ⟨a, b, c, d⟩ => ⟨a, b, c, d⟩, fun h => ⟨h.lo, h.hi, h.f0, h.f1⟩⟩
/-- Both numbers of an item fit. -/
def Fits (x : Sp.Item) : Prop := (-9223372036854775808 ≤ x.value ∧ x.value ≤ 9223372036854775807) ∧ -9223372036854775808 ≤ x.flags ∧ x.flags ≤ 9223372036854775807
theorem may_ok {H : Heap} {x : Sp.Item} {K : Value → Heap → Prop} (hx : Fits x) (fin : ∀ H', Fr (fun _ => False) H H' → K (.bool (mayB x)) H') : CallsH Try.prog 39 #[x.val] H K := by
  have hb : mayB x = (decide (-1099511627776 ≤ x.value) && decide (x.value ≤ 1099511627776) && decide (andNot64 x.flags 255 = 0)) := by
    unfold mayB
    rw [Bool.eq_iff_iff]
    simp only [decide_eq_true_iff, Bool.and_eq_true, andNot_zero hx.2.1 hx.2.2]
    omega
  rw [hb] at fin
  have ea : bitAndNot .i64 x.flags 255 = andNot64 x.flags 255 := rfl
  refine call39 (by simp) ?_
  simp only [Try.f39, Option.getD_some]
  by_cases h1 : -1099511627776 ≤ x.value
  · have t1 : (-1099511627776 ≤ x.value) = True := by simp [h1]
    by_cases h2 : x.value ≤ 1099511627776
    · have t2 : (x.value ≤ 1099511627776) = True := by simp [h2]
      simp only [t1, t2, decide_true, Bool.true_and] at fin
      repeat' (first
        | (with_reducible first | refine seq_normal ?_ | (refine hK _ _ ?_; clear hK K) | refine x_seq (fun K hK => ?_) | refine x_nil ?_ | refine x_block ?_ | refine x_skip ?_ | refine x_exit ?_ | refine x_ret ?_ | refine x_label ?_ | refine x_scope ?_ | (refine seq_ret ?_; clear hK K) | (refine seq_exit ?_; clear hK K) | refine block_normal ?_ | refine block_ret ?_ | refine block_exit ?_ | refine loop_exit ?_ | refine loop_ret ?_)
        | ((with_reducible refine x_reg_lit ?hq ?_); case hq => rfl)
        | ((first | (with_reducible first | refine x_op (fun K hK => ?_) | refine end_ret ?_ | refine end_normal ?_) | ((with_reducible refine x_guard_yes ?hy (fun K hK => ?_)); case hy => rfl)); simp only [go_sem, Int.cast_ofNat_Int, Nat.reduceEqDiff, Nat.reduceAdd, Nat.reduceMul, Nat.reduceLeDiff, Nat.reduceLT, Int.reduceLT, Int.reduceLE, Int.reduceEq, Int.reduceNeg, Int.reduceToNat, Nat.reducePow, reduceIte, reduceCtorEq, Sp.Item.val, t1, t2, ea, hcell_push, hcell_top, okW_push, okW_top, hcell_hset_ne, hcell_hset_off, hcell_hset_eq, okW_hset, hset_size, Array.size_push, Nat.lt_add_one, ne_add_one, add_one_ne, Nat.add_assoc, add_same, add_lt_same, Nat.reduceEqDiff, lt_add_k, add_k_ne, ne_add_k])
        | ((with_reducible first | refine x_guard_no ?hy ?_ | refine x_cond_true ?hy ?_); case hy => rfl)
        | ((with_reducible first | refine x_guard_none ?hy ?_ | refine x_cond_false ?hy ?_); case hy => rfl)
        | ((with_reducible refine block_exit_ne ?hy ?_); case hy => decide))
      have e3 : (andNot64 x.flags 255 == 0) = decide (andNot64 x.flags 255 = 0) := by
        rw [Bool.eq_iff_iff]; simp
      rw [← e3] at fin
      exact fin _ (by ((repeat (first | refine Fr.set ?_ (by simp) _ | refine Fr.push ?_ _)); exact Fr.refl _ _))
    · have t2 : (x.value ≤ 1099511627776) = False := by simp; omega
      simp only [t1, t2, decide_true, decide_false, Bool.and_false, Bool.false_and] at fin
      repeat' (first
        | (with_reducible first | refine seq_normal ?_ | (refine hK _ _ ?_; clear hK K) | refine x_seq (fun K hK => ?_) | refine x_nil ?_ | refine x_block ?_ | refine x_skip ?_ | refine x_exit ?_ | refine x_ret ?_ | refine x_label ?_ | refine x_scope ?_ | (refine seq_ret ?_; clear hK K) | (refine seq_exit ?_; clear hK K) | refine block_normal ?_ | refine block_ret ?_ | refine block_exit ?_ | refine loop_exit ?_ | refine loop_ret ?_)
        | ((with_reducible refine x_reg_lit ?hq ?_); case hq => rfl)
        | ((first | (with_reducible first | refine x_op (fun K hK => ?_) | refine end_ret ?_ | refine end_normal ?_) | ((with_reducible refine x_guard_yes ?hy (fun K hK => ?_)); case hy => rfl)); simp only [go_sem, Int.cast_ofNat_Int, Nat.reduceEqDiff, Nat.reduceAdd, Nat.reduceMul, Nat.reduceLeDiff, Nat.reduceLT, Int.reduceLT, Int.reduceLE, Int.reduceEq, Int.reduceNeg, Int.reduceToNat, Nat.reducePow, reduceIte, reduceCtorEq, Sp.Item.val, t1, t2, ea, hcell_push, hcell_top, okW_push, okW_top, hcell_hset_ne, hcell_hset_off, hcell_hset_eq, okW_hset, hset_size, Array.size_push, Nat.lt_add_one, ne_add_one, add_one_ne, Nat.add_assoc, add_same, add_lt_same, Nat.reduceEqDiff, lt_add_k, add_k_ne, ne_add_k])
        | ((with_reducible first | refine x_guard_no ?hy ?_ | refine x_cond_true ?hy ?_); case hy => rfl)
        | ((with_reducible first | refine x_guard_none ?hy ?_ | refine x_cond_false ?hy ?_); case hy => rfl)
        | ((with_reducible refine block_exit_ne ?hy ?_); case hy => decide))
      exact fin _ (by ((repeat (first | refine Fr.set ?_ (by simp) _ | refine Fr.push ?_ _)); exact Fr.refl _ _))
  · have t1 : (-1099511627776 ≤ x.value) = False := by simp; omega
    simp only [t1, decide_false, Bool.false_and] at fin
    repeat' (first
      | (with_reducible first | refine seq_normal ?_ | (refine hK _ _ ?_; clear hK K) | refine x_seq (fun K hK => ?_) | refine x_nil ?_ | refine x_block ?_ | refine x_skip ?_ | refine x_exit ?_ | refine x_ret ?_ | refine x_label ?_ | refine x_scope ?_ | (refine seq_ret ?_; clear hK K) | (refine seq_exit ?_; clear hK K) | refine block_normal ?_ | refine block_ret ?_ | refine block_exit ?_ | refine loop_exit ?_ | refine loop_ret ?_)
      | ((with_reducible refine x_reg_lit ?hq ?_); case hq => rfl)
      | ((first | (with_reducible first | refine x_op (fun K hK => ?_) | refine end_ret ?_ | refine end_normal ?_) | ((with_reducible refine x_guard_yes ?hy (fun K hK => ?_)); case hy => rfl)); simp only [go_sem, Int.cast_ofNat_Int, Nat.reduceEqDiff, Nat.reduceAdd, Nat.reduceMul, Nat.reduceLeDiff, Nat.reduceLT, Int.reduceLT, Int.reduceLE, Int.reduceEq, Int.reduceNeg, Int.reduceToNat, Nat.reducePow, reduceIte, reduceCtorEq, Sp.Item.val, t1, ea, hcell_push, hcell_top, okW_push, okW_top, hcell_hset_ne, hcell_hset_off, hcell_hset_eq, okW_hset, hset_size, Array.size_push, Nat.lt_add_one, ne_add_one, add_one_ne, Nat.add_assoc, add_same, add_lt_same, Nat.reduceEqDiff, lt_add_k, add_k_ne, ne_add_k])
      | ((with_reducible first | refine x_guard_no ?hy ?_ | refine x_cond_true ?hy ?_); case hy => rfl)
      | ((with_reducible first | refine x_guard_none ?hy ?_ | refine x_cond_false ?hy ?_); case hy => rfl)
      | ((with_reducible refine block_exit_ne ?hy ?_); case hy => decide))
    exact fin _ (by ((repeat (first | refine Fr.set ?_ (by simp) _ | refine Fr.push ?_ _)); exact Fr.refl _ _))
theorem new_no {H : Heap} {n : Int} {K : Value → Heap → Prop} (hn : n < 0 ∨ 1024 < n) (fin : K (.tuple #[.pointer none, .int .i64 1]) H) : CallsH Try.prog 29 #[.int .i64 n] H K := by
  refine call29 (by simp) ?_
  simp only [Try.f29, Option.getD_some]
  by_cases h0 : n < 0
  · have e1 : (n < 0) = True := by simp [h0]
    repeat' (first
      | (with_reducible first | refine seq_normal ?_ | (refine hK _ _ ?_; clear hK K) | refine x_seq (fun K hK => ?_) | refine x_nil ?_ | refine x_block ?_ | refine x_skip ?_ | refine x_exit ?_ | refine x_ret ?_ | refine x_label ?_ | refine x_scope ?_ | (refine seq_ret ?_; clear hK K) | (refine seq_exit ?_; clear hK K) | refine block_normal ?_ | refine block_ret ?_ | refine block_exit ?_ | refine loop_exit ?_ | refine loop_ret ?_)
      | ((with_reducible refine x_reg_lit ?hq ?_); case hq => rfl)
      | ((first | (with_reducible first | refine x_op (fun K hK => ?_) | refine end_ret ?_ | refine end_normal ?_) | ((with_reducible refine x_guard_yes ?hy (fun K hK => ?_)); case hy => rfl)); simp only [go_sem, Int.cast_ofNat_Int, Nat.reduceEqDiff, Nat.reduceAdd, Nat.reduceMul, Nat.reduceLeDiff, Nat.reduceLT, Int.reduceLT, Int.reduceLE, Int.reduceEq, Int.reduceNeg, Int.reduceToNat, Nat.reducePow, reduceIte, reduceCtorEq, e1])
      | ((with_reducible first | refine x_guard_no ?hy ?_ | refine x_cond_true ?hy ?_); case hy => rfl)
      | ((with_reducible first | refine x_guard_none ?hy ?_ | refine x_cond_false ?hy ?_); case hy => rfl)
      | ((with_reducible refine block_exit_ne ?hy ?_); case hy => decide))
    exact fin
  · have e1 : (n < 0) = False := by simp [h0]
    have e2 : (1024 < n) = True := by simp; omega
    repeat' (first
      | (with_reducible first | refine seq_normal ?_ | (refine hK _ _ ?_; clear hK K) | refine x_seq (fun K hK => ?_) | refine x_nil ?_ | refine x_block ?_ | refine x_skip ?_ | refine x_exit ?_ | refine x_ret ?_ | refine x_label ?_ | refine x_scope ?_ | (refine seq_ret ?_; clear hK K) | (refine seq_exit ?_; clear hK K) | refine block_normal ?_ | refine block_ret ?_ | refine block_exit ?_ | refine loop_exit ?_ | refine loop_ret ?_)
      | ((with_reducible refine x_reg_lit ?hq ?_); case hq => rfl)
      | ((first | (with_reducible first | refine x_op (fun K hK => ?_) | refine end_ret ?_ | refine end_normal ?_) | ((with_reducible refine x_guard_yes ?hy (fun K hK => ?_)); case hy => rfl)); simp only [go_sem, Int.cast_ofNat_Int, Nat.reduceEqDiff, Nat.reduceAdd, Nat.reduceMul, Nat.reduceLeDiff, Nat.reduceLT, Int.reduceLT, Int.reduceLE, Int.reduceEq, Int.reduceNeg, Int.reduceToNat, Nat.reducePow, reduceIte, reduceCtorEq, e1, e2])
      | ((with_reducible first | refine x_guard_no ?hy ?_ | refine x_cond_true ?hy ?_); case hy => rfl)
      | ((with_reducible first | refine x_guard_none ?hy ?_ | refine x_cond_false ?hy ?_); case hy => rfl)
      | ((with_reducible refine block_exit_ne ?hy ?_); case hy => decide))
    exact fin
def Sq.new (n : Nat) : Sq := ⟨n, 1, [], fun _ => Sp.Item.zero, []⟩
theorem new_ok {H : Heap} {n : Nat} {K : Value → Heap → Prop} (hn : n ≤ 1024)
    (fin : ∀ H' f T, FoM H' f T (Sq.new n) → Fr (fun _ => False) H H' → (∀ b, T b → H.size ≤ b) → T f → K (.tuple #[.pointer (some ⟨f, 0, none⟩), .int .i64 0]) H') : CallsH Try.prog 29 #[.int .i64 (n : Nat)] H K := by
  have e1 : ((n : Int) < 0) = False := by simp
  have e2 : (1024 < (n : Int)) = False := by simp; omega
  refine call29 (by simp) ?_
  simp only [Try.f29, Option.getD_some]
  repeat' (first
    | (with_reducible first | refine seq_normal ?_ | (refine hK _ _ ?_; clear hK K) | refine x_seq (fun K hK => ?_) | refine x_nil ?_ | refine x_block ?_ | refine x_skip ?_ | refine x_exit ?_ | refine x_ret ?_ | refine x_label ?_ | refine x_scope ?_ | (refine seq_ret ?_; clear hK K) | (refine seq_exit ?_; clear hK K) | refine block_normal ?_ | refine block_ret ?_ | refine block_exit ?_ | refine loop_exit ?_ | refine loop_ret ?_)
    | ((with_reducible refine x_reg_lit ?hq ?_); case hq => rfl)
    | ((first | (with_reducible first | refine x_op (fun K hK => ?_) | refine end_ret ?_ | refine end_normal ?_) | ((with_reducible refine x_guard_yes ?hy (fun K hK => ?_)); case hy => rfl)); simp only [go_sem, Int.cast_ofNat_Int, Nat.reduceEqDiff, Nat.reduceAdd, Nat.reduceMul, Nat.reduceLeDiff, Nat.reduceLT, Int.reduceLT, Int.reduceLE, Int.reduceEq, Int.reduceNeg, Int.reduceToNat, Nat.reducePow, reduceIte, reduceCtorEq, e1, e2])
    | ((with_reducible first | refine x_guard_no ?hy ?_ | refine x_cond_true ?hy ?_); case hy => rfl)
    | ((with_reducible first | refine x_guard_none ?hy ?_ | refine x_cond_false ?hy ?_); case hy => rfl)
    | ((with_reducible refine block_exit_ne ?hy ?_); case hy => decide))
  refine ArQPtr.new_ok (n := n) (by omega) ?_
  intro H1 p g hA hf hp hg
  obtain ⟨c, rest, b1, b2, hl, hc⟩ := hA.at_
  have hpl := b1.lt
  have hgl := b2.lt
  have hs := hf.size
  repeat' (first
    | (with_reducible first | refine seq_normal ?_ | (refine hK _ _ ?_; clear hK K) | refine x_seq (fun K hK => ?_) | refine x_nil ?_ | refine x_block ?_ | refine x_skip ?_ | refine x_exit ?_ | refine x_ret ?_ | refine x_label ?_ | refine x_scope ?_ | (refine seq_ret ?_; clear hK K) | (refine seq_exit ?_; clear hK K) | refine block_normal ?_ | refine block_ret ?_ | refine block_exit ?_ | refine loop_exit ?_ | refine loop_ret ?_)
    | ((with_reducible refine x_reg_lit ?hq ?_); case hq => rfl)
    | ((first | (with_reducible first | refine x_op (fun K hK => ?_) | refine end_ret ?_ | refine end_normal ?_) | ((with_reducible refine x_guard_yes ?hy (fun K hK => ?_)); case hy => rfl)); simp only [go_sem, Int.cast_ofNat_Int, Nat.reduceEqDiff, Nat.reduceAdd, Nat.reduceMul, Nat.reduceLeDiff, Nat.reduceLT, Int.reduceLT, Int.reduceLE, Int.reduceEq, Int.reduceNeg, Int.reduceToNat, Nat.reducePow, reduceIte, reduceCtorEq, e1, e2])
    | ((with_reducible first | refine x_guard_no ?hy ?_ | refine x_cond_true ?hy ?_); case hy => rfl)
    | ((with_reducible first | refine x_guard_none ?hy ?_ | refine x_cond_false ?hy ?_); case hy => rfl)
    | ((with_reducible refine block_exit_ne ?hy ?_); case hy => decide))
  have hU : ∀ i, ¬ U (Ar.new n) i := fun i hi => by
    unfold U Ar.new Ar.get at hi
    cases i <;> simp at hi
  refine fin _ H1.size (fun b => b = H1.size ∨ b = p ∨ b = g) ⟨p, g, Ar.new n, fun _ => 0, fun _ => ⟨Sp.Item.zero, 0, 0, 0, 0, Agg.zero⟩, ⟨⟨Blk.new H1 _ _, hA.frame ((Fr.refl (fun _ => False) _).push _) (fun h => h) (fun h => h), ?_, ?_, ?_, ?_, by omega, ?_⟩, ?_, ?_, ?_, ?_⟩, rfl, rfl, rfl, ?_, ?_⟩ (hf.push _) ?_ (.inl rfl)
  · intro h v hv; exact absurd (show U (Ar.new n) h by unfold U; rw [hv]; rfl) (hU h)
  · exact fun h hh => absurd hh (hU h)
  · exact fun h _ hh => absurd hh (hU h)
  · exact fun h hh => absurd hh (hU h)
  · exact ⟨fun h hh => absurd hh (hU h), fun h hh => absurd hh (hU h), fun h hh => absurd hh (hU h)⟩
  · intro xs hx; cases hx
  · exact List.nodup_nil
  · intro h; simp [Sq.new, hU h]
  · exact fun h hh => absurd hh (hU h)
  · rintro b (rfl | rfl | rfl | ⟨i, hi, _⟩)
    · exact .inl rfl
    · exact .inr (.inl rfl)
    · exact .inr (.inr rfl)
    · exact absurd hi (hU i)
  · rintro b (rfl | rfl | rfl) <;> simp <;> omega
  · rintro b (rfl | rfl | rfl) <;> omega
section
variable {H H' : Heap} {f : Nat} {T : Nat → Prop} {S : Sq} {K : Value → Heap → Prop}
theorem make_bad {x : Sp.Item} (hM : FoM H f T S) (hx : Fits x) (hx2 : ¬ May x) (fin : ∀ H', Fr (fun _ => False) H H' → K (.tuple #[.int .i64 0, .int .i64 1]) H') :
    CallsH Try.prog 21 #[.pointer (some ⟨f, 0, none⟩), x.val] H K := by
  have hb : mayB x = false := by
    rw [← Bool.not_eq_true, mayB_iff]; exact hx2
  refine call21 (by simp) ?_
  simp only [Try.f21, Option.getD_some]
  repeat' (first
    | (with_reducible first | refine seq_normal ?_ | (refine hK _ _ ?_; clear hK K) | refine x_seq (fun K hK => ?_) | refine x_nil ?_ | refine x_block ?_ | refine x_skip ?_ | refine x_exit ?_ | refine x_ret ?_ | refine x_label ?_ | refine x_scope ?_ | (refine seq_ret ?_; clear hK K) | (refine seq_exit ?_; clear hK K) | refine block_normal ?_ | refine block_ret ?_ | refine block_exit ?_ | refine loop_exit ?_ | refine loop_ret ?_)
    | ((with_reducible refine x_reg_lit ?hq ?_); case hq => rfl)
    | ((first | (with_reducible first | refine x_op (fun K hK => ?_) | refine end_ret ?_ | refine end_normal ?_) | ((with_reducible refine x_guard_yes ?hy (fun K hK => ?_)); case hy => rfl)); simp only [go_sem, Int.cast_ofNat_Int, Nat.reduceEqDiff, Nat.reduceAdd, Nat.reduceMul, Nat.reduceLeDiff, Nat.reduceLT, Int.reduceLT, Int.reduceLE, Int.reduceEq, Int.reduceNeg, Int.reduceToNat, Nat.reducePow, reduceIte, reduceCtorEq, Sp.Item.val, hcell_push, hcell_top, okW_push, okW_top, hcell_hset_ne, hcell_hset_off, hcell_hset_eq, okW_hset, hset_size, Array.size_push, Nat.lt_add_one, ne_add_one, add_one_ne, Nat.add_assoc, add_same, add_lt_same, Nat.reduceEqDiff, lt_add_k, add_k_ne, ne_add_k])
    | ((with_reducible first | refine x_guard_no ?hy ?_ | refine x_cond_true ?hy ?_); case hy => rfl)
    | ((with_reducible first | refine x_guard_none ?hy ?_ | refine x_cond_false ?hy ?_); case hy => rfl)
    | ((with_reducible refine block_exit_ne ?hy ?_); case hy => decide))
  refine may_ok hx ?_
  intro H1 hf1
  rw [hb]
  repeat' (first
    | (with_reducible first | refine seq_normal ?_ | (refine hK _ _ ?_; clear hK K) | refine x_seq (fun K hK => ?_) | refine x_nil ?_ | refine x_block ?_ | refine x_skip ?_ | refine x_exit ?_ | refine x_ret ?_ | refine x_label ?_ | refine x_scope ?_ | (refine seq_ret ?_; clear hK K) | (refine seq_exit ?_; clear hK K) | refine block_normal ?_ | refine block_ret ?_ | refine block_exit ?_ | refine loop_exit ?_ | refine loop_ret ?_)
    | ((with_reducible refine x_reg_lit ?hq ?_); case hq => rfl)
    | ((first | (with_reducible first | refine x_op (fun K hK => ?_) | refine end_ret ?_ | refine end_normal ?_) | ((with_reducible refine x_guard_yes ?hy (fun K hK => ?_)); case hy => rfl)); simp only [go_sem, Int.cast_ofNat_Int, Nat.reduceEqDiff, Nat.reduceAdd, Nat.reduceMul, Nat.reduceLeDiff, Nat.reduceLT, Int.reduceLT, Int.reduceLE, Int.reduceEq, Int.reduceNeg, Int.reduceToNat, Nat.reducePow, reduceIte, reduceCtorEq, Sp.Item.val])
    | ((with_reducible first | refine x_guard_no ?hy ?_ | refine x_cond_true ?hy ?_); case hy => rfl)
    | ((with_reducible first | refine x_guard_none ?hy ?_ | refine x_cond_false ?hy ?_); case hy => rfl)
    | ((with_reducible refine block_exit_ne ?hy ?_); case hy => decide))
  exact fin _ (Fr.trans ((Fr.refl _ _).push _) hf1)
end
end Go.Proofs.Ytndkbhlfbeiniaa

namespace Go.Proofs.Ytndkbhlfbeiniaa
open Go Go.Hp Go.Sp
set_option linter.all false
set_option maxRecDepth 100000
set_option maxHeartbeats 1600000

section
variable {H H' : Heap} {f p g : Nat} {A : Ar} {nb : Nat → Nat} {N : Nodes} {S : Fo} {xs ys : List Nat} {k j : Nat} {R : List (List Nat)}
theorem end_ok {K : Value → Heap → Prop} {it : Nat → Sp.Item} {t : Tr} {up z : Nat} (hF : FAt H f p g A nb N) (ht : TrAt N it up t) (hU : ∀ i ∈ t.list, U A i) (hz : t.list.getLast? = some z)
    (fin : K (.int .i64 (z : Nat)) H) :
    CallsH Try.prog 47 #[.pointer (some ⟨f, 0, none⟩), .int .i64 (t.root : Nat), .int .i64 1] H K := by
  refine call47 (by simp) ?_
  simp only [Try.f47, Option.getD_some]
  repeat' (first
    | (with_reducible first | refine seq_normal ?_ | (refine hK _ _ ?_; clear hK K) | refine x_seq (fun K hK => ?_) | refine x_nil ?_ | refine x_block ?_ | refine x_skip ?_ | refine x_exit ?_ | refine x_ret ?_ | refine x_label ?_ | refine x_scope ?_ | (refine seq_ret ?_; clear hK K) | (refine seq_exit ?_; clear hK K) | refine block_normal ?_ | refine block_ret ?_ | refine block_exit ?_ | refine loop_exit ?_ | refine loop_ret ?_)
    | ((with_reducible refine x_reg_lit ?hq ?_); case hq => rfl)
    | ((first | (with_reducible first | refine x_op (fun K hK => ?_) | refine end_ret ?_ | refine end_normal ?_) | ((with_reducible refine x_guard_yes ?hy (fun K hK => ?_)); case hy => rfl)); simp only [go_sem, Int.cast_ofNat_Int, Nat.reduceEqDiff, Nat.reduceAdd, Nat.reduceMul, Nat.reduceLeDiff, Nat.reduceLT, Int.reduceLT, Int.reduceLE, Int.reduceEq, Int.reduceNeg, Int.reduceToNat, Nat.reducePow, reduceIte, reduceCtorEq])
    | ((with_reducible first | refine x_guard_no ?hy ?_ | refine x_cond_true ?hy ?_); case hy => rfl)
    | ((with_reducible first | refine x_guard_none ?hy ?_ | refine x_cond_false ?hy ?_); case hy => rfl)
    | ((with_reducible refine block_exit_ne ?hy ?_); case hy => decide))
  refine x_loop (fun m e' H' => ∃ (t : Tr) (up : Nat), H' = H ∧ e' 1 = .int .i64 (t.root : Nat) ∧ TrAt N it up t ∧ (∀ i ∈ t.list, U A i) ∧ t.list.getLast? = some z ∧ m = t.list.length) t.list.length ⟨t, up, rfl, rfl, ht, hU, hz, rfl⟩ ?_
  rintro m e1 H1 ⟨t1, up1, rfl, e1', ht1, hU1, hz1, rfl⟩ hoff
  have e0 := (hoff 0 rfl).trans rfl
  have e2 := (hoff 2 rfl).trans rfl
  clear hoff
  cases t1 with
  | nil => cases hz1
  | node l h r =>
    simp only [Tr.root] at e1'
    have hUh := hU1 h (by simp [Tr.list])
    have c5 := (hF.nd h hUh).cellOf (i := 5) rfl
    obtain ⟨a, b, c, d⟩ := ht1
    have er : (N h).r = r.root := by rw [b]; rfl
    rw [er] at c5
    repeat' (first
      | (with_reducible first | refine seq_normal ?_ | (refine hK _ _ ?_; clear hK K) | refine x_seq (fun K hK => ?_) | refine x_nil ?_ | refine x_block ?_ | refine x_skip ?_ | refine x_exit ?_ | refine x_ret ?_ | refine x_label ?_ | refine x_scope ?_ | (refine seq_ret ?_; clear hK K) | (refine seq_exit ?_; clear hK K) | refine block_normal ?_ | refine block_ret ?_ | refine block_exit ?_ | refine loop_exit ?_ | refine loop_ret ?_)
      | ((with_reducible refine x_reg_lit ?hq ?_); case hq => rfl)
      | ((first | (with_reducible first | refine x_op (fun K hK => ?_) | refine end_ret ?_ | refine end_normal ?_) | ((with_reducible refine x_guard_yes ?hy (fun K hK => ?_)); case hy => rfl)); simp only [go_sem, Int.cast_ofNat_Int, Nat.reduceEqDiff, Nat.reduceAdd, Nat.reduceMul, Nat.reduceLeDiff, Nat.reduceLT, Int.reduceLT, Int.reduceLE, Int.reduceEq, Int.reduceNeg, Int.reduceToNat, Nat.reducePow, reduceIte, reduceCtorEq, e0, e1', e2])
      | ((with_reducible first | refine x_guard_no ?hy ?_ | refine x_cond_true ?hy ?_); case hy => rfl)
      | ((with_reducible first | refine x_guard_none ?hy ?_ | refine x_cond_false ?hy ?_); case hy => rfl)
      | ((with_reducible refine block_exit_ne ?hy ?_); case hy => decide))
    refine node_ok hF hUh ?_
    by_cases h0 : r.root = 0
    · have t1 : ((r.root : Int) != 0) = false := by simp [h0]
      obtain rfl := nil_of_root d h0
      have ez : h = z := by simpa [Tr.list] using hz1
      subst ez
      repeat' (first
        | (with_reducible first | refine seq_normal ?_ | (refine hK _ _ ?_; clear hK K) | refine x_seq (fun K hK => ?_) | refine x_nil ?_ | refine x_block ?_ | refine x_skip ?_ | refine x_exit ?_ | refine x_ret ?_ | refine x_label ?_ | refine x_scope ?_ | (refine seq_ret ?_; clear hK K) | (refine seq_exit ?_; clear hK K) | refine block_normal ?_ | refine block_ret ?_ | refine block_exit ?_ | refine loop_exit ?_ | refine loop_ret ?_)
        | ((with_reducible refine x_reg_lit ?hq ?_); case hq => rfl)
        | ((first | (with_reducible first | refine x_op (fun K hK => ?_) | refine end_ret ?_ | refine end_normal ?_) | ((with_reducible refine x_guard_yes ?hy (fun K hK => ?_)); case hy => rfl)); simp only [go_sem, Int.cast_ofNat_Int, Nat.reduceEqDiff, Nat.reduceAdd, Nat.reduceMul, Nat.reduceLeDiff, Nat.reduceLT, Int.reduceLT, Int.reduceLE, Int.reduceEq, Int.reduceNeg, Int.reduceToNat, Nat.reducePow, reduceIte, reduceCtorEq, e0, e1', e2, c5, t1])
        | ((with_reducible first | refine x_guard_no ?hy ?_ | refine x_cond_true ?hy ?_); case hy => rfl)
        | ((with_reducible first | refine x_guard_none ?hy ?_ | refine x_cond_false ?hy ?_); case hy => rfl)
        | ((with_reducible refine block_exit_ne ?hy ?_); case hy => decide))
      exact fin
    · have t1 : ((r.root : Int) != 0) = true := by simp [h0]
      repeat' (first
        | (with_reducible first | refine seq_normal ?_ | (refine hK _ _ ?_; clear hK K) | refine x_seq (fun K hK => ?_) | refine x_nil ?_ | refine x_block ?_ | refine x_skip ?_ | refine x_exit ?_ | refine x_ret ?_ | refine x_label ?_ | refine x_scope ?_ | (refine seq_ret ?_; clear hK K) | (refine seq_exit ?_; clear hK K) | refine block_normal ?_ | refine block_ret ?_ | refine block_exit ?_ | refine loop_exit ?_ | refine loop_ret ?_)
        | ((with_reducible refine x_reg_lit ?hq ?_); case hq => rfl)
        | ((first | (with_reducible first | refine x_op (fun K hK => ?_) | refine end_ret ?_ | refine end_normal ?_) | ((with_reducible refine x_guard_yes ?hy (fun K hK => ?_)); case hy => rfl)); simp only [go_sem, Int.cast_ofNat_Int, Nat.reduceEqDiff, Nat.reduceAdd, Nat.reduceMul, Nat.reduceLeDiff, Nat.reduceLT, Int.reduceLT, Int.reduceLE, Int.reduceEq, Int.reduceNeg, Int.reduceToNat, Nat.reducePow, reduceIte, reduceCtorEq, e0, e1', e2, c5, t1])
        | ((with_reducible first | refine x_guard_no ?hy ?_ | refine x_cond_true ?hy ?_); case hy => rfl)
        | ((with_reducible first | refine x_guard_none ?hy ?_ | refine x_cond_false ?hy ?_); case hy => rfl)
        | ((with_reducible refine block_exit_ne ?hy ?_); case hy => decide))
      refine node_ok hF hUh ?_
      repeat' (first
        | (with_reducible first | refine seq_normal ?_ | (refine hK _ _ ?_; clear hK K) | refine x_seq (fun K hK => ?_) | refine x_nil ?_ | refine x_block ?_ | refine x_skip ?_ | refine x_exit ?_ | refine x_ret ?_ | refine x_label ?_ | refine x_scope ?_ | (refine seq_ret ?_; clear hK K) | (refine seq_exit ?_; clear hK K) | refine block_normal ?_ | refine block_ret ?_ | refine block_exit ?_ | refine loop_exit ?_ | refine loop_ret ?_)
        | ((with_reducible refine x_reg_lit ?hq ?_); case hq => rfl)
        | ((first | (with_reducible first | refine x_op (fun K hK => ?_) | refine end_ret ?_ | refine end_normal ?_) | ((with_reducible refine x_guard_yes ?hy (fun K hK => ?_)); case hy => rfl)); simp only [go_sem, Int.cast_ofNat_Int, Nat.reduceEqDiff, Nat.reduceAdd, Nat.reduceMul, Nat.reduceLeDiff, Nat.reduceLT, Int.reduceLT, Int.reduceLE, Int.reduceEq, Int.reduceNeg, Int.reduceToNat, Nat.reducePow, reduceIte, reduceCtorEq, e0, e1', e2, c5])
        | ((with_reducible first | refine x_guard_no ?hy ?_ | refine x_cond_true ?hy ?_); case hy => rfl)
        | ((with_reducible first | refine x_guard_none ?hy ?_ | refine x_cond_false ?hy ?_); case hy => rfl)
        | ((with_reducible refine block_exit_ne ?hy ?_); case hy => decide))
      have hrl := list_ne_nil h0
      refine loop_normal (m' := r.list.length) (by simp [Tr.list]; omega) ⟨r, h, rfl, rfl, d, fun i hi => hU1 i (by simp [Tr.list, hi]), ?_, rfl⟩
      rw [← hz1]
      simp only [Tr.list, List.getLast?_append, List.getLast?_cons]
      cases hr : r.list.getLast? with
      | none => rw [List.getLast?_eq_none_iff] at hr; exact absurd hr hrl
      | some w => simp
theorem FAt.hang (hF : FAt H f p g A nb N) {k x : Nat} (hk : U A k) (hx : U A x) : U A k := hk
theorem join_none {K : Value → Heap → Prop} {a b : Int} (hF : FoAt H f p g A nb N S) (hi : (¬ ∃ k : Nat, a = (k : Int) ∧ k ∈ S.rows.flatten) ∨ (¬ ∃ k : Nat, b = (k : Int) ∧ k ∈ S.rows.flatten)) (fin : K (.int .i64 31) H) :
    CallsH Try.prog 24 #[.pointer (some ⟨f, 0, none⟩), .int .i64 a, .int .i64 b] H K := by
  refine call24 (by simp) ?_
  simp only [Try.f24, Option.getD_some]
  repeat' (first
    | (with_reducible first | refine seq_normal ?_ | (refine hK _ _ ?_; clear hK K) | refine x_seq (fun K hK => ?_) | refine x_nil ?_ | refine x_block ?_ | refine x_skip ?_ | refine x_exit ?_ | refine x_ret ?_ | refine x_label ?_ | refine x_scope ?_ | (refine seq_ret ?_; clear hK K) | (refine seq_exit ?_; clear hK K) | refine block_normal ?_ | refine block_ret ?_ | refine block_exit ?_ | refine loop_exit ?_ | refine loop_ret ?_)
    | ((with_reducible refine x_reg_lit ?hq ?_); case hq => rfl)
    | ((first | (with_reducible first | refine x_op (fun K hK => ?_) | refine end_ret ?_ | refine end_normal ?_) | ((with_reducible refine x_guard_yes ?hy (fun K hK => ?_)); case hy => rfl)); simp only [go_sem, Int.cast_ofNat_Int, Nat.reduceEqDiff, Nat.reduceAdd, Nat.reduceMul, Nat.reduceLeDiff, Nat.reduceLT, Int.reduceLT, Int.reduceLE, Int.reduceEq, Int.reduceNeg, Int.reduceToNat, Nat.reducePow, reduceIte, reduceCtorEq])
    | ((with_reducible first | refine x_guard_no ?hy ?_ | refine x_cond_true ?hy ?_); case hy => rfl)
    | ((with_reducible first | refine x_guard_none ?hy ?_ | refine x_cond_false ?hy ?_); case hy => rfl)
    | ((with_reducible refine block_exit_ne ?hy ?_); case hy => decide))
  by_cases ha : ∃ k : Nat, a = (k : Int) ∧ k ∈ S.rows.flatten
  · obtain ⟨k, rfl, hk⟩ := ha
    have hi := hi.resolve_left (fun h => h ⟨k, rfl, hk⟩)
    refine node_ok hF.mem ((hF.use k).1 hk) ?_
    repeat' (first
      | (with_reducible first | refine seq_normal ?_ | (refine hK _ _ ?_; clear hK K) | refine x_seq (fun K hK => ?_) | refine x_nil ?_ | refine x_block ?_ | refine x_skip ?_ | refine x_exit ?_ | refine x_ret ?_ | refine x_label ?_ | refine x_scope ?_ | (refine seq_ret ?_; clear hK K) | (refine seq_exit ?_; clear hK K) | refine block_normal ?_ | refine block_ret ?_ | refine block_exit ?_ | refine loop_exit ?_ | refine loop_ret ?_)
      | ((with_reducible refine x_reg_lit ?hq ?_); case hq => rfl)
      | ((first | (with_reducible first | refine x_op (fun K hK => ?_) | refine end_ret ?_ | refine end_normal ?_) | ((with_reducible refine x_guard_yes ?hy (fun K hK => ?_)); case hy => rfl)); simp only [go_sem, Int.cast_ofNat_Int, Nat.reduceEqDiff, Nat.reduceAdd, Nat.reduceMul, Nat.reduceLeDiff, Nat.reduceLT, Int.reduceLT, Int.reduceLE, Int.reduceEq, Int.reduceNeg, Int.reduceToNat, Nat.reducePow, reduceIte, reduceCtorEq])
      | ((with_reducible first | refine x_guard_no ?hy ?_ | refine x_cond_true ?hy ?_); case hy => rfl)
      | ((with_reducible first | refine x_guard_none ?hy ?_ | refine x_cond_false ?hy ?_); case hy => rfl)
      | ((with_reducible refine block_exit_ne ?hy ?_); case hy => decide))
    refine node_no hF.mem (hF.none hi) ?_
    repeat' (first
      | (with_reducible first | refine seq_normal ?_ | (refine hK _ _ ?_; clear hK K) | refine x_seq (fun K hK => ?_) | refine x_nil ?_ | refine x_block ?_ | refine x_skip ?_ | refine x_exit ?_ | refine x_ret ?_ | refine x_label ?_ | refine x_scope ?_ | (refine seq_ret ?_; clear hK K) | (refine seq_exit ?_; clear hK K) | refine block_normal ?_ | refine block_ret ?_ | refine block_exit ?_ | refine loop_exit ?_ | refine loop_ret ?_)
      | ((with_reducible refine x_reg_lit ?hq ?_); case hq => rfl)
      | ((first | (with_reducible first | refine x_op (fun K hK => ?_) | refine end_ret ?_ | refine end_normal ?_) | ((with_reducible refine x_guard_yes ?hy (fun K hK => ?_)); case hy => rfl)); simp only [go_sem, Int.cast_ofNat_Int, Nat.reduceEqDiff, Nat.reduceAdd, Nat.reduceMul, Nat.reduceLeDiff, Nat.reduceLT, Int.reduceLT, Int.reduceLE, Int.reduceEq, Int.reduceNeg, Int.reduceToNat, Nat.reducePow, reduceIte, reduceCtorEq])
      | ((with_reducible first | refine x_guard_no ?hy ?_ | refine x_cond_true ?hy ?_); case hy => rfl)
      | ((with_reducible first | refine x_guard_none ?hy ?_ | refine x_cond_false ?hy ?_); case hy => rfl)
      | ((with_reducible refine block_exit_ne ?hy ?_); case hy => decide))
    exact fin
  · refine node_no hF.mem (hF.none ha) ?_
    repeat' (first
      | (with_reducible first | refine seq_normal ?_ | (refine hK _ _ ?_; clear hK K) | refine x_seq (fun K hK => ?_) | refine x_nil ?_ | refine x_block ?_ | refine x_skip ?_ | refine x_exit ?_ | refine x_ret ?_ | refine x_label ?_ | refine x_scope ?_ | (refine seq_ret ?_; clear hK K) | (refine seq_exit ?_; clear hK K) | refine block_normal ?_ | refine block_ret ?_ | refine block_exit ?_ | refine loop_exit ?_ | refine loop_ret ?_)
      | ((with_reducible refine x_reg_lit ?hq ?_); case hq => rfl)
      | ((first | (with_reducible first | refine x_op (fun K hK => ?_) | refine end_ret ?_ | refine end_normal ?_) | ((with_reducible refine x_guard_yes ?hy (fun K hK => ?_)); case hy => rfl)); simp only [go_sem, Int.cast_ofNat_Int, Nat.reduceEqDiff, Nat.reduceAdd, Nat.reduceMul, Nat.reduceLeDiff, Nat.reduceLT, Int.reduceLT, Int.reduceLE, Int.reduceEq, Int.reduceNeg, Int.reduceToNat, Nat.reducePow, reduceIte, reduceCtorEq])
      | ((with_reducible first | refine x_guard_no ?hy ?_ | refine x_cond_true ?hy ?_); case hy => rfl)
      | ((with_reducible first | refine x_guard_none ?hy ?_ | refine x_cond_false ?hy ?_); case hy => rfl)
      | ((with_reducible refine block_exit_ne ?hy ?_); case hy => decide))
    exact fin
theorem join_same {K : Value → Heap → Prop} (hF : FoAt H f p g A nb N S) (hx : xs ∈ S.rows) (hk : k ∈ xs) (hj : j ∈ xs) (fin : ∀ H' N', FoAt H' f p g A nb N' S → Fr (NB A nb) H H' → K (.int .i64 33) H') :
    CallsH Try.prog 24 #[.pointer (some ⟨f, 0, none⟩), .int .i64 k, .int .i64 j] H K := by
  refine call24 (by simp) ?_
  simp only [Try.f24, Option.getD_some]
  repeat' (first
    | (with_reducible first | refine seq_normal ?_ | (refine hK _ _ ?_; clear hK K) | refine x_seq (fun K hK => ?_) | refine x_nil ?_ | refine x_block ?_ | refine x_skip ?_ | refine x_exit ?_ | refine x_ret ?_ | refine x_label ?_ | refine x_scope ?_ | (refine seq_ret ?_; clear hK K) | (refine seq_exit ?_; clear hK K) | refine block_normal ?_ | refine block_ret ?_ | refine block_exit ?_ | refine loop_exit ?_ | refine loop_ret ?_)
    | ((with_reducible refine x_reg_lit ?hq ?_); case hq => rfl)
    | ((first | (with_reducible first | refine x_op (fun K hK => ?_) | refine end_ret ?_ | refine end_normal ?_) | ((with_reducible refine x_guard_yes ?hy (fun K hK => ?_)); case hy => rfl)); simp only [go_sem, Int.cast_ofNat_Int, Nat.reduceEqDiff, Nat.reduceAdd, Nat.reduceMul, Nat.reduceLeDiff, Nat.reduceLT, Int.reduceLT, Int.reduceLE, Int.reduceEq, Int.reduceNeg, Int.reduceToNat, Nat.reducePow, reduceIte, reduceCtorEq])
    | ((with_reducible first | refine x_guard_no ?hy ?_ | refine x_cond_true ?hy ?_); case hy => rfl)
    | ((with_reducible first | refine x_guard_none ?hy ?_ | refine x_cond_false ?hy ?_); case hy => rfl)
    | ((with_reducible refine block_exit_ne ?hy ?_); case hy => decide))
  refine node_ok hF.mem (hF.u hx hk) ?_
  repeat' (first
    | (with_reducible first | refine seq_normal ?_ | (refine hK _ _ ?_; clear hK K) | refine x_seq (fun K hK => ?_) | refine x_nil ?_ | refine x_block ?_ | refine x_skip ?_ | refine x_exit ?_ | refine x_ret ?_ | refine x_label ?_ | refine x_scope ?_ | (refine seq_ret ?_; clear hK K) | (refine seq_exit ?_; clear hK K) | refine block_normal ?_ | refine block_ret ?_ | refine block_exit ?_ | refine loop_exit ?_ | refine loop_ret ?_)
    | ((with_reducible refine x_reg_lit ?hq ?_); case hq => rfl)
    | ((first | (with_reducible first | refine x_op (fun K hK => ?_) | refine end_ret ?_ | refine end_normal ?_) | ((with_reducible refine x_guard_yes ?hy (fun K hK => ?_)); case hy => rfl)); simp only [go_sem, Int.cast_ofNat_Int, Nat.reduceEqDiff, Nat.reduceAdd, Nat.reduceMul, Nat.reduceLeDiff, Nat.reduceLT, Int.reduceLT, Int.reduceLE, Int.reduceEq, Int.reduceNeg, Int.reduceToNat, Nat.reducePow, reduceIte, reduceCtorEq])
    | ((with_reducible first | refine x_guard_no ?hy ?_ | refine x_cond_true ?hy ?_); case hy => rfl)
    | ((with_reducible first | refine x_guard_none ?hy ?_ | refine x_cond_false ?hy ?_); case hy => rfl)
    | ((with_reducible refine block_exit_ne ?hy ?_); case hy => decide))
  refine node_ok hF.mem (hF.u hx hj) ?_
  repeat' (first
    | (with_reducible first | refine seq_normal ?_ | (refine hK _ _ ?_; clear hK K) | refine x_seq (fun K hK => ?_) | refine x_nil ?_ | refine x_block ?_ | refine x_skip ?_ | refine x_exit ?_ | refine x_ret ?_ | refine x_label ?_ | refine x_scope ?_ | (refine seq_ret ?_; clear hK K) | (refine seq_exit ?_; clear hK K) | refine block_normal ?_ | refine block_ret ?_ | refine block_exit ?_ | refine loop_exit ?_ | refine loop_ret ?_)
    | ((with_reducible refine x_reg_lit ?hq ?_); case hq => rfl)
    | ((first | (with_reducible first | refine x_op (fun K hK => ?_) | refine end_ret ?_ | refine end_normal ?_) | ((with_reducible refine x_guard_yes ?hy (fun K hK => ?_)); case hy => rfl)); simp only [go_sem, Int.cast_ofNat_Int, Nat.reduceEqDiff, Nat.reduceAdd, Nat.reduceMul, Nat.reduceLeDiff, Nat.reduceLT, Int.reduceLT, Int.reduceLE, Int.reduceEq, Int.reduceNeg, Int.reduceToNat, Nat.reducePow, reduceIte, reduceCtorEq])
    | ((with_reducible first | refine x_guard_no ?hy ?_ | refine x_cond_true ?hy ?_); case hy => rfl)
    | ((with_reducible first | refine x_guard_none ?hy ?_ | refine x_cond_false ?hy ?_); case hy => rfl)
    | ((with_reducible refine block_exit_ne ?hy ?_); case hy => decide))
  refine same_ok hF hx hk hx hj ?_
  intro H1 N1 b hF1 hf1 hb
  have hb1 : b = true := hb.2 rfl
  subst hb1
  repeat' (first
    | (with_reducible first | refine seq_normal ?_ | (refine hK _ _ ?_; clear hK K) | refine x_seq (fun K hK => ?_) | refine x_nil ?_ | refine x_block ?_ | refine x_skip ?_ | refine x_exit ?_ | refine x_ret ?_ | refine x_label ?_ | refine x_scope ?_ | (refine seq_ret ?_; clear hK K) | (refine seq_exit ?_; clear hK K) | refine block_normal ?_ | refine block_ret ?_ | refine block_exit ?_ | refine loop_exit ?_ | refine loop_ret ?_)
    | ((with_reducible refine x_reg_lit ?hq ?_); case hq => rfl)
    | ((first | (with_reducible first | refine x_op (fun K hK => ?_) | refine end_ret ?_ | refine end_normal ?_) | ((with_reducible refine x_guard_yes ?hy (fun K hK => ?_)); case hy => rfl)); simp only [go_sem, Int.cast_ofNat_Int, Nat.reduceEqDiff, Nat.reduceAdd, Nat.reduceMul, Nat.reduceLeDiff, Nat.reduceLT, Int.reduceLT, Int.reduceLE, Int.reduceEq, Int.reduceNeg, Int.reduceToNat, Nat.reducePow, reduceIte, reduceCtorEq])
    | ((with_reducible first | refine x_guard_no ?hy ?_ | refine x_cond_true ?hy ?_); case hy => rfl)
    | ((with_reducible first | refine x_guard_none ?hy ?_ | refine x_cond_false ?hy ?_); case hy => rfl)
    | ((with_reducible refine block_exit_ne ?hy ?_); case hy => decide))
  exact fin _ _ hF1 hf1
theorem join_ok {K : Value → Heap → Prop} (hF : FoAt H f p g A nb N S) (hr : S.rows.Perm (xs :: ys :: R)) (hk : k ∈ xs) (hj : j ∈ ys)
    (fin : ∀ H' N', FoAt H' f p g A nb N' ⟨S.it, (xs ++ ys) :: R⟩ → Fr (NB A nb) H H' → K (.int .i64 0) H') :
    CallsH Try.prog 24 #[.pointer (some ⟨f, 0, none⟩), .int .i64 k, .int .i64 j] H K := by
  have hx : xs ∈ S.rows := hr.mem_iff.2 (.head _)
  have hy : ys ∈ S.rows := hr.mem_iff.2 (.tail _ (.head _))
  have hn2 : (xs :: ys :: R).flatten.Nodup := (hr.flatten.nodup_iff).1 hF.nodup
  have hn3 : (xs ++ ys).Nodup ∧ R.flatten.Nodup ∧ ∀ a ∈ xs ++ ys, ∀ b ∈ R.flatten, a ≠ b := by
    rw [List.flatten_cons, List.flatten_cons, ← List.append_assoc, List.nodup_append] at hn2
    exact hn2
  have hxy : ∀ i ∈ xs, i ∉ ys := fun i h1 h2 => (List.nodup_append.1 hn3.1).2.2 i h1 i h2 rfl
  have hne : ys ≠ xs := fun e => hxy k hk (e ▸ hk)
  have hUx : ∀ i ∈ xs, U A i := fun i hi => hF.u hx hi
  have hUy : ∀ i ∈ ys, U A i := fun i hi => hF.u hy hi
  have hlen : (xs ++ ys).length ≤ 4096 := by
    have h1 := hF.len
    rw [hr.flatten.length_eq] at h1
    simp at h1 ⊢
    omega
  refine call24 (by simp) ?_
  simp only [Try.f24, Option.getD_some]
  repeat' (first
    | (with_reducible first | refine seq_normal ?_ | (refine hK _ _ ?_; clear hK K) | refine x_seq (fun K hK => ?_) | refine x_nil ?_ | refine x_block ?_ | refine x_skip ?_ | refine x_exit ?_ | refine x_ret ?_ | refine x_label ?_ | refine x_scope ?_ | (refine seq_ret ?_; clear hK K) | (refine seq_exit ?_; clear hK K) | refine block_normal ?_ | refine block_ret ?_ | refine block_exit ?_ | refine loop_exit ?_ | refine loop_ret ?_)
    | ((with_reducible refine x_reg_lit ?hq ?_); case hq => rfl)
    | ((first | (with_reducible first | refine x_op (fun K hK => ?_) | refine end_ret ?_ | refine end_normal ?_) | ((with_reducible refine x_guard_yes ?hy (fun K hK => ?_)); case hy => rfl)); simp only [go_sem, Int.cast_ofNat_Int, Nat.reduceEqDiff, Nat.reduceAdd, Nat.reduceMul, Nat.reduceLeDiff, Nat.reduceLT, Int.reduceLT, Int.reduceLE, Int.reduceEq, Int.reduceNeg, Int.reduceToNat, Nat.reducePow, reduceIte, reduceCtorEq])
    | ((with_reducible first | refine x_guard_no ?hy ?_ | refine x_cond_true ?hy ?_); case hy => rfl)
    | ((with_reducible first | refine x_guard_none ?hy ?_ | refine x_cond_false ?hy ?_); case hy => rfl)
    | ((with_reducible refine block_exit_ne ?hy ?_); case hy => decide))
  refine node_ok hF.mem (hUx k hk) ?_
  repeat' (first
    | (with_reducible first | refine seq_normal ?_ | (refine hK _ _ ?_; clear hK K) | refine x_seq (fun K hK => ?_) | refine x_nil ?_ | refine x_block ?_ | refine x_skip ?_ | refine x_exit ?_ | refine x_ret ?_ | refine x_label ?_ | refine x_scope ?_ | (refine seq_ret ?_; clear hK K) | (refine seq_exit ?_; clear hK K) | refine block_normal ?_ | refine block_ret ?_ | refine block_exit ?_ | refine loop_exit ?_ | refine loop_ret ?_)
    | ((with_reducible refine x_reg_lit ?hq ?_); case hq => rfl)
    | ((first | (with_reducible first | refine x_op (fun K hK => ?_) | refine end_ret ?_ | refine end_normal ?_) | ((with_reducible refine x_guard_yes ?hy (fun K hK => ?_)); case hy => rfl)); simp only [go_sem, Int.cast_ofNat_Int, Nat.reduceEqDiff, Nat.reduceAdd, Nat.reduceMul, Nat.reduceLeDiff, Nat.reduceLT, Int.reduceLT, Int.reduceLE, Int.reduceEq, Int.reduceNeg, Int.reduceToNat, Nat.reducePow, reduceIte, reduceCtorEq])
    | ((with_reducible first | refine x_guard_no ?hy ?_ | refine x_cond_true ?hy ?_); case hy => rfl)
    | ((with_reducible first | refine x_guard_none ?hy ?_ | refine x_cond_false ?hy ?_); case hy => rfl)
    | ((with_reducible refine block_exit_ne ?hy ?_); case hy => decide))
  refine node_ok hF.mem (hUy j hj) ?_
  repeat' (first
    | (with_reducible first | refine seq_normal ?_ | (refine hK _ _ ?_; clear hK K) | refine x_seq (fun K hK => ?_) | refine x_nil ?_ | refine x_block ?_ | refine x_skip ?_ | refine x_exit ?_ | refine x_ret ?_ | refine x_label ?_ | refine x_scope ?_ | (refine seq_ret ?_; clear hK K) | (refine seq_exit ?_; clear hK K) | refine block_normal ?_ | refine block_ret ?_ | refine block_exit ?_ | refine loop_exit ?_ | refine loop_ret ?_)
    | ((with_reducible refine x_reg_lit ?hq ?_); case hq => rfl)
    | ((first | (with_reducible first | refine x_op (fun K hK => ?_) | refine end_ret ?_ | refine end_normal ?_) | ((with_reducible refine x_guard_yes ?hy (fun K hK => ?_)); case hy => rfl)); simp only [go_sem, Int.cast_ofNat_Int, Nat.reduceEqDiff, Nat.reduceAdd, Nat.reduceMul, Nat.reduceLeDiff, Nat.reduceLT, Int.reduceLT, Int.reduceLE, Int.reduceEq, Int.reduceNeg, Int.reduceToNat, Nat.reducePow, reduceIte, reduceCtorEq])
    | ((with_reducible first | refine x_guard_no ?hy ?_ | refine x_cond_true ?hy ?_); case hy => rfl)
    | ((with_reducible first | refine x_guard_none ?hy ?_ | refine x_cond_false ?hy ?_); case hy => rfl)
    | ((with_reducible refine block_exit_ne ?hy ?_); case hy => decide))
  refine same_ok hF hx hk hy hj ?_
  intro H1 N1 b hF1 hf1 hb
  have hb1 : b = false := by
    cases b with
    | false => rfl
    | true => exact absurd (hb.1 rfl) hne
  subst hb1
  repeat' (first
    | (with_reducible first | refine seq_normal ?_ | (refine hK _ _ ?_; clear hK K) | refine x_seq (fun K hK => ?_) | refine x_nil ?_ | refine x_block ?_ | refine x_skip ?_ | refine x_exit ?_ | refine x_ret ?_ | refine x_label ?_ | refine x_scope ?_ | (refine seq_ret ?_; clear hK K) | (refine seq_exit ?_; clear hK K) | refine block_normal ?_ | refine block_ret ?_ | refine block_exit ?_ | refine loop_exit ?_ | refine loop_ret ?_)
    | ((with_reducible refine x_reg_lit ?hq ?_); case hq => rfl)
    | ((first | (with_reducible first | refine x_op (fun K hK => ?_) | refine end_ret ?_ | refine end_normal ?_) | ((with_reducible refine x_guard_yes ?hy (fun K hK => ?_)); case hy => rfl)); simp only [go_sem, Int.cast_ofNat_Int, Nat.reduceEqDiff, Nat.reduceAdd, Nat.reduceMul, Nat.reduceLeDiff, Nat.reduceLT, Int.reduceLT, Int.reduceLE, Int.reduceEq, Int.reduceNeg, Int.reduceToNat, Nat.reducePow, reduceIte, reduceCtorEq])
    | ((with_reducible first | refine x_guard_no ?hy ?_ | refine x_cond_true ?hy ?_); case hy => rfl)
    | ((with_reducible first | refine x_guard_none ?hy ?_ | refine x_cond_false ?hy ?_); case hy => rfl)
    | ((with_reducible refine block_exit_ne ?hy ?_); case hy => decide))
  refine splay_row hF1 hx hk (hF1.apart hx) ?_
  intro H2 N2 a2 b2 hF2 ht2 e2 hf2 hoff2
  repeat' (first
    | (with_reducible first | refine seq_normal ?_ | (refine hK _ _ ?_; clear hK K) | refine x_seq (fun K hK => ?_) | refine x_nil ?_ | refine x_block ?_ | refine x_skip ?_ | refine x_exit ?_ | refine x_ret ?_ | refine x_label ?_ | refine x_scope ?_ | (refine seq_ret ?_; clear hK K) | (refine seq_exit ?_; clear hK K) | refine block_normal ?_ | refine block_ret ?_ | refine block_exit ?_ | refine loop_exit ?_ | refine loop_ret ?_)
    | ((with_reducible refine x_reg_lit ?hq ?_); case hq => rfl)
    | ((first | (with_reducible first | refine x_op (fun K hK => ?_) | refine end_ret ?_ | refine end_normal ?_) | ((with_reducible refine x_guard_yes ?hy (fun K hK => ?_)); case hy => rfl)); simp only [go_sem, Int.cast_ofNat_Int, Nat.reduceEqDiff, Nat.reduceAdd, Nat.reduceMul, Nat.reduceLeDiff, Nat.reduceLT, Int.reduceLT, Int.reduceLE, Int.reduceEq, Int.reduceNeg, Int.reduceToNat, Nat.reducePow, reduceIte, reduceCtorEq])
    | ((with_reducible first | refine x_guard_no ?hy ?_ | refine x_cond_true ?hy ?_); case hy => rfl)
    | ((with_reducible first | refine x_guard_none ?hy ?_ | refine x_cond_false ?hy ?_); case hy => rfl)
    | ((with_reducible refine block_exit_ne ?hy ?_); case hy => decide))
  obtain ⟨z, hz⟩ : ∃ z, xs.getLast? = some z := by
    cases hl : xs.getLast? with
    | none => rw [List.getLast?_eq_none_iff] at hl; subst hl; cases hk
    | some z => exact ⟨z, rfl⟩
  have hzx : z ∈ xs := List.mem_of_getLast? hz
  refine end_ok (t := .node a2 k b2) (z := z) hF2.mem ht2 (fun i hi => hUx i (by rw [← e2]; exact hi)) (by rw [← hz, ← e2]; rfl) ?_
  repeat' (first
    | (with_reducible first | refine seq_normal ?_ | (refine hK _ _ ?_; clear hK K) | refine x_seq (fun K hK => ?_) | refine x_nil ?_ | refine x_block ?_ | refine x_skip ?_ | refine x_exit ?_ | refine x_ret ?_ | refine x_label ?_ | refine x_scope ?_ | (refine seq_ret ?_; clear hK K) | (refine seq_exit ?_; clear hK K) | refine block_normal ?_ | refine block_ret ?_ | refine block_exit ?_ | refine loop_exit ?_ | refine loop_ret ?_)
    | ((with_reducible refine x_reg_lit ?hq ?_); case hq => rfl)
    | ((first | (with_reducible first | refine x_op (fun K hK => ?_) | refine end_ret ?_ | refine end_normal ?_) | ((with_reducible refine x_guard_yes ?hy (fun K hK => ?_)); case hy => rfl)); simp only [go_sem, Int.cast_ofNat_Int, Nat.reduceEqDiff, Nat.reduceAdd, Nat.reduceMul, Nat.reduceLeDiff, Nat.reduceLT, Int.reduceLT, Int.reduceLE, Int.reduceEq, Int.reduceNeg, Int.reduceToNat, Nat.reducePow, reduceIte, reduceCtorEq])
    | ((with_reducible first | refine x_guard_no ?hy ?_ | refine x_cond_true ?hy ?_); case hy => rfl)
    | ((with_reducible first | refine x_guard_none ?hy ?_ | refine x_cond_false ?hy ?_); case hy => rfl)
    | ((with_reducible refine block_exit_ne ?hy ?_); case hy => decide))
  refine splay_row hF2 hx hzx (hF2.apart hx) ?_
  intro H3 N3 a3 b3 hF3 ht3 e3 hf3 hoff3
  have hb3 : b3 = .nil := by
    have hnd : (a3.list ++ z :: b3.list).Nodup := by rw [e3]; exact (List.nodup_append.1 hn3.1).1
    obtain ⟨w, hw⟩ : ∃ w, xs = w ++ [z] := by
      have := List.getLast?_eq_some_iff.1 hz
      exact this
    obtain ⟨_, h0⟩ := split_unique hnd (e3.trans hw)
    cases b3 with
    | nil => rfl
    | node x y z' => simp [Tr.list] at h0
  subst hb3
  repeat' (first
    | (with_reducible first | refine seq_normal ?_ | (refine hK _ _ ?_; clear hK K) | refine x_seq (fun K hK => ?_) | refine x_nil ?_ | refine x_block ?_ | refine x_skip ?_ | refine x_exit ?_ | refine x_ret ?_ | refine x_label ?_ | refine x_scope ?_ | (refine seq_ret ?_; clear hK K) | (refine seq_exit ?_; clear hK K) | refine block_normal ?_ | refine block_ret ?_ | refine block_exit ?_ | refine loop_exit ?_ | refine loop_ret ?_)
    | ((with_reducible refine x_reg_lit ?hq ?_); case hq => rfl)
    | ((first | (with_reducible first | refine x_op (fun K hK => ?_) | refine end_ret ?_ | refine end_normal ?_) | ((with_reducible refine x_guard_yes ?hy (fun K hK => ?_)); case hy => rfl)); simp only [go_sem, Int.cast_ofNat_Int, Nat.reduceEqDiff, Nat.reduceAdd, Nat.reduceMul, Nat.reduceLeDiff, Nat.reduceLT, Int.reduceLT, Int.reduceLE, Int.reduceEq, Int.reduceNeg, Int.reduceToNat, Nat.reducePow, reduceIte, reduceCtorEq])
    | ((with_reducible first | refine x_guard_no ?hy ?_ | refine x_cond_true ?hy ?_); case hy => rfl)
    | ((with_reducible first | refine x_guard_none ?hy ?_ | refine x_cond_false ?hy ?_); case hy => rfl)
    | ((with_reducible refine block_exit_ne ?hy ?_); case hy => decide))
  refine splay_row hF3 hy hj (hF3.apart hy) ?_
  intro H4 N4 a4 b4 hF4 ht4 e4 hf4 hoff4
  repeat' (first
    | (with_reducible first | refine seq_normal ?_ | (refine hK _ _ ?_; clear hK K) | refine x_seq (fun K hK => ?_) | refine x_nil ?_ | refine x_block ?_ | refine x_skip ?_ | refine x_exit ?_ | refine x_ret ?_ | refine x_label ?_ | refine x_scope ?_ | (refine seq_ret ?_; clear hK K) | (refine seq_exit ?_; clear hK K) | refine block_normal ?_ | refine block_ret ?_ | refine block_exit ?_ | refine loop_exit ?_ | refine loop_ret ?_)
    | ((with_reducible refine x_reg_lit ?hq ?_); case hq => rfl)
    | ((first | (with_reducible first | refine x_op (fun K hK => ?_) | refine end_ret ?_ | refine end_normal ?_) | ((with_reducible refine x_guard_yes ?hy (fun K hK => ?_)); case hy => rfl)); simp only [go_sem, Int.cast_ofNat_Int, Nat.reduceEqDiff, Nat.reduceAdd, Nat.reduceMul, Nat.reduceLeDiff, Nat.reduceLT, Int.reduceLT, Int.reduceLE, Int.reduceEq, Int.reduceNeg, Int.reduceToNat, Nat.reducePow, reduceIte, reduceCtorEq])
    | ((with_reducible first | refine x_guard_no ?hy ?_ | refine x_cond_true ?hy ?_); case hy => rfl)
    | ((with_reducible first | refine x_guard_none ?hy ?_ | refine x_cond_false ?hy ?_); case hy => rfl)
    | ((with_reducible refine block_exit_ne ?hy ?_); case hy => decide))
  have ht3' : TrAt N4 S.it 0 (.node a3 z .nil) := ht3.congr fun i hi => hoff4 i (hxy i (by rw [← e3]; exact hi))
  refine hang_ok hF4.mem (hUx z hzx) (.inr rfl) (.inr (hUy j hj)) ?_
  intro H5 hF5 hf5
  repeat' (first
    | (with_reducible first | refine seq_normal ?_ | (refine hK _ _ ?_; clear hK K) | refine x_seq (fun K hK => ?_) | refine x_nil ?_ | refine x_block ?_ | refine x_skip ?_ | refine x_exit ?_ | refine x_ret ?_ | refine x_label ?_ | refine x_scope ?_ | (refine seq_ret ?_; clear hK K) | (refine seq_exit ?_; clear hK K) | refine block_normal ?_ | refine block_ret ?_ | refine block_exit ?_ | refine loop_exit ?_ | refine loop_ret ?_)
    | ((with_reducible refine x_reg_lit ?hq ?_); case hq => rfl)
    | ((first | (with_reducible first | refine x_op (fun K hK => ?_) | refine end_ret ?_ | refine end_normal ?_) | ((with_reducible refine x_guard_yes ?hy (fun K hK => ?_)); case hy => rfl)); simp only [go_sem, Int.cast_ofNat_Int, Nat.reduceEqDiff, Nat.reduceAdd, Nat.reduceMul, Nat.reduceLeDiff, Nat.reduceLT, Int.reduceLT, Int.reduceLE, Int.reduceEq, Int.reduceNeg, Int.reduceToNat, Nat.reducePow, reduceIte, reduceCtorEq])
    | ((with_reducible first | refine x_guard_no ?hy ?_ | refine x_cond_true ?hy ?_); case hy => rfl)
    | ((with_reducible first | refine x_guard_none ?hy ?_ | refine x_cond_false ?hy ?_); case hy => rfl)
    | ((with_reducible refine block_exit_ne ?hy ?_); case hy => decide))
  refine pull_ok hF5 (hUx z hzx) ?_
  intro H6 hF6 hf6
  repeat' (first
    | (with_reducible first | refine seq_normal ?_ | (refine hK _ _ ?_; clear hK K) | refine x_seq (fun K hK => ?_) | refine x_nil ?_ | refine x_block ?_ | refine x_skip ?_ | refine x_exit ?_ | refine x_ret ?_ | refine x_label ?_ | refine x_scope ?_ | (refine seq_ret ?_; clear hK K) | (refine seq_exit ?_; clear hK K) | refine block_normal ?_ | refine block_ret ?_ | refine block_exit ?_ | refine loop_exit ?_ | refine loop_ret ?_)
    | ((with_reducible refine x_reg_lit ?hq ?_); case hq => rfl)
    | ((first | (with_reducible first | refine x_op (fun K hK => ?_) | refine end_ret ?_ | refine end_normal ?_) | ((with_reducible refine x_guard_yes ?hy (fun K hK => ?_)); case hy => rfl)); simp only [go_sem, Int.cast_ofNat_Int, Nat.reduceEqDiff, Nat.reduceAdd, Nat.reduceMul, Nat.reduceLeDiff, Nat.reduceLT, Int.reduceLT, Int.reduceLE, Int.reduceEq, Int.reduceNeg, Int.reduceToNat, Nat.reducePow, reduceIte, reduceCtorEq])
    | ((with_reducible first | refine x_guard_no ?hy ?_ | refine x_cond_true ?hy ?_); case hy => rfl)
    | ((with_reducible first | refine x_guard_none ?hy ?_ | refine x_cond_false ?hy ?_); case hy => rfl)
    | ((with_reducible refine block_exit_ne ?hy ?_); case hy => decide))
  have e3' : xs = a3.list ++ [z] := e3.symm
  have e4' : (Tr.node a4 j b4).list = ys := e4
  have elist : a3.list ++ z :: (Tr.node a4 j b4).list = xs ++ ys := by rw [e4', e3']; simp
  have jt := join_tree (N := N4) (it := S.it) (t := .node a4 j b4) ht3' ht4 ht4.1 (by rw [elist]; exact hn3.1) (fun i hi => by
    rw [elist] at hi
    rcases List.mem_append.1 hi with hi | hi
    · exact hF.may i (hUx i hi)
    · exact hF.may i (hUy i hi)) (by rw [elist]; exact hlen)
  refine fin _ _ ⟨hF6, ?_, ?_, ?_, hF.may⟩ (((((hf1.trans hf2).trans hf3).trans hf4).trans hf5).trans hf6)
  · intro zs hzs
    rcases List.mem_cons.1 hzs with rfl | hzs
    · exact ⟨_, jt.1, by simpa [Tr.list] using elist⟩
    · obtain ⟨t, h1, h2⟩ := hF4.trees zs (hr.mem_iff.2 (.tail _ (.tail _ hzs)))
      refine ⟨t, h1.congr fun i hi => jt.2 i (fun hi' => ?_), h2⟩
      rw [elist] at hi'
      exact hn3.2.2 i hi' i (List.mem_flatten.2 ⟨zs, hzs, by rw [← h2]; exact hi⟩) rfl
  · rw [List.flatten_cons, List.nodup_append]
    exact hn3
  · intro i
    rw [← hF.use i, hr.flatten.mem_iff]
    simp
end
end Go.Proofs.Ytndkbhlfbeiniaa

namespace Go.Proofs.Ytndkbhlfbeiniaa
open Go Go.Hp Go.Sp
set_option linter.all false
set_option maxRecDepth 100000
set_option maxHeartbeats 1600000

section
variable {H H' : Heap} {f : Nat} {T : Nat → Prop} {S : Sq} {K : Value → Heap → Prop} {k : Nat} {R : List (List Nat)}
/-- Put of a pointer into the nodes' arena. -/
theorem put_ptr {p g : Nat} {A : Ar} {b : Nat} (hA : ArAt H p g 1 [.pointer none] A) (hm : A.many < A.room)
    (hk : ∀ H' g' A', ArAt H' p g' 1 [.pointer none] A' → A.get (A.free.headD A.vals.length) = none → 1 ≤ A.free.headD A.vals.length → A'.room = A.room → A'.free = A.free.tail → A'.vals.length = (if A.free = [] then A.vals.length + 1 else A.vals.length) →
      (∀ i, A'.get i = if i = A.free.headD A.vals.length then some [.pointer (some ⟨b, 0, none⟩)] else A.get i) → Fr (fun b => b = g ∨ b = p) H H' → (g' = g ∨ H.size ≤ g') → K (.tuple #[.int .i64 (A.free.headD A.vals.length : Nat), .int .i64 0]) H') :
    CallsH Try.prog 44 #[.pointer (some ⟨p, 0, none⟩), .pointer (some ⟨b, 0, none⟩)] H K := by
  have hcf := Ar.count_free A hA.ok
  cases hf : A.free with
  | nil =>
    rw [hf] at hk
    simp only [List.headD_nil, List.tail_nil, if_true] at hk
    refine ArQPtr.put_new (v := some ⟨b, 0, none⟩) hA hm hf fun H' g' hA' hfr hg => hk H' g' _ hA' ?_ ?_ rfl hf (by simp [Ar.putNew]) (fun i => Ar.get_putNew i) hfr hg
    · unfold Ar.get; rw [List.getElem?_eq_none (Nat.le_refl _)]; rfl
    · omega
  | cons h fs =>
    obtain ⟨h1, h2, h3⟩ := (hA.ok.mem h).1 (by rw [hf]; exact .head _)
    rw [hf] at hk
    simp only [List.headD_cons, List.tail_cons, reduceCtorEq, if_false] at hk
    exact ArQPtr.put_old (v := some ⟨b, 0, none⟩) hA hm hf fun H' hA' hfr => hk H' g _ hA' h3 h1 rfl (by simp [Ar.putOld, hf]) (by simp [Ar.putOld]) (fun i => Ar.get_putOld hA.ok hf i) hfr (.inl rfl)
theorem make_ok {x : Sp.Item} (hM : FoM H f T S) (hx : Fits x) (hx2 : May x) (hr : S.rows.flatten.length < S.room)
    (fin : ∀ H' T', FoM H' f T' (S.made x) → Fr T H H' → (∀ b, T' b → T b ∨ H.size ≤ b) → (∀ b, T b → T' b) → K (.tuple #[.int .i64 (S.next : Nat), .int .i64 0]) H') :
    CallsH Try.prog 21 #[.pointer (some ⟨f, 0, none⟩), x.val] H K := by
  have hb : mayB x = true := mayB_iff.2 hx2
  obtain ⟨p, g, A, nb, N, hF, h2, h3, h4, h5, h6⟩ := hM
  have hmany := hF.many
  simp only [] at hmany
  refine call21 (by simp) ?_
  simp only [Try.f21, Option.getD_some]
  repeat' (first
    | (with_reducible first | refine seq_normal ?_ | (refine hK _ _ ?_; clear hK K) | refine x_seq (fun K hK => ?_) | refine x_nil ?_ | refine x_block ?_ | refine x_skip ?_ | refine x_exit ?_ | refine x_ret ?_ | refine x_label ?_ | refine x_scope ?_ | (refine seq_ret ?_; clear hK K) | (refine seq_exit ?_; clear hK K) | refine block_normal ?_ | refine block_ret ?_ | refine block_exit ?_ | refine loop_exit ?_ | refine loop_ret ?_)
    | ((with_reducible refine x_reg_lit ?hq ?_); case hq => rfl)
    | ((first | (with_reducible first | refine x_op (fun K hK => ?_) | refine end_ret ?_ | refine end_normal ?_) | ((with_reducible refine x_guard_yes ?hy (fun K hK => ?_)); case hy => rfl)); simp only [go_sem, Int.cast_ofNat_Int, Nat.reduceEqDiff, Nat.reduceAdd, Nat.reduceMul, Nat.reduceLeDiff, Nat.reduceLT, Int.reduceLT, Int.reduceLE, Int.reduceEq, Int.reduceNeg, Int.reduceToNat, Nat.reducePow, reduceIte, reduceCtorEq, Sp.Item.val, hcell_push, hcell_top, okW_push, okW_top, hcell_hset_ne, hcell_hset_off, hcell_hset_eq, okW_hset, hset_size, Array.size_push, Nat.lt_add_one, ne_add_one, add_one_ne, Nat.add_assoc, add_same, add_lt_same, Nat.reduceEqDiff, lt_add_k, add_k_ne, ne_add_k])
    | ((with_reducible first | refine x_guard_no ?hy ?_ | refine x_cond_true ?hy ?_); case hy => rfl)
    | ((with_reducible first | refine x_guard_none ?hy ?_ | refine x_cond_false ?hy ?_); case hy => rfl)
    | ((with_reducible refine block_exit_ne ?hy ?_); case hy => decide))
  refine may_ok hx ?_
  intro H1 hf1
  have hf01 : Fr (fun _ => False) H H1 := Fr.trans ((Fr.refl _ _).push _) hf1
  have hx1 : Cells [(H.size, 0, .int .i64 x.value), (H.size, 1, .bool x.counts), (H.size, 2, .int .i64 x.flags)] H1 := by
    refine Cells.grow (H := H.push (.cells #[.int .i64 x.value, .bool x.counts, .int .i64 x.flags] 31)) ?_ hf1
    simp only [go_sem, Int.cast_ofNat_Int, Nat.reduceEqDiff, Nat.reduceAdd, Nat.reduceMul, Nat.reduceLeDiff, Nat.reduceLT, Int.reduceLT, Int.reduceLE, Int.reduceEq, Int.reduceNeg, Int.reduceToNat, Nat.reducePow, reduceIte, reduceCtorEq, Cells, and_true, hcell_push, hcell_top, okW_push, okW_top, hcell_hset_ne, hcell_hset_off, hcell_hset_eq, okW_hset, hset_size, Array.size_push, Nat.lt_add_one, ne_add_one, add_one_ne, Nat.add_assoc, add_same, add_lt_same, Nat.reduceEqDiff, lt_add_k, add_k_ne, ne_add_k]
  simp only [Cells, and_true] at hx1
  have hs1 := hf01.size
  rw [hb]
  repeat' (first
    | (with_reducible first | refine seq_normal ?_ | (refine hK _ _ ?_; clear hK K) | refine x_seq (fun K hK => ?_) | refine x_nil ?_ | refine x_block ?_ | refine x_skip ?_ | refine x_exit ?_ | refine x_ret ?_ | refine x_label ?_ | refine x_scope ?_ | (refine seq_ret ?_; clear hK K) | (refine seq_exit ?_; clear hK K) | refine block_normal ?_ | refine block_ret ?_ | refine block_exit ?_ | refine loop_exit ?_ | refine loop_ret ?_)
    | ((with_reducible refine x_reg_lit ?hq ?_); case hq => rfl)
    | ((first | (with_reducible first | refine x_op (fun K hK => ?_) | refine end_ret ?_ | refine end_normal ?_) | ((with_reducible refine x_guard_yes ?hy (fun K hK => ?_)); case hy => rfl)); simp only [go_sem, Int.cast_ofNat_Int, Nat.reduceEqDiff, Nat.reduceAdd, Nat.reduceMul, Nat.reduceLeDiff, Nat.reduceLT, Int.reduceLT, Int.reduceLE, Int.reduceEq, Int.reduceNeg, Int.reduceToNat, Nat.reducePow, reduceIte, reduceCtorEq, Sp.Item.val, hx1, hcell_push, hcell_top, okW_push, okW_top, hcell_hset_ne, hcell_hset_off, hcell_hset_eq, okW_hset, hset_size, Array.size_push, Nat.lt_add_one, ne_add_one, add_one_ne, Nat.add_assoc, add_same, add_lt_same, Nat.reduceEqDiff, lt_add_k, add_k_ne, ne_add_k])
    | ((with_reducible first | refine x_guard_no ?hy ?_ | refine x_cond_true ?hy ?_); case hy => rfl)
    | ((with_reducible first | refine x_guard_none ?hy ?_ | refine x_cond_false ?hy ?_); case hy => rfl)
    | ((with_reducible refine block_exit_ne ?hy ?_); case hy => decide))
  have hF1 := hF.grow hf01
  have hb2 : Blk (H1.push (.cells #[.int .i64 x.value, .bool x.counts, .int .i64 x.flags, .int .i64 0, .int .i64 0, .int .i64 0, .int .i64 1, .int .i64 0, .int .i64 0, .int .i64 0, .int .i64 0, .int .i64 0] 81)) H1.size (Rec.mk x 0 0 0 1 Agg.zero).cells := Blk.new H1 _ _
  generalize hH2 : H1.push _ = H2 at hb2 ⊢
  have hf2 : Fr (fun _ => False) H1 H2 := by rw [← hH2]; exact (Fr.refl _ _).push _
  have hs2 : H1.size < H2.size := by rw [← hH2]; simp
  refine own_ok hb2 ?_
  intro H3 hf3
  have hb3 := hb2.frame hf3 (fun h => h)
  have w7 := hb3.okW (i := 7) (by simp [Rec.cells])
  have w8 := hb3.okW (i := 8) (by simp [Rec.cells])
  have w9 := hb3.okW (i := 9) (by simp [Rec.cells])
  have w10 := hb3.okW (i := 10) (by simp [Rec.cells])
  have w11 := hb3.okW (i := 11) (by simp [Rec.cells])
  have hs3 := hf3.size
  have hfl : f < H.size := hF.mem.ff.lt
  have hne : ¬ f = H1.size := by omega
  have c0 := ((hF1.grow hf2).grow hf3).mem.ff.cellOf (i := 0) rfl
  repeat' (first
    | (with_reducible first | refine seq_normal ?_ | (refine hK _ _ ?_; clear hK K) | refine x_seq (fun K hK => ?_) | refine x_nil ?_ | refine x_block ?_ | refine x_skip ?_ | refine x_exit ?_ | refine x_ret ?_ | refine x_label ?_ | refine x_scope ?_ | (refine seq_ret ?_; clear hK K) | (refine seq_exit ?_; clear hK K) | refine block_normal ?_ | refine block_ret ?_ | refine block_exit ?_ | refine loop_exit ?_ | refine loop_ret ?_)
    | ((with_reducible refine x_reg_lit ?hq ?_); case hq => rfl)
    | ((first | (with_reducible first | refine x_op (fun K hK => ?_) | refine end_ret ?_ | refine end_normal ?_) | ((with_reducible refine x_guard_yes ?hy (fun K hK => ?_)); case hy => rfl)); simp only [go_sem, Int.cast_ofNat_Int, Nat.reduceEqDiff, Nat.reduceAdd, Nat.reduceMul, Nat.reduceLeDiff, Nat.reduceLT, Int.reduceLT, Int.reduceLE, Int.reduceEq, Int.reduceNeg, Int.reduceToNat, Nat.reducePow, reduceIte, reduceCtorEq, Agg.val, w7, w8, w9, w10, w11, okW_hset, hcell_hset_ne, hne, c0, not_false_eq_true])
    | ((with_reducible first | refine x_guard_no ?hy ?_ | refine x_cond_true ?hy ?_); case hy => rfl)
    | ((with_reducible first | refine x_guard_none ?hy ?_ | refine x_cond_false ?hy ?_); case hy => rfl)
    | ((with_reducible refine block_exit_ne ?hy ?_); case hy => decide))
  have hb4 : Blk (hset (hset (hset (hset (hset H3 ⟨H1.size, 7, none⟩ (.int .i64 (ownA x).count)) ⟨H1.size, 8, none⟩ (.int .i64 (ownA x).sum)) ⟨H1.size, 9, none⟩ (.int .i64 (ownA x).least)) ⟨H1.size, 10, none⟩ (.int .i64 (ownA x).most)) ⟨H1.size, 11, none⟩ (.int .i64 (ownA x).flags)) H1.size (Rec.mk x 0 0 0 1 (ownA x)).cells :=
    ((((hb3.set_same 7 (.int .i64 (ownA x).count)).set_same 8 (.int .i64 (ownA x).sum)).set_same 9 (.int .i64 (ownA x).least)).set_same 10 (.int .i64 (ownA x).most)).set_same 11 (.int .i64 (ownA x).flags)
  have hf4 : Fr (fun _ => False) H1 (hset (hset (hset (hset (hset H3 ⟨H1.size, 7, none⟩ (.int .i64 (ownA x).count)) ⟨H1.size, 8, none⟩ (.int .i64 (ownA x).sum)) ⟨H1.size, 9, none⟩ (.int .i64 (ownA x).least)) ⟨H1.size, 10, none⟩ (.int .i64 (ownA x).most)) ⟨H1.size, 11, none⟩ (.int .i64 (ownA x).flags)) := by
    have step : ∀ {H' : Heap} (o : Nat) (v : Value), Fr (fun _ => False) H1 H' → Fr (fun _ => False) H1 (hset H' ⟨H1.size, o, none⟩ v) := fun o v h => Fr.set (S := fun _ => False) (a := ⟨H1.size, o, none⟩) h (.inr (Nat.le_refl _)) v
    exact step 11 _ (step 10 _ (step 9 _ (step 8 _ (step 7 _ (hf2.trans hf3)))))
  generalize hset (hset (hset (hset (hset H3 ⟨H1.size, 7, none⟩ (.int .i64 (ownA x).count)) ⟨H1.size, 8, none⟩ (.int .i64 (ownA x).sum)) ⟨H1.size, 9, none⟩ (.int .i64 (ownA x).least)) ⟨H1.size, 10, none⟩ (.int .i64 (ownA x).most)) ⟨H1.size, 11, none⟩ (.int .i64 (ownA x).flags) = H4 at hb4 hf4 ⊢
  have hF4 := hF1.grow hf4
  have hnl : ∀ i, U A i → nb i ≠ H1.size := fun i hi => by have := (hF1.mem.nd i hi).lt; omega
  obtain ⟨cc, rest, q1, q2, _⟩ := hF1.mem.ar.at_
  have hpl := q1.lt
  have hgl := q2.lt
  refine put_ptr hF4.mem.ar (by rw [h2, ← hmany]; exact hr) ?_
  intro H5 g5 A5 hA5 hn5 h15 hr5 hfr5 hl5 hg5 hf5 hgg5
  have hF5 := hF4.made hx2 h15 hb4 hnl (by omega) hA5 hn5 hg5 hf5 hgg5
  have enext : S.next = A.free.headD A.vals.length := by unfold Sq.next; rw [← h4, ← h3]
  rw [← enext] at hF5 hg5
  rw [← enext]
  repeat' (first
    | (with_reducible first | refine seq_normal ?_ | (refine hK _ _ ?_; clear hK K) | refine x_seq (fun K hK => ?_) | refine x_nil ?_ | refine x_block ?_ | refine x_skip ?_ | refine x_exit ?_ | refine x_ret ?_ | refine x_label ?_ | refine x_scope ?_ | (refine seq_ret ?_; clear hK K) | (refine seq_exit ?_; clear hK K) | refine block_normal ?_ | refine block_ret ?_ | refine block_exit ?_ | refine loop_exit ?_ | refine loop_ret ?_)
    | ((with_reducible refine x_reg_lit ?hq ?_); case hq => rfl)
    | ((first | (with_reducible first | refine x_op (fun K hK => ?_) | refine end_ret ?_ | refine end_normal ?_) | ((with_reducible refine x_guard_yes ?hy (fun K hK => ?_)); case hy => rfl)); simp only [go_sem, Int.cast_ofNat_Int, Nat.reduceEqDiff, Nat.reduceAdd, Nat.reduceMul, Nat.reduceLeDiff, Nat.reduceLT, Int.reduceLT, Int.reduceLE, Int.reduceEq, Int.reduceNeg, Int.reduceToNat, Nat.reducePow, reduceIte, reduceCtorEq])
    | ((with_reducible first | refine x_guard_no ?hy ?_ | refine x_cond_true ?hy ?_); case hy => rfl)
    | ((with_reducible first | refine x_guard_none ?hy ?_ | refine x_cond_false ?hy ?_); case hy => rfl)
    | ((with_reducible refine block_exit_ne ?hy ?_); case hy => decide))
  have hs4 := hf4.size
  have hb4l := hb4.lt
  have hs5 := hf5.size
  refine fin H5 (fun b => T b ∨ (H.size ≤ b ∧ b < H5.size)) ⟨p, g5, A5, _, _, hF5, by rw [hr5, h2]; rfl, ?_, by rw [hfr5, h4]; rfl, ?_, ?_⟩ ?_ ?_ (fun b hb => .inl hb)
  · rw [hl5, h4, h3]; rfl
  · rintro b (rfl | rfl | rfl | ⟨i, hi, rfl⟩)
    · exact .inl (h5 _ (.inl rfl))
    · exact .inl (h5 _ (.inr (.inl rfl)))
    · rcases hgg5 with rfl | hgg
      · exact .inl (h5 _ (.inr (.inr (.inl rfl))))
      · refine .inr ⟨by omega, ?_⟩
        obtain ⟨_, _, _, q2', _⟩ := hF5.mem.ar.at_
        exact q2'.lt
    · by_cases e : i = S.next
      · simp only [e, if_true]
        exact .inr ⟨by omega, by omega⟩
      · simp only [e, if_false]
        refine .inl (h5 _ (.inr (.inr (.inr ⟨i, ?_, rfl⟩))))
        unfold U at hi ⊢
        rw [hg5, if_neg e] at hi
        exact hi
  · rintro b (hb | hb)
    · have := h6 b hb; omega
    · exact hb.2
  · refine (hf01.trans hf4).mono (S' := T) (fun _ _ h => h.elim) |>.trans' hf5 fun b hb e => ?_
    rcases e with rfl | rfl
    · exact h5 _ (.inr (.inr (.inl rfl)))
    · exact h5 _ (.inr (.inl rfl))
  · rintro b (hb | hb)
    · exact .inl hb
    · exact .inr hb.1
theorem make_full {x : Sp.Item} (hM : FoM H f T S) (hx : Fits x) (hx2 : May x) (hr : S.rows.flatten.length = S.room) (fin : ∀ H', Fr (fun _ => False) H H' → K (.tuple #[.int .i64 0, .int .i64 30]) H') :
    CallsH Try.prog 21 #[.pointer (some ⟨f, 0, none⟩), x.val] H K := by
  have hb : mayB x = true := mayB_iff.2 hx2
  obtain ⟨p, g, A, nb, N, hF, h2, h3, h4, h5, h6⟩ := hM
  have hmany := hF.many
  simp only [] at hmany
  refine call21 (by simp) ?_
  simp only [Try.f21, Option.getD_some]
  repeat' (first
    | (with_reducible first | refine seq_normal ?_ | (refine hK _ _ ?_; clear hK K) | refine x_seq (fun K hK => ?_) | refine x_nil ?_ | refine x_block ?_ | refine x_skip ?_ | refine x_exit ?_ | refine x_ret ?_ | refine x_label ?_ | refine x_scope ?_ | (refine seq_ret ?_; clear hK K) | (refine seq_exit ?_; clear hK K) | refine block_normal ?_ | refine block_ret ?_ | refine block_exit ?_ | refine loop_exit ?_ | refine loop_ret ?_)
    | ((with_reducible refine x_reg_lit ?hq ?_); case hq => rfl)
    | ((first | (with_reducible first | refine x_op (fun K hK => ?_) | refine end_ret ?_ | refine end_normal ?_) | ((with_reducible refine x_guard_yes ?hy (fun K hK => ?_)); case hy => rfl)); simp only [go_sem, Int.cast_ofNat_Int, Nat.reduceEqDiff, Nat.reduceAdd, Nat.reduceMul, Nat.reduceLeDiff, Nat.reduceLT, Int.reduceLT, Int.reduceLE, Int.reduceEq, Int.reduceNeg, Int.reduceToNat, Nat.reducePow, reduceIte, reduceCtorEq, Sp.Item.val, hcell_push, hcell_top, okW_push, okW_top, hcell_hset_ne, hcell_hset_off, hcell_hset_eq, okW_hset, hset_size, Array.size_push, Nat.lt_add_one, ne_add_one, add_one_ne, Nat.add_assoc, add_same, add_lt_same, Nat.reduceEqDiff, lt_add_k, add_k_ne, ne_add_k])
    | ((with_reducible first | refine x_guard_no ?hy ?_ | refine x_cond_true ?hy ?_); case hy => rfl)
    | ((with_reducible first | refine x_guard_none ?hy ?_ | refine x_cond_false ?hy ?_); case hy => rfl)
    | ((with_reducible refine block_exit_ne ?hy ?_); case hy => decide))
  refine may_ok hx ?_
  intro H1 hf1
  have hf01 : Fr (fun _ => False) H H1 := Fr.trans ((Fr.refl _ _).push _) hf1
  have hx1 : Cells [(H.size, 0, .int .i64 x.value), (H.size, 1, .bool x.counts), (H.size, 2, .int .i64 x.flags)] H1 := by
    refine Cells.grow (H := H.push (.cells #[.int .i64 x.value, .bool x.counts, .int .i64 x.flags] 31)) ?_ hf1
    simp only [go_sem, Int.cast_ofNat_Int, Nat.reduceEqDiff, Nat.reduceAdd, Nat.reduceMul, Nat.reduceLeDiff, Nat.reduceLT, Int.reduceLT, Int.reduceLE, Int.reduceEq, Int.reduceNeg, Int.reduceToNat, Nat.reducePow, reduceIte, reduceCtorEq, Cells, and_true, hcell_push, hcell_top, okW_push, okW_top, hcell_hset_ne, hcell_hset_off, hcell_hset_eq, okW_hset, hset_size, Array.size_push, Nat.lt_add_one, ne_add_one, add_one_ne, Nat.add_assoc, add_same, add_lt_same, Nat.reduceEqDiff, lt_add_k, add_k_ne, ne_add_k]
  simp only [Cells, and_true] at hx1
  have hs1 := hf01.size
  rw [hb]
  repeat' (first
    | (with_reducible first | refine seq_normal ?_ | (refine hK _ _ ?_; clear hK K) | refine x_seq (fun K hK => ?_) | refine x_nil ?_ | refine x_block ?_ | refine x_skip ?_ | refine x_exit ?_ | refine x_ret ?_ | refine x_label ?_ | refine x_scope ?_ | (refine seq_ret ?_; clear hK K) | (refine seq_exit ?_; clear hK K) | refine block_normal ?_ | refine block_ret ?_ | refine block_exit ?_ | refine loop_exit ?_ | refine loop_ret ?_)
    | ((with_reducible refine x_reg_lit ?hq ?_); case hq => rfl)
    | ((first | (with_reducible first | refine x_op (fun K hK => ?_) | refine end_ret ?_ | refine end_normal ?_) | ((with_reducible refine x_guard_yes ?hy (fun K hK => ?_)); case hy => rfl)); simp only [go_sem, Int.cast_ofNat_Int, Nat.reduceEqDiff, Nat.reduceAdd, Nat.reduceMul, Nat.reduceLeDiff, Nat.reduceLT, Int.reduceLT, Int.reduceLE, Int.reduceEq, Int.reduceNeg, Int.reduceToNat, Nat.reducePow, reduceIte, reduceCtorEq, Sp.Item.val, hx1, hcell_push, hcell_top, okW_push, okW_top, hcell_hset_ne, hcell_hset_off, hcell_hset_eq, okW_hset, hset_size, Array.size_push, Nat.lt_add_one, ne_add_one, add_one_ne, Nat.add_assoc, add_same, add_lt_same, Nat.reduceEqDiff, lt_add_k, add_k_ne, ne_add_k])
    | ((with_reducible first | refine x_guard_no ?hy ?_ | refine x_cond_true ?hy ?_); case hy => rfl)
    | ((with_reducible first | refine x_guard_none ?hy ?_ | refine x_cond_false ?hy ?_); case hy => rfl)
    | ((with_reducible refine block_exit_ne ?hy ?_); case hy => decide))
  have hF1 := hF.grow hf01
  have hb2 : Blk (H1.push (.cells #[.int .i64 x.value, .bool x.counts, .int .i64 x.flags, .int .i64 0, .int .i64 0, .int .i64 0, .int .i64 1, .int .i64 0, .int .i64 0, .int .i64 0, .int .i64 0, .int .i64 0] 81)) H1.size (Rec.mk x 0 0 0 1 Agg.zero).cells := Blk.new H1 _ _
  generalize hH2 : H1.push _ = H2 at hb2 ⊢
  have hf2 : Fr (fun _ => False) H1 H2 := by rw [← hH2]; exact (Fr.refl _ _).push _
  refine own_ok hb2 ?_
  intro H3 hf3
  have hb3 := hb2.frame hf3 (fun h => h)
  have w7 := hb3.okW (i := 7) (by simp [Rec.cells])
  have w8 := hb3.okW (i := 8) (by simp [Rec.cells])
  have w9 := hb3.okW (i := 9) (by simp [Rec.cells])
  have w10 := hb3.okW (i := 10) (by simp [Rec.cells])
  have w11 := hb3.okW (i := 11) (by simp [Rec.cells])
  have hfl : f < H.size := hF.mem.ff.lt
  have hne : ¬ f = H1.size := by omega
  have c0 := ((hF1.grow hf2).grow hf3).mem.ff.cellOf (i := 0) rfl
  repeat' (first
    | (with_reducible first | refine seq_normal ?_ | (refine hK _ _ ?_; clear hK K) | refine x_seq (fun K hK => ?_) | refine x_nil ?_ | refine x_block ?_ | refine x_skip ?_ | refine x_exit ?_ | refine x_ret ?_ | refine x_label ?_ | refine x_scope ?_ | (refine seq_ret ?_; clear hK K) | (refine seq_exit ?_; clear hK K) | refine block_normal ?_ | refine block_ret ?_ | refine block_exit ?_ | refine loop_exit ?_ | refine loop_ret ?_)
    | ((with_reducible refine x_reg_lit ?hq ?_); case hq => rfl)
    | ((first | (with_reducible first | refine x_op (fun K hK => ?_) | refine end_ret ?_ | refine end_normal ?_) | ((with_reducible refine x_guard_yes ?hy (fun K hK => ?_)); case hy => rfl)); simp only [go_sem, Int.cast_ofNat_Int, Nat.reduceEqDiff, Nat.reduceAdd, Nat.reduceMul, Nat.reduceLeDiff, Nat.reduceLT, Int.reduceLT, Int.reduceLE, Int.reduceEq, Int.reduceNeg, Int.reduceToNat, Nat.reducePow, reduceIte, reduceCtorEq, Agg.val, w7, w8, w9, w10, w11, okW_hset, hcell_hset_ne, hne, c0, not_false_eq_true])
    | ((with_reducible first | refine x_guard_no ?hy ?_ | refine x_cond_true ?hy ?_); case hy => rfl)
    | ((with_reducible first | refine x_guard_none ?hy ?_ | refine x_cond_false ?hy ?_); case hy => rfl)
    | ((with_reducible refine block_exit_ne ?hy ?_); case hy => decide))
  have hf4 : Fr (fun _ => False) H1 (hset (hset (hset (hset (hset H3 ⟨H1.size, 7, none⟩ (.int .i64 (ownA x).count)) ⟨H1.size, 8, none⟩ (.int .i64 (ownA x).sum)) ⟨H1.size, 9, none⟩ (.int .i64 (ownA x).least)) ⟨H1.size, 10, none⟩ (.int .i64 (ownA x).most)) ⟨H1.size, 11, none⟩ (.int .i64 (ownA x).flags)) := by
    have step : ∀ {H' : Heap} (o : Nat) (v : Value), Fr (fun _ => False) H1 H' → Fr (fun _ => False) H1 (hset H' ⟨H1.size, o, none⟩ v) := fun o v h => Fr.set (S := fun _ => False) (a := ⟨H1.size, o, none⟩) h (.inr (Nat.le_refl _)) v
    exact step 11 _ (step 10 _ (step 9 _ (step 8 _ (step 7 _ (hf2.trans hf3)))))
  refine ArQPtr.put_full (v := some ⟨H1.size, 0, none⟩) (hF1.grow hf4).mem.ar (by rw [h2, ← hmany]; exact hr) ?_
  repeat' (first
    | (with_reducible first | refine seq_normal ?_ | (refine hK _ _ ?_; clear hK K) | refine x_seq (fun K hK => ?_) | refine x_nil ?_ | refine x_block ?_ | refine x_skip ?_ | refine x_exit ?_ | refine x_ret ?_ | refine x_label ?_ | refine x_scope ?_ | (refine seq_ret ?_; clear hK K) | (refine seq_exit ?_; clear hK K) | refine block_normal ?_ | refine block_ret ?_ | refine block_exit ?_ | refine loop_exit ?_ | refine loop_ret ?_)
    | ((with_reducible refine x_reg_lit ?hq ?_); case hq => rfl)
    | ((first | (with_reducible first | refine x_op (fun K hK => ?_) | refine end_ret ?_ | refine end_normal ?_) | ((with_reducible refine x_guard_yes ?hy (fun K hK => ?_)); case hy => rfl)); simp only [go_sem, Int.cast_ofNat_Int, Nat.reduceEqDiff, Nat.reduceAdd, Nat.reduceMul, Nat.reduceLeDiff, Nat.reduceLT, Int.reduceLT, Int.reduceLE, Int.reduceEq, Int.reduceNeg, Int.reduceToNat, Nat.reducePow, reduceIte, reduceCtorEq])
    | ((with_reducible first | refine x_guard_no ?hy ?_ | refine x_cond_true ?hy ?_); case hy => rfl)
    | ((with_reducible first | refine x_guard_none ?hy ?_ | refine x_cond_false ?hy ?_); case hy => rfl)
    | ((with_reducible refine block_exit_ne ?hy ?_); case hy => decide))
  exact fin _ (hf01.trans hf4)
theorem free_none {i : Int} (hM : FoM H f T S) (hi : ¬ S.Has i) (fin : K (.int .i64 31) H) : CallsH Try.prog 22 #[.pointer (some ⟨f, 0, none⟩), .int .i64 i] H K := by
  obtain ⟨p, g, A, nb, N, hF, h2, h3, h4, h5, h6⟩ := hM
  refine call22 (by simp) ?_
  simp only [Try.f22, Option.getD_some]
  repeat' (first
    | (with_reducible first | refine seq_normal ?_ | (refine hK _ _ ?_; clear hK K) | refine x_seq (fun K hK => ?_) | refine x_nil ?_ | refine x_block ?_ | refine x_skip ?_ | refine x_exit ?_ | refine x_ret ?_ | refine x_label ?_ | refine x_scope ?_ | (refine seq_ret ?_; clear hK K) | (refine seq_exit ?_; clear hK K) | refine block_normal ?_ | refine block_ret ?_ | refine block_exit ?_ | refine loop_exit ?_ | refine loop_ret ?_)
    | ((with_reducible refine x_reg_lit ?hq ?_); case hq => rfl)
    | ((first | (with_reducible first | refine x_op (fun K hK => ?_) | refine end_ret ?_ | refine end_normal ?_) | ((with_reducible refine x_guard_yes ?hy (fun K hK => ?_)); case hy => rfl)); simp only [go_sem, Int.cast_ofNat_Int, Nat.reduceEqDiff, Nat.reduceAdd, Nat.reduceMul, Nat.reduceLeDiff, Nat.reduceLT, Int.reduceLT, Int.reduceLE, Int.reduceEq, Int.reduceNeg, Int.reduceToNat, Nat.reducePow, reduceIte, reduceCtorEq])
    | ((with_reducible first | refine x_guard_no ?hy ?_ | refine x_cond_true ?hy ?_); case hy => rfl)
    | ((with_reducible first | refine x_guard_none ?hy ?_ | refine x_cond_false ?hy ?_); case hy => rfl)
    | ((with_reducible refine block_exit_ne ?hy ?_); case hy => decide))
  refine node_no hF.mem (hF.none hi) ?_
  repeat' (first
    | (with_reducible first | refine seq_normal ?_ | (refine hK _ _ ?_; clear hK K) | refine x_seq (fun K hK => ?_) | refine x_nil ?_ | refine x_block ?_ | refine x_skip ?_ | refine x_exit ?_ | refine x_ret ?_ | refine x_label ?_ | refine x_scope ?_ | (refine seq_ret ?_; clear hK K) | (refine seq_exit ?_; clear hK K) | refine block_normal ?_ | refine block_ret ?_ | refine block_exit ?_ | refine loop_exit ?_ | refine loop_ret ?_)
    | ((with_reducible refine x_reg_lit ?hq ?_); case hq => rfl)
    | ((first | (with_reducible first | refine x_op (fun K hK => ?_) | refine end_ret ?_ | refine end_normal ?_) | ((with_reducible refine x_guard_yes ?hy (fun K hK => ?_)); case hy => rfl)); simp only [go_sem, Int.cast_ofNat_Int, Nat.reduceEqDiff, Nat.reduceAdd, Nat.reduceMul, Nat.reduceLeDiff, Nat.reduceLT, Int.reduceLT, Int.reduceLE, Int.reduceEq, Int.reduceNeg, Int.reduceToNat, Nat.reducePow, reduceIte, reduceCtorEq])
    | ((with_reducible first | refine x_guard_no ?hy ?_ | refine x_cond_true ?hy ?_); case hy => rfl)
    | ((with_reducible first | refine x_guard_none ?hy ?_ | refine x_cond_false ?hy ?_); case hy => rfl)
    | ((with_reducible refine block_exit_ne ?hy ?_); case hy => decide))
  exact fin
theorem free_busy {xs : List Nat} (hM : FoM H f T S) (hx : xs ∈ S.rows) (hk : k ∈ xs) (hl : 1 < xs.length) (fin : ∀ H', FoM H' f T S → Fr T H H' → K (.int .i64 32) H') : CallsH Try.prog 22 #[.pointer (some ⟨f, 0, none⟩), .int .i64 k] H K := by
  obtain ⟨p, g, A, nb, N, hF, h2, h3, h4, h5, h6⟩ := hM
  have hU := hF.u hx hk
  refine call22 (by simp) ?_
  simp only [Try.f22, Option.getD_some]
  repeat' (first
    | (with_reducible first | refine seq_normal ?_ | (refine hK _ _ ?_; clear hK K) | refine x_seq (fun K hK => ?_) | refine x_nil ?_ | refine x_block ?_ | refine x_skip ?_ | refine x_exit ?_ | refine x_ret ?_ | refine x_label ?_ | refine x_scope ?_ | (refine seq_ret ?_; clear hK K) | (refine seq_exit ?_; clear hK K) | refine block_normal ?_ | refine block_ret ?_ | refine block_exit ?_ | refine loop_exit ?_ | refine loop_ret ?_)
    | ((with_reducible refine x_reg_lit ?hq ?_); case hq => rfl)
    | ((first | (with_reducible first | refine x_op (fun K hK => ?_) | refine end_ret ?_ | refine end_normal ?_) | ((with_reducible refine x_guard_yes ?hy (fun K hK => ?_)); case hy => rfl)); simp only [go_sem, Int.cast_ofNat_Int, Nat.reduceEqDiff, Nat.reduceAdd, Nat.reduceMul, Nat.reduceLeDiff, Nat.reduceLT, Int.reduceLT, Int.reduceLE, Int.reduceEq, Int.reduceNeg, Int.reduceToNat, Nat.reducePow, reduceIte, reduceCtorEq])
    | ((with_reducible first | refine x_guard_no ?hy ?_ | refine x_cond_true ?hy ?_); case hy => rfl)
    | ((with_reducible first | refine x_guard_none ?hy ?_ | refine x_cond_false ?hy ?_); case hy => rfl)
    | ((with_reducible refine block_exit_ne ?hy ?_); case hy => decide))
  refine node_ok hF.mem hU ?_
  repeat' (first
    | (with_reducible first | refine seq_normal ?_ | (refine hK _ _ ?_; clear hK K) | refine x_seq (fun K hK => ?_) | refine x_nil ?_ | refine x_block ?_ | refine x_skip ?_ | refine x_exit ?_ | refine x_ret ?_ | refine x_label ?_ | refine x_scope ?_ | (refine seq_ret ?_; clear hK K) | (refine seq_exit ?_; clear hK K) | refine block_normal ?_ | refine block_ret ?_ | refine block_exit ?_ | refine loop_exit ?_ | refine loop_ret ?_)
    | ((with_reducible refine x_reg_lit ?hq ?_); case hq => rfl)
    | ((first | (with_reducible first | refine x_op (fun K hK => ?_) | refine end_ret ?_ | refine end_normal ?_) | ((with_reducible refine x_guard_yes ?hy (fun K hK => ?_)); case hy => rfl)); simp only [go_sem, Int.cast_ofNat_Int, Nat.reduceEqDiff, Nat.reduceAdd, Nat.reduceMul, Nat.reduceLeDiff, Nat.reduceLT, Int.reduceLT, Int.reduceLE, Int.reduceEq, Int.reduceNeg, Int.reduceToNat, Nat.reducePow, reduceIte, reduceCtorEq])
    | ((with_reducible first | refine x_guard_no ?hy ?_ | refine x_cond_true ?hy ?_); case hy => rfl)
    | ((with_reducible first | refine x_guard_none ?hy ?_ | refine x_cond_false ?hy ?_); case hy => rfl)
    | ((with_reducible refine block_exit_ne ?hy ?_); case hy => decide))
  refine splay_row hF hx hk (hF.apart hx) ?_
  intro H2 N2 a b hF2 ht e hf hoff
  have c6 := (hF2.mem.nd k hU).cellOf (i := 6) rfl
  have em : (N2 k).many = (xs.length : Int) := by
    obtain ⟨_, ek, _⟩ := ht
    rw [ek, ← e]; rfl
  rw [em] at c6
  have t1 : (1 < (xs.length : Int)) = True := by simp; omega
  repeat' (first
    | (with_reducible first | refine seq_normal ?_ | (refine hK _ _ ?_; clear hK K) | refine x_seq (fun K hK => ?_) | refine x_nil ?_ | refine x_block ?_ | refine x_skip ?_ | refine x_exit ?_ | refine x_ret ?_ | refine x_label ?_ | refine x_scope ?_ | (refine seq_ret ?_; clear hK K) | (refine seq_exit ?_; clear hK K) | refine block_normal ?_ | refine block_ret ?_ | refine block_exit ?_ | refine loop_exit ?_ | refine loop_ret ?_)
    | ((with_reducible refine x_reg_lit ?hq ?_); case hq => rfl)
    | ((first | (with_reducible first | refine x_op (fun K hK => ?_) | refine end_ret ?_ | refine end_normal ?_) | ((with_reducible refine x_guard_yes ?hy (fun K hK => ?_)); case hy => rfl)); simp only [go_sem, Int.cast_ofNat_Int, Nat.reduceEqDiff, Nat.reduceAdd, Nat.reduceMul, Nat.reduceLeDiff, Nat.reduceLT, Int.reduceLT, Int.reduceLE, Int.reduceEq, Int.reduceNeg, Int.reduceToNat, Nat.reducePow, reduceIte, reduceCtorEq, c6, t1])
    | ((with_reducible first | refine x_guard_no ?hy ?_ | refine x_cond_true ?hy ?_); case hy => rfl)
    | ((with_reducible first | refine x_guard_none ?hy ?_ | refine x_cond_false ?hy ?_); case hy => rfl)
    | ((with_reducible refine block_exit_ne ?hy ?_); case hy => decide))
  exact fin _ ⟨p, g, A, nb, N2, hF2, h2, h3, h4, h5, fun b hb => Nat.lt_of_lt_of_le (h6 b hb) hf.size⟩ (hf.mono fun b _ hb => h5 b (.inr (.inr (.inr hb))))
theorem free_ok (hM : FoM H f T S) (hr : S.rows.Perm ([k] :: R)) (fin : ∀ H', FoM H' f T (S.freed k R) → Fr T H H' → K (.int .i64 0) H') : CallsH Try.prog 22 #[.pointer (some ⟨f, 0, none⟩), .int .i64 k] H K := by
  obtain ⟨p, g, A, nb, N, hF, h2, h3, h4, h5, h6⟩ := hM
  have hx : [k] ∈ S.rows := hr.mem_iff.2 (.head _)
  have hU := hF.u hx (.head _)
  refine call22 (by simp) ?_
  simp only [Try.f22, Option.getD_some]
  repeat' (first
    | (with_reducible first | refine seq_normal ?_ | (refine hK _ _ ?_; clear hK K) | refine x_seq (fun K hK => ?_) | refine x_nil ?_ | refine x_block ?_ | refine x_skip ?_ | refine x_exit ?_ | refine x_ret ?_ | refine x_label ?_ | refine x_scope ?_ | (refine seq_ret ?_; clear hK K) | (refine seq_exit ?_; clear hK K) | refine block_normal ?_ | refine block_ret ?_ | refine block_exit ?_ | refine loop_exit ?_ | refine loop_ret ?_)
    | ((with_reducible refine x_reg_lit ?hq ?_); case hq => rfl)
    | ((first | (with_reducible first | refine x_op (fun K hK => ?_) | refine end_ret ?_ | refine end_normal ?_) | ((with_reducible refine x_guard_yes ?hy (fun K hK => ?_)); case hy => rfl)); simp only [go_sem, Int.cast_ofNat_Int, Nat.reduceEqDiff, Nat.reduceAdd, Nat.reduceMul, Nat.reduceLeDiff, Nat.reduceLT, Int.reduceLT, Int.reduceLE, Int.reduceEq, Int.reduceNeg, Int.reduceToNat, Nat.reducePow, reduceIte, reduceCtorEq])
    | ((with_reducible first | refine x_guard_no ?hy ?_ | refine x_cond_true ?hy ?_); case hy => rfl)
    | ((with_reducible first | refine x_guard_none ?hy ?_ | refine x_cond_false ?hy ?_); case hy => rfl)
    | ((with_reducible refine block_exit_ne ?hy ?_); case hy => decide))
  refine node_ok hF.mem hU ?_
  repeat' (first
    | (with_reducible first | refine seq_normal ?_ | (refine hK _ _ ?_; clear hK K) | refine x_seq (fun K hK => ?_) | refine x_nil ?_ | refine x_block ?_ | refine x_skip ?_ | refine x_exit ?_ | refine x_ret ?_ | refine x_label ?_ | refine x_scope ?_ | (refine seq_ret ?_; clear hK K) | (refine seq_exit ?_; clear hK K) | refine block_normal ?_ | refine block_ret ?_ | refine block_exit ?_ | refine loop_exit ?_ | refine loop_ret ?_)
    | ((with_reducible refine x_reg_lit ?hq ?_); case hq => rfl)
    | ((first | (with_reducible first | refine x_op (fun K hK => ?_) | refine end_ret ?_ | refine end_normal ?_) | ((with_reducible refine x_guard_yes ?hy (fun K hK => ?_)); case hy => rfl)); simp only [go_sem, Int.cast_ofNat_Int, Nat.reduceEqDiff, Nat.reduceAdd, Nat.reduceMul, Nat.reduceLeDiff, Nat.reduceLT, Int.reduceLT, Int.reduceLE, Int.reduceEq, Int.reduceNeg, Int.reduceToNat, Nat.reducePow, reduceIte, reduceCtorEq])
    | ((with_reducible first | refine x_guard_no ?hy ?_ | refine x_cond_true ?hy ?_); case hy => rfl)
    | ((with_reducible first | refine x_guard_none ?hy ?_ | refine x_cond_false ?hy ?_); case hy => rfl)
    | ((with_reducible refine block_exit_ne ?hy ?_); case hy => decide))
  refine splay_row hF hx (.head _) (hF.apart hx) ?_
  intro H2 N2 a b hF2 ht e hf hoff
  have c6 := (hF2.mem.nd k hU).cellOf (i := 6) rfl
  have em : (N2 k).many = 1 := by
    obtain ⟨_, ek, _⟩ := ht
    rw [ek, recOf, e]; rfl
  rw [em] at c6
  have c0 := hF2.mem.ff.cellOf (i := 0) rfl
  repeat' (first
    | (with_reducible first | refine seq_normal ?_ | (refine hK _ _ ?_; clear hK K) | refine x_seq (fun K hK => ?_) | refine x_nil ?_ | refine x_block ?_ | refine x_skip ?_ | refine x_exit ?_ | refine x_ret ?_ | refine x_label ?_ | refine x_scope ?_ | (refine seq_ret ?_; clear hK K) | (refine seq_exit ?_; clear hK K) | refine block_normal ?_ | refine block_ret ?_ | refine block_exit ?_ | refine loop_exit ?_ | refine loop_ret ?_)
    | ((with_reducible refine x_reg_lit ?hq ?_); case hq => rfl)
    | ((first | (with_reducible first | refine x_op (fun K hK => ?_) | refine end_ret ?_ | refine end_normal ?_) | ((with_reducible refine x_guard_yes ?hy (fun K hK => ?_)); case hy => rfl)); simp only [go_sem, Int.cast_ofNat_Int, Nat.reduceEqDiff, Nat.reduceAdd, Nat.reduceMul, Nat.reduceLeDiff, Nat.reduceLT, Int.reduceLT, Int.reduceLE, Int.reduceEq, Int.reduceNeg, Int.reduceToNat, Nat.reducePow, reduceIte, reduceCtorEq, c6, c0])
    | ((with_reducible first | refine x_guard_no ?hy ?_ | refine x_cond_true ?hy ?_); case hy => rfl)
    | ((with_reducible first | refine x_guard_none ?hy ?_ | refine x_cond_false ?hy ?_); case hy => rfl)
    | ((with_reducible refine block_exit_ne ?hy ?_); case hy => decide))
  obtain ⟨v, hv⟩ := Option.isSome_iff_exists.1 hU
  refine ArQPtr.drop_some hF2.mem.ar hv ?_
  intro H3 hA3 hf3
  have hF3 := hF2.freed (R := R) (h := k) hr hA3 hf3
  repeat' (first
    | (with_reducible first | refine seq_normal ?_ | (refine hK _ _ ?_; clear hK K) | refine x_seq (fun K hK => ?_) | refine x_nil ?_ | refine x_block ?_ | refine x_skip ?_ | refine x_exit ?_ | refine x_ret ?_ | refine x_label ?_ | refine x_scope ?_ | (refine seq_ret ?_; clear hK K) | (refine seq_exit ?_; clear hK K) | refine block_normal ?_ | refine block_ret ?_ | refine block_exit ?_ | refine loop_exit ?_ | refine loop_ret ?_)
    | ((with_reducible refine x_reg_lit ?hq ?_); case hq => rfl)
    | ((first | (with_reducible first | refine x_op (fun K hK => ?_) | refine end_ret ?_ | refine end_normal ?_) | ((with_reducible refine x_guard_yes ?hy (fun K hK => ?_)); case hy => rfl)); simp only [go_sem, Int.cast_ofNat_Int, Nat.reduceEqDiff, Nat.reduceAdd, Nat.reduceMul, Nat.reduceLeDiff, Nat.reduceLT, Int.reduceLT, Int.reduceLE, Int.reduceEq, Int.reduceNeg, Int.reduceToNat, Nat.reducePow, reduceIte, reduceCtorEq])
    | ((with_reducible first | refine x_guard_no ?hy ?_ | refine x_cond_true ?hy ?_); case hy => rfl)
    | ((with_reducible first | refine x_guard_none ?hy ?_ | refine x_cond_false ?hy ?_); case hy => rfl)
    | ((with_reducible refine block_exit_ne ?hy ?_); case hy => decide))
  refine fin _ ⟨p, g, _, nb, N2, hF3, h2, by simp [Ar.drop, h3, Sq.freed], by simp [Ar.drop, h4, Sq.freed], ?_, fun b hb => Nat.lt_of_lt_of_le (Nat.lt_of_lt_of_le (h6 b hb) hf.size) hf3.size⟩ ?_
  · rintro b (rfl | rfl | rfl | ⟨i, hi, rfl⟩)
    · exact h5 _ (.inl rfl)
    · exact h5 _ (.inr (.inl rfl))
    · exact h5 _ (.inr (.inr (.inl rfl)))
    · refine h5 _ (.inr (.inr (.inr ⟨i, ?_, rfl⟩)))
      unfold U at hi ⊢
      rw [Ar.get_drop hv] at hi
      by_cases e : i = k
      · rw [if_pos e] at hi; cases hi
      · rw [if_neg e] at hi; exact hi
  · refine (hf.mono (S' := T) fun b _ hb => h5 b (.inr (.inr (.inr hb)))).trans' hf3 fun b hb e => ?_
    rcases e with rfl | rfl
    · exact h5 _ (.inr (.inr (.inl rfl)))
    · exact h5 _ (.inr (.inl rfl))
end
end Go.Proofs.Ytndkbhlfbeiniaa
