/-
  SplayPieces returns true, whatever it is given, and writes nothing that was there.
-/
import Derived.Test.YtndkbhlfbeiniaaStM
import Derived.Test.YtndkbhlfbeiniaaPcM
namespace Go.Proofs.Ytndkbhlfbeiniaa
open Go Go.Hp Go.Sp
set_option linter.all false
set_option maxRecDepth 100000
set_option maxHeartbeats 1600000

theorem IR.sub {H : Heap} {g n c a m : Nat} {xs : List Int} (h : IR H (some g) (.slice (some ⟨g, 0, none⟩) n c) xs) (hm : a + m ≤ xs.length) : Rds H (some g) (.slice (some ⟨g, a, none⟩) m (c - a)) ((xs.drop a).take m) := by
  refine ⟨_, c - a, by rw [List.length_take, List.length_drop, Nat.min_eq_left (by omega)], fun i x hi => ?_⟩
  have hi' : i < m := by
    have := (List.getElem?_eq_some_iff.1 hi).1
    rw [List.length_take] at this
    omega
  rw [List.getElem?_take_of_lt hi', List.getElem?_drop] at hi
  exact ⟨g, a, rfl, rfl, h.cell hi⟩
theorem Its.sub {H : Heap} {g n c a m : Nat} {xs : List Sp.Item} (h : Its H (some g) (.slice (some ⟨g, 0, none⟩) n c) xs) (hm : a + m ≤ xs.length) : RdsI H (some g) (.slice (some ⟨g, a * 3, none⟩) m (c - a)) ((xs.drop a).take m) := by
  refine ⟨_, c - a, by rw [List.length_take, List.length_drop, Nat.min_eq_left (by omega)], fun i x hi => ?_⟩
  have hi' : i < m := by
    have := (List.getElem?_eq_some_iff.1 hi).1
    rw [List.length_take] at this
    omega
  rw [List.getElem?_take_of_lt hi', List.getElem?_drop] at hi
  obtain ⟨g', c', h1, h2, h3, h4, h5⟩ := h.read hi
  obtain rfl := Option.some.inj h1
  refine ⟨g, a * 3, rfl, rfl, ?_, ?_, ?_⟩
  · rw [show a * 3 + i * 3 = (a + i) * 3 by omega]; exact h3
  · rw [show a * 3 + i * 3 = (a + i) * 3 by omega]; exact h4
  · rw [show a * 3 + i * 3 = (a + i) * 3 by omega]; exact h5
theorem with_ok {H : Heap} {B : Option Nat} {v : Value} {F : List Nat} {k : Nat} {K : Value → Heap → Prop} (hv : IR H B v (F.map Int.ofNat)) (hl : F.length ≤ 1000)
    (fin : ∀ H' B' v', IR H' B' v' ((insL F k).map Int.ofNat) → (∀ b, B' = some b → H.size ≤ b) → Fr (fun _ => False) H H' → K v' H') :
    CallsH Try.prog 28 #[v, .int .i64 (k : Nat)] H K := by
  obtain ⟨a, c, hva⟩ := hv.slice
  rw [List.length_map] at hva
  refine call28 (by simp) ?_
  simp only [Try.f28, Option.getD_some]
  repeat' (first
    | (with_reducible first | refine seq_normal ?_ | (refine hK _ _ ?_; clear hK K) | refine x_seq (fun K hK => ?_) | refine x_nil ?_ | refine x_block ?_ | refine x_skip ?_ | refine x_exit ?_ | refine x_ret ?_ | refine x_label ?_ | refine x_scope ?_ | (refine seq_ret ?_; clear hK K) | (refine seq_exit ?_; clear hK K) | refine block_normal ?_ | refine block_ret ?_ | refine block_exit ?_ | refine loop_exit ?_ | refine loop_ret ?_)
    | ((with_reducible refine x_reg_lit ?hq ?_); case hq => rfl)
    | ((first | (with_reducible first | refine x_op (fun K hK => ?_) | refine end_ret ?_ | refine end_normal ?_) | ((with_reducible refine x_guard_yes ?hy (fun K hK => ?_)); case hy => rfl)); simp only [go_sem, Int.cast_ofNat_Int, Nat.reduceEqDiff, Nat.reduceAdd, Nat.reduceMul, Nat.reduceLeDiff, Nat.reduceLT, Int.reduceLT, Int.reduceLE, Int.reduceEq, Int.reduceNeg, Int.reduceToNat, Nat.reducePow, reduceIte, reduceCtorEq])
    | ((with_reducible first | refine x_guard_no ?hy ?_ | refine x_cond_true ?hy ?_); case hy => rfl)
    | ((with_reducible first | refine x_guard_none ?hy ?_ | refine x_cond_false ?hy ?_); case hy => rfl)
    | ((with_reducible refine block_exit_ne ?hy ?_); case hy => decide))
  refine x_loop (fun m e' H' => ∃ (i : Nat) (b : Bool) (os : List Nat) (B5 : Option Nat) (v5 : Value), e' 5 = v5 ∧ e' 6 = .bool b ∧ e' 7 = .int .i64 (i : Nat) ∧ IR H' B5 v5 (os.map Int.ofNat) ∧ (∀ b, B5 = some b → H.size ≤ b) ∧ Fr (fun _ => False) H H' ∧
      (b = false → os = F.take i ∧ ∀ x ∈ os, x < k) ∧ (b = true → os ++ F.drop i = insL F k) ∧ os.length ≤ i + 1 ∧ i ≤ F.length ∧ m = F.length - i) F.length
    ⟨0, false, [], none, _, rfl, rfl, rfl, IR.nil H, (fun b h => by cases h), .refl _ _, (fun _ => ⟨rfl, fun x h => by cases h⟩), (fun h => by cases h), by simp, by omega, rfl⟩ ?_
  rintro m e1 H1 ⟨i, b, os, B5, v5, i5, i6, i7, hi5, hB5, hf1, h1, h2, hol, hil, rfl⟩ hoff
  have i0 := (hoff 0 rfl).trans rfl
  have i1 := (hoff 1 rfl).trans rfl
  clear hoff
  have i0' := i0.trans hva
  have grow : ∀ {H' : Heap}, Fr (fun b => B5 = some b) H1 H' → Fr (fun _ => False) H H' := fun h => hf1.trans' h fun b hb e => by have := hB5 b e; omega
  by_cases hlt : i < F.length
  · obtain ⟨x, hx⟩ : ∃ x, F[i]? = some x := ⟨_, List.getElem?_eq_getElem hlt⟩
    obtain ⟨g, c', hB, hvg, hr, _⟩ := (hv.frame hf1 (fun _ _ h => h)).rowAt (i := i) (by rw [List.length_map]; exact hlt)
    rw [List.length_map] at hvg
    have i0g := i0.trans hvg
    have cx := hr i (x : Int) (by rw [List.getElem?_map, hx]; rfl)
    have ew : IntKind.i64.wrap ((i : Int) + 1) = ((i + 1 : Nat) : Int) := by rw [wrap_i64] <;> omega
    have hd : F.drop i = x :: F.drop (i + 1) := drop_cons hx
    have ht : F.take (i + 1) = F.take i ++ [x] := by rw [List.take_add_one, hx]; rfl
    have hF : F = F.take i ++ x :: F.drop (i + 1) := by rw [← hd, List.take_append_drop]
    have lt5 : ∀ {b : Nat}, B = some b → b < H1.size := fun hb => (hv.frame hf1 (fun _ _ h => h)).lt hb
    have apart : ∀ {H' : Heap}, Fr (fun b => B5 = some b) H1 H' → hcell H' ⟨g, i, none⟩ = some (.int .i64 (x : Nat)) := fun h => by
      rw [h.cell (hcell_lt cx) ?_]
      · exact cx
      · intro e
        have h1 : H.size ≤ g := hB5 _ e
        have h2 := hv.lt hB
        omega
    have newB : ∀ {H2 : Heap} {B' : Option Nat}, H.size ≤ H2.size → (B' = B5 ∨ ∃ g, B' = some g ∧ H2.size ≤ g) → ∀ b, B' = some b → H.size ≤ b := fun hs h b hb => by
      rcases h with h | ⟨g', q1, q2⟩
      · exact hB5 b (h ▸ hb)
      · rw [q1] at hb
        obtain rfl := Option.some.inj hb
        omega
    have hs1 := hf1.size
    cases b with
    | true =>
      have h2' := h2 rfl
      repeat' (first
        | (with_reducible first | refine seq_normal ?_ | (refine hK _ _ ?_; clear hK K) | refine x_seq (fun K hK => ?_) | refine x_nil ?_ | refine x_block ?_ | refine x_skip ?_ | refine x_exit ?_ | refine x_ret ?_ | refine x_label ?_ | refine x_scope ?_ | (refine seq_ret ?_; clear hK K) | (refine seq_exit ?_; clear hK K) | refine block_normal ?_ | refine block_ret ?_ | refine block_exit ?_ | refine loop_exit ?_ | refine loop_ret ?_)
        | ((with_reducible refine x_reg_lit ?hq ?_); case hq => rfl)
        | ((first | (with_reducible first | refine x_op (fun K hK => ?_) | refine end_ret ?_ | refine end_normal ?_) | ((with_reducible refine x_guard_yes ?hy (fun K hK => ?_)); case hy => rfl)); simp only [go_sem, Int.cast_ofNat_Int, Nat.reduceEqDiff, Nat.reduceAdd, Nat.reduceMul, Nat.reduceLeDiff, Nat.reduceLT, Int.reduceLT, Int.reduceLE, Int.reduceEq, Int.reduceNeg, Int.reduceToNat, Nat.reducePow, reduceIte, reduceCtorEq, i0g, i1, i5, i6, i7, hlt, cx])
        | ((with_reducible first | refine x_guard_no ?hy ?_ | refine x_cond_true ?hy ?_); case hy => rfl)
        | ((with_reducible first | refine x_guard_none ?hy ?_ | refine x_cond_false ?hy ?_); case hy => rfl)
        | ((with_reducible refine block_exit_ne ?hy ?_); case hy => decide))
      refine append_ir elems23 tl3 hi5 rfl (by decide) (by simp; omega) rfl ?_
      intro v' H2 B' hi2 hf2 hB2
      repeat' (first
        | (with_reducible first | refine seq_normal ?_ | (refine hK _ _ ?_; clear hK K) | refine x_seq (fun K hK => ?_) | refine x_nil ?_ | refine x_block ?_ | refine x_skip ?_ | refine x_exit ?_ | refine x_ret ?_ | refine x_label ?_ | refine x_scope ?_ | (refine seq_ret ?_; clear hK K) | (refine seq_exit ?_; clear hK K) | refine block_normal ?_ | refine block_ret ?_ | refine block_exit ?_ | refine loop_exit ?_ | refine loop_ret ?_)
        | ((with_reducible refine x_reg_lit ?hq ?_); case hq => rfl)
        | ((first | (with_reducible first | refine x_op (fun K hK => ?_) | refine end_ret ?_ | refine end_normal ?_) | ((with_reducible refine x_guard_yes ?hy (fun K hK => ?_)); case hy => rfl)); simp only [go_sem, Int.cast_ofNat_Int, Nat.reduceEqDiff, Nat.reduceAdd, Nat.reduceMul, Nat.reduceLeDiff, Nat.reduceLT, Int.reduceLT, Int.reduceLE, Int.reduceEq, Int.reduceNeg, Int.reduceToNat, Nat.reducePow, reduceIte, reduceCtorEq, i7, ew])
        | ((with_reducible first | refine x_guard_no ?hy ?_ | refine x_cond_true ?hy ?_); case hy => rfl)
        | ((with_reducible first | refine x_guard_none ?hy ?_ | refine x_cond_false ?hy ?_); case hy => rfl)
        | ((with_reducible refine block_exit_ne ?hy ?_); case hy => decide))
      refine loop_normal (m' := F.length - (i + 1)) (by omega) ⟨i + 1, true, os ++ [x], B', v', rfl, rfl, rfl, by simpa using hi2, newB hs1 hB2, grow hf2, (fun h => by cases h), (fun _ => ?_), by simp; omega, by omega, rfl⟩
      rw [← h2', hd]; simp
    | false =>
      obtain ⟨hos, hltk⟩ := h1 rfl
      have hins : insL F k = F.take i ++ insL (x :: F.drop (i + 1)) k := by
        conv => lhs; rw [hF]
        exact insL_lt (by rw [← hos]; exact hltk)
      by_cases hgt : k < x
      · have g1 : ((k : Int) < (x : Int)) = True := by simp [hgt]
        have g1' : (k < x) = True := by simp [hgt]
        repeat' (first
          | (with_reducible first | refine seq_normal ?_ | (refine hK _ _ ?_; clear hK K) | refine x_seq (fun K hK => ?_) | refine x_nil ?_ | refine x_block ?_ | refine x_skip ?_ | refine x_exit ?_ | refine x_ret ?_ | refine x_label ?_ | refine x_scope ?_ | (refine seq_ret ?_; clear hK K) | (refine seq_exit ?_; clear hK K) | refine block_normal ?_ | refine block_ret ?_ | refine block_exit ?_ | refine loop_exit ?_ | refine loop_ret ?_)
          | ((with_reducible refine x_reg_lit ?hq ?_); case hq => rfl)
          | ((first | (with_reducible first | refine x_op (fun K hK => ?_) | refine end_ret ?_ | refine end_normal ?_) | ((with_reducible refine x_guard_yes ?hy (fun K hK => ?_)); case hy => rfl)); simp only [go_sem, Int.cast_ofNat_Int, Nat.reduceEqDiff, Nat.reduceAdd, Nat.reduceMul, Nat.reduceLeDiff, Nat.reduceLT, Int.reduceLT, Int.reduceLE, Int.reduceEq, Int.reduceNeg, Int.reduceToNat, Nat.reducePow, reduceIte, reduceCtorEq, i0g, i1, i5, i6, i7, hlt, cx, g1, g1'])
          | ((with_reducible first | refine x_guard_no ?hy ?_ | refine x_cond_true ?hy ?_); case hy => rfl)
          | ((with_reducible first | refine x_guard_none ?hy ?_ | refine x_cond_false ?hy ?_); case hy => rfl)
          | ((with_reducible refine block_exit_ne ?hy ?_); case hy => decide))
        refine append_ir elems23 tl3 hi5 rfl (by decide) (by simp; omega) rfl ?_
        intro v' H2 B' hi2 hf2 hB2
        have cx2 := apart hf2
        repeat' (first
          | (with_reducible first | refine seq_normal ?_ | (refine hK _ _ ?_; clear hK K) | refine x_seq (fun K hK => ?_) | refine x_nil ?_ | refine x_block ?_ | refine x_skip ?_ | refine x_exit ?_ | refine x_ret ?_ | refine x_label ?_ | refine x_scope ?_ | (refine seq_ret ?_; clear hK K) | (refine seq_exit ?_; clear hK K) | refine block_normal ?_ | refine block_ret ?_ | refine block_exit ?_ | refine loop_exit ?_ | refine loop_ret ?_)
          | ((with_reducible refine x_reg_lit ?hq ?_); case hq => rfl)
          | ((first | (with_reducible first | refine x_op (fun K hK => ?_) | refine end_ret ?_ | refine end_normal ?_) | ((with_reducible refine x_guard_yes ?hy (fun K hK => ?_)); case hy => rfl)); simp only [go_sem, Int.cast_ofNat_Int, Nat.reduceEqDiff, Nat.reduceAdd, Nat.reduceMul, Nat.reduceLeDiff, Nat.reduceLT, Int.reduceLT, Int.reduceLE, Int.reduceEq, Int.reduceNeg, Int.reduceToNat, Nat.reducePow, reduceIte, reduceCtorEq, i0g, i1, i6, i7, hlt, cx2])
          | ((with_reducible first | refine x_guard_no ?hy ?_ | refine x_cond_true ?hy ?_); case hy => rfl)
          | ((with_reducible first | refine x_guard_none ?hy ?_ | refine x_cond_false ?hy ?_); case hy => rfl)
          | ((with_reducible refine block_exit_ne ?hy ?_); case hy => decide))
        refine append_ir elems23 tl3 hi2 rfl (by decide) (by simp; omega) rfl ?_
        intro v'' H3 B'' hi3 hf3 hB3
        have hB2' := newB hs1 hB2
        have hf2' := grow hf2
        have hs2 := hf2'.size
        repeat' (first
          | (with_reducible first | refine seq_normal ?_ | (refine hK _ _ ?_; clear hK K) | refine x_seq (fun K hK => ?_) | refine x_nil ?_ | refine x_block ?_ | refine x_skip ?_ | refine x_exit ?_ | refine x_ret ?_ | refine x_label ?_ | refine x_scope ?_ | (refine seq_ret ?_; clear hK K) | (refine seq_exit ?_; clear hK K) | refine block_normal ?_ | refine block_ret ?_ | refine block_exit ?_ | refine loop_exit ?_ | refine loop_ret ?_)
          | ((with_reducible refine x_reg_lit ?hq ?_); case hq => rfl)
          | ((first | (with_reducible first | refine x_op (fun K hK => ?_) | refine end_ret ?_ | refine end_normal ?_) | ((with_reducible refine x_guard_yes ?hy (fun K hK => ?_)); case hy => rfl)); simp only [go_sem, Int.cast_ofNat_Int, Nat.reduceEqDiff, Nat.reduceAdd, Nat.reduceMul, Nat.reduceLeDiff, Nat.reduceLT, Int.reduceLT, Int.reduceLE, Int.reduceEq, Int.reduceNeg, Int.reduceToNat, Nat.reducePow, reduceIte, reduceCtorEq, i7, ew])
          | ((with_reducible first | refine x_guard_no ?hy ?_ | refine x_cond_true ?hy ?_); case hy => rfl)
          | ((with_reducible first | refine x_guard_none ?hy ?_ | refine x_cond_false ?hy ?_); case hy => rfl)
          | ((with_reducible refine block_exit_ne ?hy ?_); case hy => decide))
        refine loop_normal (m' := F.length - (i + 1)) (by omega) ⟨i + 1, true, os ++ [k] ++ [x], B'', v'', rfl, rfl, rfl, by simpa using hi3, ?_, hf2'.trans' hf3 (fun b hb e => by have := hB2' b e; omega), (fun h => by cases h), (fun _ => ?_), ?_, by omega, rfl⟩
        · intro b hb
          rcases hB3 with h | ⟨g', q1, q2⟩
          · exact hB2' b (h ▸ hb)
          · rw [q1] at hb
            obtain rfl := Option.some.inj hb
            omega
        · rw [hins, hos]
          show _ = F.take i ++ (if k < x then k :: x :: F.drop (i + 1) else if x = k then x :: F.drop (i + 1) else x :: insL (F.drop (i + 1)) k)
          rw [if_pos hgt]; simp
        · rw [hos]; simp; omega
      · have g1 : ((k : Int) < (x : Int)) = False := by simp [hgt]
        have g1' : (k < x) = False := by simp [hgt]
        by_cases heq : x = k
        · have g2 : ((x : Int) == (k : Int)) = true := by simp [heq]
          repeat' (first
            | (with_reducible first | refine seq_normal ?_ | (refine hK _ _ ?_; clear hK K) | refine x_seq (fun K hK => ?_) | refine x_nil ?_ | refine x_block ?_ | refine x_skip ?_ | refine x_exit ?_ | refine x_ret ?_ | refine x_label ?_ | refine x_scope ?_ | (refine seq_ret ?_; clear hK K) | (refine seq_exit ?_; clear hK K) | refine block_normal ?_ | refine block_ret ?_ | refine block_exit ?_ | refine loop_exit ?_ | refine loop_ret ?_)
            | ((with_reducible refine x_reg_lit ?hq ?_); case hq => rfl)
            | ((first | (with_reducible first | refine x_op (fun K hK => ?_) | refine end_ret ?_ | refine end_normal ?_) | ((with_reducible refine x_guard_yes ?hy (fun K hK => ?_)); case hy => rfl)); simp only [go_sem, Int.cast_ofNat_Int, Nat.reduceEqDiff, Nat.reduceAdd, Nat.reduceMul, Nat.reduceLeDiff, Nat.reduceLT, Int.reduceLT, Int.reduceLE, Int.reduceEq, Int.reduceNeg, Int.reduceToNat, Nat.reducePow, reduceIte, reduceCtorEq, i0g, i1, i5, i6, i7, hlt, cx, g1, g1', g2])
            | ((with_reducible first | refine x_guard_no ?hy ?_ | refine x_cond_true ?hy ?_); case hy => rfl)
            | ((with_reducible first | refine x_guard_none ?hy ?_ | refine x_cond_false ?hy ?_); case hy => rfl)
            | ((with_reducible refine block_exit_ne ?hy ?_); case hy => decide))
          refine append_ir elems23 tl3 hi5 rfl (by decide) (by simp; omega) rfl ?_
          intro v' H2 B' hi2 hf2 hB2
          repeat' (first
            | (with_reducible first | refine seq_normal ?_ | (refine hK _ _ ?_; clear hK K) | refine x_seq (fun K hK => ?_) | refine x_nil ?_ | refine x_block ?_ | refine x_skip ?_ | refine x_exit ?_ | refine x_ret ?_ | refine x_label ?_ | refine x_scope ?_ | (refine seq_ret ?_; clear hK K) | (refine seq_exit ?_; clear hK K) | refine block_normal ?_ | refine block_ret ?_ | refine block_exit ?_ | refine loop_exit ?_ | refine loop_ret ?_)
            | ((with_reducible refine x_reg_lit ?hq ?_); case hq => rfl)
            | ((first | (with_reducible first | refine x_op (fun K hK => ?_) | refine end_ret ?_ | refine end_normal ?_) | ((with_reducible refine x_guard_yes ?hy (fun K hK => ?_)); case hy => rfl)); simp only [go_sem, Int.cast_ofNat_Int, Nat.reduceEqDiff, Nat.reduceAdd, Nat.reduceMul, Nat.reduceLeDiff, Nat.reduceLT, Int.reduceLT, Int.reduceLE, Int.reduceEq, Int.reduceNeg, Int.reduceToNat, Nat.reducePow, reduceIte, reduceCtorEq, i7, ew])
            | ((with_reducible first | refine x_guard_no ?hy ?_ | refine x_cond_true ?hy ?_); case hy => rfl)
            | ((with_reducible first | refine x_guard_none ?hy ?_ | refine x_cond_false ?hy ?_); case hy => rfl)
            | ((with_reducible refine block_exit_ne ?hy ?_); case hy => decide))
          refine loop_normal (m' := F.length - (i + 1)) (by omega) ⟨i + 1, true, os ++ [x], B', v', rfl, rfl, rfl, by simpa using hi2, newB hs1 hB2, grow hf2, (fun h => by cases h), (fun _ => ?_), by simp; omega, by omega, rfl⟩
          rw [hins, hos]
          show _ = F.take i ++ (if k < x then k :: x :: F.drop (i + 1) else if x = k then x :: F.drop (i + 1) else x :: insL (F.drop (i + 1)) k)
          rw [if_neg hgt, if_pos heq]; simp
        · have g2 : ((x : Int) == (k : Int)) = false := by simp; omega
          repeat' (first
            | (with_reducible first | refine seq_normal ?_ | (refine hK _ _ ?_; clear hK K) | refine x_seq (fun K hK => ?_) | refine x_nil ?_ | refine x_block ?_ | refine x_skip ?_ | refine x_exit ?_ | refine x_ret ?_ | refine x_label ?_ | refine x_scope ?_ | (refine seq_ret ?_; clear hK K) | (refine seq_exit ?_; clear hK K) | refine block_normal ?_ | refine block_ret ?_ | refine block_exit ?_ | refine loop_exit ?_ | refine loop_ret ?_)
            | ((with_reducible refine x_reg_lit ?hq ?_); case hq => rfl)
            | ((first | (with_reducible first | refine x_op (fun K hK => ?_) | refine end_ret ?_ | refine end_normal ?_) | ((with_reducible refine x_guard_yes ?hy (fun K hK => ?_)); case hy => rfl)); simp only [go_sem, Int.cast_ofNat_Int, Nat.reduceEqDiff, Nat.reduceAdd, Nat.reduceMul, Nat.reduceLeDiff, Nat.reduceLT, Int.reduceLT, Int.reduceLE, Int.reduceEq, Int.reduceNeg, Int.reduceToNat, Nat.reducePow, reduceIte, reduceCtorEq, i0g, i1, i5, i6, i7, hlt, cx, g1, g1', g2])
            | ((with_reducible first | refine x_guard_no ?hy ?_ | refine x_cond_true ?hy ?_); case hy => rfl)
            | ((with_reducible first | refine x_guard_none ?hy ?_ | refine x_cond_false ?hy ?_); case hy => rfl)
            | ((with_reducible refine block_exit_ne ?hy ?_); case hy => decide))
          refine append_ir elems23 tl3 hi5 rfl (by decide) (by simp; omega) rfl ?_
          intro v' H2 B' hi2 hf2 hB2
          repeat' (first
            | (with_reducible first | refine seq_normal ?_ | (refine hK _ _ ?_; clear hK K) | refine x_seq (fun K hK => ?_) | refine x_nil ?_ | refine x_block ?_ | refine x_skip ?_ | refine x_exit ?_ | refine x_ret ?_ | refine x_label ?_ | refine x_scope ?_ | (refine seq_ret ?_; clear hK K) | (refine seq_exit ?_; clear hK K) | refine block_normal ?_ | refine block_ret ?_ | refine block_exit ?_ | refine loop_exit ?_ | refine loop_ret ?_)
            | ((with_reducible refine x_reg_lit ?hq ?_); case hq => rfl)
            | ((first | (with_reducible first | refine x_op (fun K hK => ?_) | refine end_ret ?_ | refine end_normal ?_) | ((with_reducible refine x_guard_yes ?hy (fun K hK => ?_)); case hy => rfl)); simp only [go_sem, Int.cast_ofNat_Int, Nat.reduceEqDiff, Nat.reduceAdd, Nat.reduceMul, Nat.reduceLeDiff, Nat.reduceLT, Int.reduceLT, Int.reduceLE, Int.reduceEq, Int.reduceNeg, Int.reduceToNat, Nat.reducePow, reduceIte, reduceCtorEq, i7, ew])
            | ((with_reducible first | refine x_guard_no ?hy ?_ | refine x_cond_true ?hy ?_); case hy => rfl)
            | ((with_reducible first | refine x_guard_none ?hy ?_ | refine x_cond_false ?hy ?_); case hy => rfl)
            | ((with_reducible refine block_exit_ne ?hy ?_); case hy => decide))
          refine loop_normal (m' := F.length - (i + 1)) (by omega) ⟨i + 1, false, os ++ [x], B', v', rfl, rfl, rfl, by simpa using hi2, newB hs1 hB2, grow hf2, (fun _ => ⟨by rw [hos, ht], fun y hy => ?_⟩), (fun h => by cases h), by simp; omega, by omega, rfl⟩
          rcases List.mem_append.1 hy with hy | hy
          · exact hltk y hy
          · rw [List.mem_singleton.1 hy]; omega
  · have t1 : (i < F.length) = False := by simp; omega
    have hi' : i = F.length := by omega
    cases b with
    | true =>
      have h2' := h2 rfl
      rw [hi', List.drop_length, List.append_nil] at h2'
      repeat' (first
        | (with_reducible first | refine seq_normal ?_ | (refine hK _ _ ?_; clear hK K) | refine x_seq (fun K hK => ?_) | refine x_nil ?_ | refine x_block ?_ | refine x_skip ?_ | refine x_exit ?_ | refine x_ret ?_ | refine x_label ?_ | refine x_scope ?_ | (refine seq_ret ?_; clear hK K) | (refine seq_exit ?_; clear hK K) | refine block_normal ?_ | refine block_ret ?_ | refine block_exit ?_ | refine loop_exit ?_ | refine loop_ret ?_)
        | ((with_reducible refine x_reg_lit ?hq ?_); case hq => rfl)
        | ((first | (with_reducible first | refine x_op (fun K hK => ?_) | refine end_ret ?_ | refine end_normal ?_) | ((with_reducible refine x_guard_yes ?hy (fun K hK => ?_)); case hy => rfl)); simp only [go_sem, Int.cast_ofNat_Int, Nat.reduceEqDiff, Nat.reduceAdd, Nat.reduceMul, Nat.reduceLeDiff, Nat.reduceLT, Int.reduceLT, Int.reduceLE, Int.reduceEq, Int.reduceNeg, Int.reduceToNat, Nat.reducePow, reduceIte, reduceCtorEq, i0', i5, i6, i7, t1])
        | ((with_reducible first | refine x_guard_no ?hy ?_ | refine x_cond_true ?hy ?_); case hy => rfl)
        | ((with_reducible first | refine x_guard_none ?hy ?_ | refine x_cond_false ?hy ?_); case hy => rfl)
        | ((with_reducible refine block_exit_ne ?hy ?_); case hy => decide))
      rw [← h2'] at fin
      exact fin _ _ _ hi5 hB5 hf1
    | false =>
      obtain ⟨hos, hltk⟩ := h1 rfl
      rw [hi', List.take_length] at hos
      repeat' (first
        | (with_reducible first | refine seq_normal ?_ | (refine hK _ _ ?_; clear hK K) | refine x_seq (fun K hK => ?_) | refine x_nil ?_ | refine x_block ?_ | refine x_skip ?_ | refine x_exit ?_ | refine x_ret ?_ | refine x_label ?_ | refine x_scope ?_ | (refine seq_ret ?_; clear hK K) | (refine seq_exit ?_; clear hK K) | refine block_normal ?_ | refine block_ret ?_ | refine block_exit ?_ | refine loop_exit ?_ | refine loop_ret ?_)
        | ((with_reducible refine x_reg_lit ?hq ?_); case hq => rfl)
        | ((first | (with_reducible first | refine x_op (fun K hK => ?_) | refine end_ret ?_ | refine end_normal ?_) | ((with_reducible refine x_guard_yes ?hy (fun K hK => ?_)); case hy => rfl)); simp only [go_sem, Int.cast_ofNat_Int, Nat.reduceEqDiff, Nat.reduceAdd, Nat.reduceMul, Nat.reduceLeDiff, Nat.reduceLT, Int.reduceLT, Int.reduceLE, Int.reduceEq, Int.reduceNeg, Int.reduceToNat, Nat.reducePow, reduceIte, reduceCtorEq, i0', i1, i5, i6, i7, t1])
        | ((with_reducible first | refine x_guard_no ?hy ?_ | refine x_cond_true ?hy ?_); case hy => rfl)
        | ((with_reducible first | refine x_guard_none ?hy ?_ | refine x_cond_false ?hy ?_); case hy => rfl)
        | ((with_reducible refine block_exit_ne ?hy ?_); case hy => decide))
      refine append_ir elems23 tl3 hi5 rfl (by decide) (by simp; omega) rfl ?_
      intro v' H2 B' hi2 hf2 hB2
      have hins : insL F k = os ++ [k] := by
        have := insL_lt (F := os) (G := []) (k := k) hltk
        rw [List.append_nil, hos] at this
        rw [hos]; exact this
      repeat' (first
        | (with_reducible first | refine seq_normal ?_ | (refine hK _ _ ?_; clear hK K) | refine x_seq (fun K hK => ?_) | refine x_nil ?_ | refine x_block ?_ | refine x_skip ?_ | refine x_exit ?_ | refine x_ret ?_ | refine x_label ?_ | refine x_scope ?_ | (refine seq_ret ?_; clear hK K) | (refine seq_exit ?_; clear hK K) | refine block_normal ?_ | refine block_ret ?_ | refine block_exit ?_ | refine loop_exit ?_ | refine loop_ret ?_)
        | ((with_reducible refine x_reg_lit ?hq ?_); case hq => rfl)
        | ((first | (with_reducible first | refine x_op (fun K hK => ?_) | refine end_ret ?_ | refine end_normal ?_) | ((with_reducible refine x_guard_yes ?hy (fun K hK => ?_)); case hy => rfl)); simp only [go_sem, Int.cast_ofNat_Int, Nat.reduceEqDiff, Nat.reduceAdd, Nat.reduceMul, Nat.reduceLeDiff, Nat.reduceLT, Int.reduceLT, Int.reduceLE, Int.reduceEq, Int.reduceNeg, Int.reduceToNat, Nat.reducePow, reduceIte, reduceCtorEq])
        | ((with_reducible first | refine x_guard_no ?hy ?_ | refine x_cond_true ?hy ?_); case hy => rfl)
        | ((with_reducible first | refine x_guard_none ?hy ?_ | refine x_cond_false ?hy ?_); case hy => rfl)
        | ((with_reducible refine block_exit_ne ?hy ?_); case hy => decide))
      rw [hins] at fin
      refine fin _ _ _ (by simpa using hi2) (fun b hb => ?_) (grow hf2)
      rcases hB2 with h | ⟨g', q1, q2⟩
      · exact hB5 b (h ▸ hb)
      · rw [q1] at hb
        obtain rfl := Option.some.inj hb
        have := hf1.size
        omega
section
variable {H0 H : Heap} {e : Env} {Q : HX → Env → Heap → Prop} {f : Nat} {T : Nat → Prop} {S : Sq} {B : Option Nat} {v : Value} {all : List Nat}
/-- The items are read. -/
theorem pcOwn {go co : Nat} (hM : RM H0 H f T S B v all) (hr : S.rows = [all]) (hne : all ≠ [])
    (ho : Its H (some go) (.slice (some ⟨go, 0, none⟩) all.length co) (List.replicate all.length Sp.Item.zero)) (hgo : ∀ b, some go = some b → H0.size ≤ b ∧ ¬ T b ∧ B ≠ some b)
    (e11 : e 11 = .pointer (some ⟨f, 0, none⟩)) (e12 : e 12 = v) (e13 : e 13 = .slice (some ⟨go, 0, none⟩) all.length co) (e14 : e 14 = .int .i64 0)
    (hQ : ∀ e' H', (e' 2 = e 2 ∧ e' 3 = e 3 ∧ e' 11 = e 11 ∧ e' 12 = e 12 ∧ e' 13 = e 13) → RM H0 H' f T S B v all → Its H' (some go) (.slice (some ⟨go, 0, none⟩) all.length co) (all.map S.it) → Q .normal e' H') :
    codeX Try.prog [30, 36] (loopAt Try.f7.body 0) (blockQ 0 Q) e H := by
  obtain ⟨g, c, rfl, rfl, hc⟩ := hM.open hne
  have hlen : all.length ≤ 4096 := by have := hM.fo.len; rw [hr] at this; simpa using this
  have hxf : ∀ x ∈ all, x ∈ S.rows.flatten := fun x h => by rw [hr]; simpa using h
  obtain ⟨n, hn⟩ : ∃ n, n = all.length := ⟨_, rfl⟩
  rw [← hn] at hlen hM hc e12 e13 hQ ho
  refine x_loop (fun m e' H' => ∃ j : Nat, e' 14 = .int .i64 (j : Nat) ∧ RM H0 H' f T S (some g) (.slice (some ⟨g, 0, none⟩) n c) all ∧ Its H' (some go) (.slice (some ⟨go, 0, none⟩) n co) ((all.map S.it).take j ++ List.replicate (n - j) Sp.Item.zero) ∧ j ≤ n ∧ m = n - j) n ⟨0, e14, hM, by simpa using ho, Nat.zero_le _, rfl⟩ ?_
  rintro m e1 H1 ⟨j, i14, hM1, ho1, hj, rfl⟩ hoff
  have i11 := (hoff 11 rfl).trans e11
  have i12 := (hoff 12 rfl).trans e12
  have i13 := (hoff 13 rfl).trans e13
  have keep : e1 2 = e 2 ∧ e1 3 = e 3 ∧ e1 11 = e 11 ∧ e1 12 = e 12 ∧ e1 13 = e 13 := ⟨hoff 2 rfl, hoff 3 rfl, hoff 11 rfl, hoff 12 rfl, hoff 13 rfl⟩
  clear hoff e11 e12 e13 e14
  by_cases hlt : j < n
  · obtain ⟨w, hw⟩ : ∃ w, all[j]? = some w := ⟨_, List.getElem?_eq_getElem (by omega)⟩
    have cw := hM1.cell hw
    have ew : IntKind.i64.wrap ((j : Int) + 1) = ((j + 1 : Nat) : Int) := by rw [wrap_i64] <;> omega
    obtain ⟨x, hxw⟩ : ∃ x, x = S.it w := ⟨_, rfl⟩
    repeat' (first
      | (with_reducible first | refine seq_normal ?_ | (refine hK _ _ ?_; clear hK K) | refine x_seq (fun K hK => ?_) | refine x_nil ?_ | refine x_block ?_ | refine x_skip ?_ | refine x_exit ?_ | refine x_ret ?_ | refine x_label ?_ | refine x_scope ?_ | (refine seq_ret ?_; clear hK K) | (refine seq_exit ?_; clear hK K) | refine block_normal ?_ | refine block_ret ?_ | refine block_exit ?_ | refine loop_exit ?_ | refine loop_ret ?_)
      | ((with_reducible refine x_reg_lit ?hq ?_); case hq => rfl)
      | ((first | (with_reducible first | refine x_op (fun K hK => ?_) | refine end_ret ?_ | refine end_normal ?_) | ((with_reducible refine x_guard_yes ?hy (fun K hK => ?_)); case hy => rfl)); simp only [go_sem, Int.cast_ofNat_Int, Nat.reduceEqDiff, Nat.reduceAdd, Nat.reduceMul, Nat.reduceLeDiff, Nat.reduceLT, Int.reduceLT, Int.reduceLE, Int.reduceEq, Int.reduceNeg, Int.reduceToNat, Nat.reducePow, reduceIte, reduceCtorEq, i11, i12, i14, hlt, cw])
      | ((with_reducible first | refine x_guard_no ?hy ?_ | refine x_cond_true ?hy ?_); case hy => rfl)
      | ((with_reducible first | refine x_guard_none ?hy ?_ | refine x_cond_false ?hy ?_); case hy => rfl)
      | ((with_reducible refine block_exit_ne ?hy ?_); case hy => decide))
    refine m_get hM1.fo (hxf w (List.mem_of_getElem? hw)) ?_
    intro H2 hF2 hf2
    rw [← hxw]
    have hM2 := hM1.op hF2 hf2
    have ho2 := ho1.frame hf2 fun b hb => (hgo b hb).2.1
    have hs2 := ho2.lt rfl
    repeat' (first
      | (with_reducible first | refine seq_normal ?_ | (refine hK _ _ ?_; clear hK K) | refine x_seq (fun K hK => ?_) | refine x_nil ?_ | refine x_block ?_ | refine x_skip ?_ | refine x_exit ?_ | refine x_ret ?_ | refine x_label ?_ | refine x_scope ?_ | (refine seq_ret ?_; clear hK K) | (refine seq_exit ?_; clear hK K) | refine block_normal ?_ | refine block_ret ?_ | refine block_exit ?_ | refine loop_exit ?_ | refine loop_ret ?_)
      | ((with_reducible refine x_reg_lit ?hq ?_); case hq => rfl)
      | ((first | (with_reducible first | refine x_op (fun K hK => ?_) | refine end_ret ?_ | refine end_normal ?_) | ((with_reducible refine x_guard_yes ?hy (fun K hK => ?_)); case hy => rfl)); simp only [go_sem, Int.cast_ofNat_Int, Nat.reduceEqDiff, Nat.reduceAdd, Nat.reduceMul, Nat.reduceLeDiff, Nat.reduceLT, Int.reduceLT, Int.reduceLE, Int.reduceEq, Int.reduceNeg, Int.reduceToNat, Nat.reducePow, reduceIte, reduceCtorEq, Sp.Item.val, i11, i12, i13, i14, hlt, hcell_push, hcell_top, okW_push, okW_top, hcell_hset_ne, hcell_hset_off, hcell_hset_eq, okW_hset, hset_size, Array.size_push, Nat.lt_add_one, ne_add_one, add_one_ne, Nat.add_assoc, add_same, add_lt_same, Nat.reduceEqDiff, lt_add_k, add_k_ne, ne_add_k])
      | ((with_reducible first | refine x_guard_no ?hy ?_ | refine x_cond_true ?hy ?_); case hy => rfl)
      | ((with_reducible first | refine x_guard_none ?hy ?_ | refine x_cond_false ?hy ?_); case hy => rfl)
      | ((with_reducible refine block_exit_ne ?hy ?_); case hy => decide))
    have hp := ho2.frame (S := fun _ => False) (H' := H2.push (.cells #[.int .i64 0, .bool false, .int .i64 0] 31)) ((Fr.refl _ _).push _) (fun _ _ h => h)
    have hjl : j < ((all.map S.it).take j ++ List.replicate (n - j) Sp.Item.zero).length := by simp; omega
    obtain ⟨⟨w0, w1, w2⟩, _, _⟩ := hp.write hjl x
    refine ⟨w0, w1, w2, ?_⟩
    generalize hH3 : hset (hset (hset (H2.push _) ⟨H2.size, 0, none⟩ (.int .i64 x.value)) ⟨H2.size, 1, none⟩ (.bool x.counts)) ⟨H2.size, 2, none⟩ (.int .i64 x.flags) = H3
    have hf3 : Fr (fun _ => False) H2 H3 := by rw [← hH3]; exact (by ((repeat (first | refine Fr.set ?_ (by simp) _ | refine Fr.push ?_ _)); exact Fr.refl _ _))
    clear hH3
    have ho3 := ho2.frame hf3 fun _ _ h => h
    obtain ⟨_, ho4, hf4⟩ := ho3.write hjl x
    rw [set_step (by simp [hn]) (by rw [List.getElem?_map, hw, hxw]; rfl)] at ho4
    repeat' (first
      | (with_reducible first | refine seq_normal ?_ | (refine hK _ _ ?_; clear hK K) | refine x_seq (fun K hK => ?_) | refine x_nil ?_ | refine x_block ?_ | refine x_skip ?_ | refine x_exit ?_ | refine x_ret ?_ | refine x_label ?_ | refine x_scope ?_ | (refine seq_ret ?_; clear hK K) | (refine seq_exit ?_; clear hK K) | refine block_normal ?_ | refine block_ret ?_ | refine block_exit ?_ | refine loop_exit ?_ | refine loop_ret ?_)
      | ((with_reducible refine x_reg_lit ?hq ?_); case hq => rfl)
      | ((first | (with_reducible first | refine x_op (fun K hK => ?_) | refine end_ret ?_ | refine end_normal ?_) | ((with_reducible refine x_guard_yes ?hy (fun K hK => ?_)); case hy => rfl)); simp only [go_sem, Int.cast_ofNat_Int, Nat.reduceEqDiff, Nat.reduceAdd, Nat.reduceMul, Nat.reduceLeDiff, Nat.reduceLT, Int.reduceLT, Int.reduceLE, Int.reduceEq, Int.reduceNeg, Int.reduceToNat, Nat.reducePow, reduceIte, reduceCtorEq, i14, ew])
      | ((with_reducible first | refine x_guard_no ?hy ?_ | refine x_cond_true ?hy ?_); case hy => rfl)
      | ((with_reducible first | refine x_guard_none ?hy ?_ | refine x_cond_false ?hy ?_); case hy => rfl)
      | ((with_reducible refine block_exit_ne ?hy ?_); case hy => decide))
    exact loop_normal (m' := n - (j + 1)) (by omega) ⟨j + 1, rfl, (hM2.grow hf3).other hf4 hgo, ho4, by omega, rfl⟩
  · have t1 : (j < n) = False := by simp; omega
    have hj' : j = n := by omega
    subst hj'
    repeat' (first
      | (with_reducible first | refine seq_normal ?_ | (refine hK _ _ ?_; clear hK K) | refine x_seq (fun K hK => ?_) | refine x_nil ?_ | refine x_block ?_ | refine x_skip ?_ | refine x_exit ?_ | refine x_ret ?_ | refine x_label ?_ | refine x_scope ?_ | (refine seq_ret ?_; clear hK K) | (refine seq_exit ?_; clear hK K) | refine block_normal ?_ | refine block_ret ?_ | refine block_exit ?_ | refine loop_exit ?_ | refine loop_ret ?_)
      | ((with_reducible refine x_reg_lit ?hq ?_); case hq => rfl)
      | ((first | (with_reducible first | refine x_op (fun K hK => ?_) | refine end_ret ?_ | refine end_normal ?_) | ((with_reducible refine x_guard_yes ?hy (fun K hK => ?_)); case hy => rfl)); simp only [go_sem, Int.cast_ofNat_Int, Nat.reduceEqDiff, Nat.reduceAdd, Nat.reduceMul, Nat.reduceLeDiff, Nat.reduceLT, Int.reduceLT, Int.reduceLE, Int.reduceEq, Int.reduceNeg, Int.reduceToNat, Nat.reducePow, reduceIte, reduceCtorEq, i12, i14, t1])
      | ((with_reducible first | refine x_guard_no ?hy ?_ | refine x_cond_true ?hy ?_); case hy => rfl)
      | ((with_reducible first | refine x_guard_none ?hy ?_ | refine x_cond_false ?hy ?_); case hy => rfl)
      | ((with_reducible refine block_exit_ne ?hy ?_); case hy => decide))
    rw [List.take_of_length_le (by simp; omega), Nat.sub_self, List.replicate_zero, List.append_nil] at ho1
    exact hQ _ _ keep hM1 ho1
/-- Where it is cut. -/
structure Cuts (all F : List Nat) : Prop where
  head : ∃ F', F = 0 :: F'
  rise : Rising F
  lt : ∀ x ∈ F, x < all.length
theorem Cuts.ins {all F : List Nat} {k : Nat} (h : Cuts all F) (hk : k < all.length) : Cuts all (insL F k) :=
  ⟨insL_head h.head, insL_rising h.rise, fun x hx => by
    rcases insL_mem.1 hx with rfl | hx
    · exact hk
    · exact h.lt x hx⟩
theorem insL_same : ∀ {F : List Nat} {k : Nat}, Rising F → k ∈ F → insL F k = F
  | x :: F, k, h, hk => by
    unfold insL
    rcases List.mem_cons.1 hk with rfl | hk
    · rw [if_neg (by omega), if_pos rfl]
    · have := rising_lt h k hk
      rw [if_neg (by omega), if_neg (by omega), insL_same (rising_tail h) hk]
theorem pcCut {a : Option Addr} {len cap : Nat} {zs : Nat → Int} {Bo B17 : Option Nat} {vo v17 : Value} (hin : InInts H0 a len zs) (hl : len ≤ 9223372036854775807) (hM : RM H0 H f T S B v all) (hr : S.rows = [all]) (hne : all ≠ [])
    (ho : Its H Bo vo (all.map S.it)) (hBo : ∀ b, Bo = some b → H0.size ≤ b ∧ ¬ T b) (h17 : IR H B17 v17 [0]) (hB17 : ∀ b, B17 = some b → H0.size ≤ b ∧ ¬ T b)
    (e2 : e 2 = .slice a len cap) (e11 : e 11 = .pointer (some ⟨f, 0, none⟩)) (e12 : e 12 = v) (e17 : e 17 = v17) (e18 : e 18 = .int .i64 0)
    (hQ : ∀ e' H' S' F B' v', (e' 3 = e 3 ∧ e' 11 = e 11 ∧ e' 12 = e 12 ∧ e' 13 = e 13) → e' 17 = v' → RM H0 H' f T S' B v all → S'.rows = segs all F → S'.it = S.it → Cuts all F → F.length ≤ 21 → Its H' Bo vo (all.map S.it) → IR H' B' v' (F.map Int.ofNat) → (∀ b, B' = some b → H0.size ≤ b ∧ ¬ T b) → Q .normal e' H') :
    codeX Try.prog [30, 36] (loopAt Try.f7.body 1) (blockQ 2 Q) e H := by
  obtain ⟨g, c, rfl, rfl, hc⟩ := hM.open hne
  have hpos := List.length_pos_iff.2 hne
  obtain ⟨n, hn⟩ : ∃ n, n = all.length := ⟨_, rfl⟩
  rw [← hn] at hM hc e12 hQ hpos
  refine x_loop (fun m e' H' => ∃ (i : Nat) (S' : Sq) (F : List Nat) (B' : Option Nat) (v' : Value), e' 17 = v' ∧ e' 18 = .int .i64 (i : Nat) ∧ RM H0 H' f T S' (some g) (.slice (some ⟨g, 0, none⟩) n c) all ∧ S'.rows.Perm (segs all F) ∧ S'.it = S.it ∧ Cuts all F ∧ F.length ≤ i + 1 ∧
      Its H' Bo vo (all.map S.it) ∧ IR H' B' v' (F.map Int.ofNat) ∧ (∀ b, B' = some b → H0.size ≤ b ∧ ¬ T b) ∧ i ≤ 20 ∧ i ≤ len ∧ m = 20 - i) 20
    ⟨0, S, [0], B17, v17, e17, e18, hM, by rw [hr]; exact .refl _, rfl, ⟨⟨[], rfl⟩, trivial, fun x hx => by rw [List.mem_singleton.1 hx]; omega⟩, by simp, ho, h17, hB17, by omega, by omega, rfl⟩ ?_
  rintro m e1 H1 ⟨i, S1, F, B', v', i17, i18, hM1, hp, hit, hcut, hFl, ho1, h17', hB', hi20, hil, rfl⟩ hoff
  have i2 := (hoff 2 rfl).trans e2
  have i11 := (hoff 11 rfl).trans e11
  have i12 := (hoff 12 rfl).trans e12
  have keep : e1 3 = e 3 ∧ e1 11 = e 11 ∧ e1 12 = e 12 ∧ e1 13 = e 13 := ⟨hoff 3 rfl, hoff 11 rfl, hoff 12 rfl, hoff 13 rfl⟩
  clear hoff e2 e11 e12 e17 e18
  by_cases hgo : i < len ∧ i < 20
  · have t1 : (i < len) = True := by simp [hgo.1]
    have t2 : ((i : Int) < 20) = True := by simp; omega
    obtain ⟨p, rfl, cz, hz1, hz2⟩ := (hin.frame hM1.fr) i hgo.1
    obtain ⟨r0, r1⟩ := pickN_range (zs i) (n := (n : Int)) (by omega)
    obtain ⟨k, ek⟩ := Int.eq_ofNat_of_zero_le r0
    have hk : k < n := by omega
    obtain ⟨x, hxk⟩ : ∃ x, all[k]? = some x := ⟨_, List.getElem?_eq_getElem (by omega)⟩
    have cx := hM1.cell hxk
    have ew : IntKind.i64.wrap ((i : Int) + 1) = ((i + 1 : Nat) : Int) := by rw [wrap_i64] <;> omega
    have hcut' := hcut.ins (k := k) (by omega)
    have hlen' := insL_length F k
    have fin : ∀ {H2 : Heap} {S2 : Sq} {e2 : Env}, RM H0 H2 f T S2 (some g) (.slice (some ⟨g, 0, none⟩) n c) all → S2.rows.Perm (segs all (insL F k)) → S2.it = S.it → Its H2 Bo vo (all.map S.it) → IR H2 B' v' (F.map Int.ofNat) → True := fun _ _ _ _ _ => trivial
    repeat' (first
      | (with_reducible first | refine seq_normal ?_ | (refine hK _ _ ?_; clear hK K) | refine x_seq (fun K hK => ?_) | refine x_nil ?_ | refine x_block ?_ | refine x_skip ?_ | refine x_exit ?_ | refine x_ret ?_ | refine x_label ?_ | refine x_scope ?_ | (refine seq_ret ?_; clear hK K) | (refine seq_exit ?_; clear hK K) | refine block_normal ?_ | refine block_ret ?_ | refine block_exit ?_ | refine loop_exit ?_ | refine loop_ret ?_)
      | ((with_reducible refine x_reg_lit ?hq ?_); case hq => rfl)
      | ((first | (with_reducible first | refine x_op (fun K hK => ?_) | refine end_ret ?_ | refine end_normal ?_) | ((with_reducible refine x_guard_yes ?hy (fun K hK => ?_)); case hy => rfl)); simp only [go_sem, Int.cast_ofNat_Int, Nat.reduceEqDiff, Nat.reduceAdd, Nat.reduceMul, Nat.reduceLeDiff, Nat.reduceLT, Int.reduceLT, Int.reduceLE, Int.reduceEq, Int.reduceNeg, Int.reduceToNat, Nat.reducePow, reduceIte, reduceCtorEq, i2, i11, i12, i17, i18, t1, t2, cz])
      | ((with_reducible first | refine x_guard_no ?hy ?_ | refine x_cond_true ?hy ?_); case hy => rfl)
      | ((with_reducible first | refine x_guard_none ?hy ?_ | refine x_cond_false ?hy ?_); case hy => rfl)
      | ((with_reducible refine block_exit_ne ?hy ?_); case hy => decide))
    refine Pkisthmuslaw03.pick_ok hz1 hz2 (by omega) ?_
    rw [ek]
    repeat' (first
      | (with_reducible first | refine seq_normal ?_ | (refine hK _ _ ?_; clear hK K) | refine x_seq (fun K hK => ?_) | refine x_nil ?_ | refine x_block ?_ | refine x_skip ?_ | refine x_exit ?_ | refine x_ret ?_ | refine x_label ?_ | refine x_scope ?_ | (refine seq_ret ?_; clear hK K) | (refine seq_exit ?_; clear hK K) | refine block_normal ?_ | refine block_ret ?_ | refine block_exit ?_ | refine loop_exit ?_ | refine loop_ret ?_)
      | ((with_reducible refine x_reg_lit ?hq ?_); case hq => rfl)
      | ((first | (with_reducible first | refine x_op (fun K hK => ?_) | refine end_ret ?_ | refine end_normal ?_) | ((with_reducible refine x_guard_yes ?hy (fun K hK => ?_)); case hy => rfl)); simp only [go_sem, Int.cast_ofNat_Int, Nat.reduceEqDiff, Nat.reduceAdd, Nat.reduceMul, Nat.reduceLeDiff, Nat.reduceLT, Int.reduceLT, Int.reduceLE, Int.reduceEq, Int.reduceNeg, Int.reduceToNat, Nat.reducePow, reduceIte, reduceCtorEq, i2, i11, i12, i17, i18, hk, cx])
      | ((with_reducible first | refine x_guard_no ?hy ?_ | refine x_cond_true ?hy ?_); case hy => rfl)
      | ((with_reducible first | refine x_guard_none ?hy ?_ | refine x_cond_false ?hy ?_); case hy => rfl)
      | ((with_reducible refine block_exit_ne ?hy ?_); case hy => decide))
    by_cases hkF : k ∈ F
    case' pos =>
      obtain ⟨r, hxr⟩ := segs_first hcut.rise hkF hxk
      refine m_split_first (k := x) (r := r) hM1.fo (hp.mem_iff.2 hxr) ?_
      intro H2 hF2 hf2
      have hM2 := hM1.op hF2 hf2
      have hp2 : S1.rows.Perm (segs all (insL F k)) := by rw [insL_same hcut.rise hkF]; exact hp
    case' neg =>
      obtain ⟨F', hF'⟩ := hcut.head
      have hk0 : 0 < k := by
        rcases Nat.eq_zero_or_pos k with h | h
        · exact absurd (by rw [hF', h]; exact .head _) hkF
        · exact h
      obtain ⟨R, q, r, s1, s2, s3⟩ := segs_split hcut.rise hkF ⟨0, F', hF', hk0⟩ hxk
      refine m_split (k := x) (l := q) (r := r) (R := R) hM1.fo (hp.trans s1) s2 ?_
      intro H2 hF2 hf2
      have hM2 := hM1.op hF2 hf2
      have hp2 : ({ S1 with rows := q :: (x :: r) :: R } : Sq).rows.Perm (segs all (insL F k)) := s3.symm
    all_goals
      have ho2 := ho1.frame hf2 fun b hb => (hBo b hb).2
      have h172 := h17'.frame hf2 fun b hb => (hB' b hb).2
      repeat' (first
        | (with_reducible first | refine seq_normal ?_ | (refine hK _ _ ?_; clear hK K) | refine x_seq (fun K hK => ?_) | refine x_nil ?_ | refine x_block ?_ | refine x_skip ?_ | refine x_exit ?_ | refine x_ret ?_ | refine x_label ?_ | refine x_scope ?_ | (refine seq_ret ?_; clear hK K) | (refine seq_exit ?_; clear hK K) | refine block_normal ?_ | refine block_ret ?_ | refine block_exit ?_ | refine loop_exit ?_ | refine loop_ret ?_)
        | ((with_reducible refine x_reg_lit ?hq ?_); case hq => rfl)
        | ((first | (with_reducible first | refine x_op (fun K hK => ?_) | refine end_ret ?_ | refine end_normal ?_) | ((with_reducible refine x_guard_yes ?hy (fun K hK => ?_)); case hy => rfl)); simp only [go_sem, Int.cast_ofNat_Int, Nat.reduceEqDiff, Nat.reduceAdd, Nat.reduceMul, Nat.reduceLeDiff, Nat.reduceLT, Int.reduceLT, Int.reduceLE, Int.reduceEq, Int.reduceNeg, Int.reduceToNat, Nat.reducePow, reduceIte, reduceCtorEq, i2, i11, i12, i17, i18])
        | ((with_reducible first | refine x_guard_no ?hy ?_ | refine x_cond_true ?hy ?_); case hy => rfl)
        | ((with_reducible first | refine x_guard_none ?hy ?_ | refine x_cond_false ?hy ?_); case hy => rfl)
        | ((with_reducible refine block_exit_ne ?hy ?_); case hy => decide))
      refine with_ok h172 (by omega) ?_
      intro H3 B3 v3 h173 hB3 hf3
      have hM3 := hM2.grow hf3
      have ho3 := ho2.frame hf3 fun _ _ h => h
      have hs2 := hM2.fr.size
      repeat' (first
        | (with_reducible first | refine seq_normal ?_ | (refine hK _ _ ?_; clear hK K) | refine x_seq (fun K hK => ?_) | refine x_nil ?_ | refine x_block ?_ | refine x_skip ?_ | refine x_exit ?_ | refine x_ret ?_ | refine x_label ?_ | refine x_scope ?_ | (refine seq_ret ?_; clear hK K) | (refine seq_exit ?_; clear hK K) | refine block_normal ?_ | refine block_ret ?_ | refine block_exit ?_ | refine loop_exit ?_ | refine loop_ret ?_)
        | ((with_reducible refine x_reg_lit ?hq ?_); case hq => rfl)
        | ((first | (with_reducible first | refine x_op (fun K hK => ?_) | refine end_ret ?_ | refine end_normal ?_) | ((with_reducible refine x_guard_yes ?hy (fun K hK => ?_)); case hy => rfl)); simp only [go_sem, Int.cast_ofNat_Int, Nat.reduceEqDiff, Nat.reduceAdd, Nat.reduceMul, Nat.reduceLeDiff, Nat.reduceLT, Int.reduceLT, Int.reduceLE, Int.reduceEq, Int.reduceNeg, Int.reduceToNat, Nat.reducePow, reduceIte, reduceCtorEq, i18, ew])
        | ((with_reducible first | refine x_guard_no ?hy ?_ | refine x_cond_true ?hy ?_); case hy => rfl)
        | ((with_reducible first | refine x_guard_none ?hy ?_ | refine x_cond_false ?hy ?_); case hy => rfl)
        | ((with_reducible refine block_exit_ne ?hy ?_); case hy => decide))
      exact loop_normal (m' := 20 - (i + 1)) (by omega) ⟨i + 1, _, insL F k, B3, v3, rfl, rfl, hM3, hp2, hit, hcut', by omega, ho3, h173, fun b hb => ⟨by have := hB3 b hb; omega, fun h => by have := hM2.fo.lt h; have := hB3 b hb; omega⟩, by omega, by omega, rfl⟩
  · have hor : ¬ i < len ∨ (i < len ∧ ¬ i < 20) := by
      by_cases h : i < len
      · exact .inr ⟨h, fun h2 => hgo ⟨h, h2⟩⟩
      · exact .inl h
    rcases hor with h | ⟨h, h2⟩
    case' inl =>
      have t1 : (i < len) = False := by simp [h]
      repeat' (first
        | (with_reducible first | refine seq_normal ?_ | (refine hK _ _ ?_; clear hK K) | refine x_seq (fun K hK => ?_) | refine x_nil ?_ | refine x_block ?_ | refine x_skip ?_ | refine x_exit ?_ | refine x_ret ?_ | refine x_label ?_ | refine x_scope ?_ | (refine seq_ret ?_; clear hK K) | (refine seq_exit ?_; clear hK K) | refine block_normal ?_ | refine block_ret ?_ | refine block_exit ?_ | refine loop_exit ?_ | refine loop_ret ?_)
        | ((with_reducible refine x_reg_lit ?hq ?_); case hq => rfl)
        | ((first | (with_reducible first | refine x_op (fun K hK => ?_) | refine end_ret ?_ | refine end_normal ?_) | ((with_reducible refine x_guard_yes ?hy (fun K hK => ?_)); case hy => rfl)); simp only [go_sem, Int.cast_ofNat_Int, Nat.reduceEqDiff, Nat.reduceAdd, Nat.reduceMul, Nat.reduceLeDiff, Nat.reduceLT, Int.reduceLT, Int.reduceLE, Int.reduceEq, Int.reduceNeg, Int.reduceToNat, Nat.reducePow, reduceIte, reduceCtorEq, i2, i18, t1])
        | ((with_reducible first | refine x_guard_no ?hy ?_ | refine x_cond_true ?hy ?_); case hy => rfl)
        | ((with_reducible first | refine x_guard_none ?hy ?_ | refine x_cond_false ?hy ?_); case hy => rfl)
        | ((with_reducible refine block_exit_ne ?hy ?_); case hy => decide))
    case' inr =>
      have t1 : (i < len) = True := by simp [h]
      have t2 : ((i : Int) < 20) = False := by simp; omega
      repeat' (first
        | (with_reducible first | refine seq_normal ?_ | (refine hK _ _ ?_; clear hK K) | refine x_seq (fun K hK => ?_) | refine x_nil ?_ | refine x_block ?_ | refine x_skip ?_ | refine x_exit ?_ | refine x_ret ?_ | refine x_label ?_ | refine x_scope ?_ | (refine seq_ret ?_; clear hK K) | (refine seq_exit ?_; clear hK K) | refine block_normal ?_ | refine block_ret ?_ | refine block_exit ?_ | refine loop_exit ?_ | refine loop_ret ?_)
        | ((with_reducible refine x_reg_lit ?hq ?_); case hq => rfl)
        | ((first | (with_reducible first | refine x_op (fun K hK => ?_) | refine end_ret ?_ | refine end_normal ?_) | ((with_reducible refine x_guard_yes ?hy (fun K hK => ?_)); case hy => rfl)); simp only [go_sem, Int.cast_ofNat_Int, Nat.reduceEqDiff, Nat.reduceAdd, Nat.reduceMul, Nat.reduceLeDiff, Nat.reduceLT, Int.reduceLT, Int.reduceLE, Int.reduceEq, Int.reduceNeg, Int.reduceToNat, Nat.reducePow, reduceIte, reduceCtorEq, i2, i18, t1, t2])
        | ((with_reducible first | refine x_guard_no ?hy ?_ | refine x_cond_true ?hy ?_); case hy => rfl)
        | ((with_reducible first | refine x_guard_none ?hy ?_ | refine x_cond_false ?hy ?_); case hy => rfl)
        | ((with_reducible refine block_exit_ne ?hy ?_); case hy => decide))
    all_goals exact hQ _ _ _ F B' v' keep i17 (hM1.op (hM1.fo.perm hp) (.refl _ _)) rfl hit hcut (by omega) ho1 h17' hB'
theorem pcPieces {go co fl : Nat} {F : List Nat} {B17 : Option Nat} {v17 : Value} (hM : RM H0 H f T S B v all) (hr : S.rows = segs all F) (hne : all ≠ []) (hlen : all.length ≤ 4096) (hcut : Cuts all F) (hFl : F.length ≤ 21)
    (ho : Its H (some go) (.slice (some ⟨go, 0, none⟩) all.length co) (all.map S.it)) (hgo : H0.size ≤ go ∧ ¬ T go) (h17 : IR H B17 v17 (F.map Int.ofNat)) (hB17 : ∀ b, B17 = some b → H0.size ≤ b ∧ ¬ T b) (hfl : fl < 256)
    (e3 : e 3 = .int .i64 (fl : Nat)) (e11 : e 11 = .pointer (some ⟨f, 0, none⟩)) (e12 : e 12 = v) (e13 : e 13 = .slice (some ⟨go, 0, none⟩) all.length co) (e17 : e 17 = v17) (e21 : e 21 = .int .i64 0)
    (hQ : ∀ e' H', (e' 3 = e 3 ∧ e' 11 = e 11 ∧ e' 12 = e 12 ∧ e' 13 = e 13 ∧ e' 17 = e 17) → RM H0 H' f T S B v all → Its H' (some go) (.slice (some ⟨go, 0, none⟩) all.length co) (all.map S.it) → IR H' B17 v17 (F.map Int.ofNat) → Q .normal e' H') :
    codeX Try.prog [30, 36] (loopAt Try.f7.body 2) (blockQ 4 Q) e H := by
  obtain ⟨g, c, rfl, rfl, hc⟩ := hM.open hne
  obtain ⟨n, hn⟩ : ∃ n, n = all.length := ⟨_, rfl⟩
  rw [← hn] at hM hc e12 e13 hQ ho hlen
  obtain ⟨_, hco⟩ : True ∧ n ≤ co := by
    obtain ⟨_, h | ⟨g', c', rest, q1, q2, q3, q4, q5⟩⟩ := ho
    · cases h.1
    · simp only [Value.slice.injEq] at q2
      obtain ⟨_, q21, q22⟩ := q2
      rw [List.length_map, ← hn] at q5
      exact ⟨trivial, by omega⟩
  refine x_loop (fun m e' H' => ∃ i : Nat, e' 21 = .int .i64 (i : Nat) ∧ RM H0 H' f T S (some g) (.slice (some ⟨g, 0, none⟩) n c) all ∧ Its H' (some go) (.slice (some ⟨go, 0, none⟩) n co) (all.map S.it) ∧ IR H' B17 v17 (F.map Int.ofNat) ∧ i ≤ F.length ∧ m = F.length - i) F.length
    ⟨0, e21, hM, ho, h17, Nat.zero_le _, rfl⟩ ?_
  rintro m e1 H1 ⟨i, i21, hM1, ho1, h171, hi, rfl⟩ hoff
  have i3 := (hoff 3 rfl).trans e3
  have i11 := (hoff 11 rfl).trans e11
  have i12 := (hoff 12 rfl).trans e12
  have i13 := (hoff 13 rfl).trans e13
  have i17 := (hoff 17 rfl).trans e17
  have keep : e1 3 = e 3 ∧ e1 11 = e 11 ∧ e1 12 = e 12 ∧ e1 13 = e 13 ∧ e1 17 = e 17 := ⟨hoff 3 rfl, hoff 11 rfl, hoff 12 rfl, hoff 13 rfl, hoff 17 rfl⟩
  clear hoff e3 e11 e12 e13 e17 e21
  by_cases hlt : i < F.length
  · obtain ⟨a, ha⟩ : ∃ a, F[i]? = some a := ⟨_, List.getElem?_eq_getElem hlt⟩
    have han : a < n := by rw [hn]; exact hcut.lt a (List.mem_of_getElem? ha)
    have ew : IntKind.i64.wrap ((i : Int) + 1) = ((i + 1 : Nat) : Int) := by rw [wrap_i64] <;> omega
    obtain ⟨g17, c17, hB', hv17, hr17, _⟩ := h171.rowAt (i := i) (by rw [List.length_map]; exact hlt)
    rw [List.length_map] at hv17
    have i17' := i17.trans hv17
    have ca := hr17 i (a : Int) (by rw [List.getElem?_map, ha]; rfl)
    have hsg := segs_get (l := all) ha
    have piece : ∀ (b : Nat), a < b → b ≤ n → ((all.drop a).take (b - a)) ∈ S.rows → ∀ K : Value → Heap → Prop, (∀ H', RM H0 H' f T S (some g) (.slice (some ⟨g, 0, none⟩) n c) all → Its H' (some go) (.slice (some ⟨go, 0, none⟩) n co) (all.map S.it) → IR H' B17 v17 (F.map Int.ofNat) → K (.bool true) H') →
        CallsH Try.prog 17 #[.pointer (some ⟨f, 0, none⟩), .slice (some ⟨g, a, none⟩) (b - a) (c - a), .slice (some ⟨go, a * 3, none⟩) (b - a) (co - a), .int .i64 (fl : Nat)] H1 K := fun b hab hbn hmem K fin => by
      have hl1 := IR.sub hM1.ir (a := a) (m := b - a) (by rw [List.length_map]; omega)
      have ho2 := ho1.sub (a := a) (m := b - a) (by rw [List.length_map]; omega)
      rw [← List.map_drop, ← List.map_take] at hl1 ho2
      refine piece_ok hM1.fo hmem (seg_ne hab (by omega)) hl1 ho2 hfl (fun b hb => (hM1.bb b hb).2) (fun b hb => by obtain rfl := Option.some.inj hb; exact hgo.2) ?_
      intro H2 hF2 hf2
      exact fin H2 (hM1.op hF2 hf2) (ho1.frame hf2 fun b hb => by obtain rfl := Option.some.inj hb; exact hgo.2) (h171.frame hf2 fun b hb => (hB17 b hb).2)
    have t8 : (a ≤ n) = True := by simp; omega
    have t9 : (c = a) = False := by simp; omega
    have t10 : (co = a) = False := by simp; omega
    have t11 : (n ≤ c) = True := by simp; omega
    have t12 : (n ≤ co) = True := by simp; omega
    cases hb : F[i + 1]? with
    | none =>
      have hlast : F.length ≤ i + 1 := by
        rcases Nat.lt_or_ge (i + 1) F.length with h | h
        · rw [List.getElem?_eq_getElem h] at hb; cases hb
        · exact h
      rw [hb] at hsg
      have hmem : (all.drop a).take (n - a) ∈ S.rows := by
        rw [hr, List.take_of_length_le (by rw [List.length_drop]; omega)]
        exact List.mem_of_getElem? hsg
      have t1 : (i + 1 < F.length) = False := by simp; omega
      have t1' : (((i + 1 : Nat) : Int) < (F.length : Int)) = False := by simp; omega
      repeat' (first
        | (with_reducible first | refine seq_normal ?_ | (refine hK _ _ ?_; clear hK K) | refine x_seq (fun K hK => ?_) | refine x_nil ?_ | refine x_block ?_ | refine x_skip ?_ | refine x_exit ?_ | refine x_ret ?_ | refine x_label ?_ | refine x_scope ?_ | (refine seq_ret ?_; clear hK K) | (refine seq_exit ?_; clear hK K) | refine block_normal ?_ | refine block_ret ?_ | refine block_exit ?_ | refine loop_exit ?_ | refine loop_ret ?_)
        | ((with_reducible refine x_reg_lit ?hq ?_); case hq => rfl)
        | ((first | (with_reducible first | refine x_op (fun K hK => ?_) | refine end_ret ?_ | refine end_normal ?_) | ((with_reducible refine x_guard_yes ?hy (fun K hK => ?_)); case hy => rfl)); simp only [go_sem, Int.cast_ofNat_Int, Nat.reduceEqDiff, Nat.reduceAdd, Nat.reduceMul, Nat.reduceLeDiff, Nat.reduceLT, Int.reduceLT, Int.reduceLE, Int.reduceEq, Int.reduceNeg, Int.reduceToNat, Nat.reducePow, reduceIte, reduceCtorEq, i3, i11, i12, i13, i17', i21, hlt, ew, t1, t1', ca, t8, t9, t10, t11, t12])
        | ((with_reducible first | refine x_guard_no ?hy ?_ | refine x_cond_true ?hy ?_); case hy => rfl)
        | ((with_reducible first | refine x_guard_none ?hy ?_ | refine x_cond_false ?hy ?_); case hy => rfl)
        | ((with_reducible refine block_exit_ne ?hy ?_); case hy => decide))
      refine piece n han (Nat.le_refl _) hmem _ fun H2 hM2 ho2 h172 => ?_
      repeat' (first
        | (with_reducible first | refine seq_normal ?_ | (refine hK _ _ ?_; clear hK K) | refine x_seq (fun K hK => ?_) | refine x_nil ?_ | refine x_block ?_ | refine x_skip ?_ | refine x_exit ?_ | refine x_ret ?_ | refine x_label ?_ | refine x_scope ?_ | (refine seq_ret ?_; clear hK K) | (refine seq_exit ?_; clear hK K) | refine block_normal ?_ | refine block_ret ?_ | refine block_exit ?_ | refine loop_exit ?_ | refine loop_ret ?_)
        | ((with_reducible refine x_reg_lit ?hq ?_); case hq => rfl)
        | ((first | (with_reducible first | refine x_op (fun K hK => ?_) | refine end_ret ?_ | refine end_normal ?_) | ((with_reducible refine x_guard_yes ?hy (fun K hK => ?_)); case hy => rfl)); simp only [go_sem, Int.cast_ofNat_Int, Nat.reduceEqDiff, Nat.reduceAdd, Nat.reduceMul, Nat.reduceLeDiff, Nat.reduceLT, Int.reduceLT, Int.reduceLE, Int.reduceEq, Int.reduceNeg, Int.reduceToNat, Nat.reducePow, reduceIte, reduceCtorEq, i21, ew])
        | ((with_reducible first | refine x_guard_no ?hy ?_ | refine x_cond_true ?hy ?_); case hy => rfl)
        | ((with_reducible first | refine x_guard_none ?hy ?_ | refine x_cond_false ?hy ?_); case hy => rfl)
        | ((with_reducible refine block_exit_ne ?hy ?_); case hy => decide))
      exact loop_normal (m' := F.length - (i + 1)) (by omega) ⟨i + 1, rfl, hM2, ho2, h172, by omega, rfl⟩
    | some b =>
      have hlt2 := (List.getElem?_eq_some_iff.1 hb).1
      have hbn : b < n := by rw [hn]; exact hcut.lt b (List.mem_of_getElem? hb)
      have hab : a < b := by
        have hd : F.drop i = a :: b :: F.drop (i + 2) := by rw [drop_cons ha, drop_cons hb]
        have : ∀ (G : List Nat) (j : Nat), Rising G → Rising (G.drop j) := fun G j => by
          induction j generalizing G with
          | zero => exact fun h => h
          | succ j ih =>
            intro h
            cases G with
            | nil => exact h
            | cons x G => exact ih G (rising_tail h)
        have h1 := this F i hcut.rise
        rw [hd] at h1
        exact h1.1
      rw [hb] at hsg
      have hmem : (all.drop a).take (b - a) ∈ S.rows := by rw [hr]; exact List.mem_of_getElem? hsg
      have cb := hr17 (i + 1) (b : Int) (by rw [List.getElem?_map, hb]; rfl)
      have t1 : (i + 1 < F.length) = True := by simp; omega
      have t1' : (((i + 1 : Nat) : Int) < (F.length : Int)) = True := by simp; omega
      have t13 : (a ≤ b) = True := by simp; omega
      have t14 : (b ≤ c) = True := by simp; omega
      have t15 : (b ≤ co) = True := by simp; omega
      repeat' (first
        | (with_reducible first | refine seq_normal ?_ | (refine hK _ _ ?_; clear hK K) | refine x_seq (fun K hK => ?_) | refine x_nil ?_ | refine x_block ?_ | refine x_skip ?_ | refine x_exit ?_ | refine x_ret ?_ | refine x_label ?_ | refine x_scope ?_ | (refine seq_ret ?_; clear hK K) | (refine seq_exit ?_; clear hK K) | refine block_normal ?_ | refine block_ret ?_ | refine block_exit ?_ | refine loop_exit ?_ | refine loop_ret ?_)
        | ((with_reducible refine x_reg_lit ?hq ?_); case hq => rfl)
        | ((first | (with_reducible first | refine x_op (fun K hK => ?_) | refine end_ret ?_ | refine end_normal ?_) | ((with_reducible refine x_guard_yes ?hy (fun K hK => ?_)); case hy => rfl)); simp only [go_sem, Int.cast_ofNat_Int, Nat.reduceEqDiff, Nat.reduceAdd, Nat.reduceMul, Nat.reduceLeDiff, Nat.reduceLT, Int.reduceLT, Int.reduceLE, Int.reduceEq, Int.reduceNeg, Int.reduceToNat, Nat.reducePow, reduceIte, reduceCtorEq, i3, i11, i12, i13, i17', i21, hlt, ew, t1, t1', ca, cb, t8, t9, t10, t11, t12, t13, t14, t15])
        | ((with_reducible first | refine x_guard_no ?hy ?_ | refine x_cond_true ?hy ?_); case hy => rfl)
        | ((with_reducible first | refine x_guard_none ?hy ?_ | refine x_cond_false ?hy ?_); case hy => rfl)
        | ((with_reducible refine block_exit_ne ?hy ?_); case hy => decide))
      refine piece b hab (by omega) hmem _ fun H2 hM2 ho2 h172 => ?_
      repeat' (first
        | (with_reducible first | refine seq_normal ?_ | (refine hK _ _ ?_; clear hK K) | refine x_seq (fun K hK => ?_) | refine x_nil ?_ | refine x_block ?_ | refine x_skip ?_ | refine x_exit ?_ | refine x_ret ?_ | refine x_label ?_ | refine x_scope ?_ | (refine seq_ret ?_; clear hK K) | (refine seq_exit ?_; clear hK K) | refine block_normal ?_ | refine block_ret ?_ | refine block_exit ?_ | refine loop_exit ?_ | refine loop_ret ?_)
        | ((with_reducible refine x_reg_lit ?hq ?_); case hq => rfl)
        | ((first | (with_reducible first | refine x_op (fun K hK => ?_) | refine end_ret ?_ | refine end_normal ?_) | ((with_reducible refine x_guard_yes ?hy (fun K hK => ?_)); case hy => rfl)); simp only [go_sem, Int.cast_ofNat_Int, Nat.reduceEqDiff, Nat.reduceAdd, Nat.reduceMul, Nat.reduceLeDiff, Nat.reduceLT, Int.reduceLT, Int.reduceLE, Int.reduceEq, Int.reduceNeg, Int.reduceToNat, Nat.reducePow, reduceIte, reduceCtorEq, i21, ew])
        | ((with_reducible first | refine x_guard_no ?hy ?_ | refine x_cond_true ?hy ?_); case hy => rfl)
        | ((with_reducible first | refine x_guard_none ?hy ?_ | refine x_cond_false ?hy ?_); case hy => rfl)
        | ((with_reducible refine block_exit_ne ?hy ?_); case hy => decide))
      exact loop_normal (m' := F.length - (i + 1)) (by omega) ⟨i + 1, rfl, hM2, ho2, h172, by omega, rfl⟩
  · have t1 : (i < F.length) = False := by simp; omega
    obtain ⟨a17, c17, hv17⟩ := h171.slice
    rw [List.length_map] at hv17
    have i17' := i17.trans hv17
    repeat' (first
      | (with_reducible first | refine seq_normal ?_ | (refine hK _ _ ?_; clear hK K) | refine x_seq (fun K hK => ?_) | refine x_nil ?_ | refine x_block ?_ | refine x_skip ?_ | refine x_exit ?_ | refine x_ret ?_ | refine x_label ?_ | refine x_scope ?_ | (refine seq_ret ?_; clear hK K) | (refine seq_exit ?_; clear hK K) | refine block_normal ?_ | refine block_ret ?_ | refine block_exit ?_ | refine loop_exit ?_ | refine loop_ret ?_)
      | ((with_reducible refine x_reg_lit ?hq ?_); case hq => rfl)
      | ((first | (with_reducible first | refine x_op (fun K hK => ?_) | refine end_ret ?_ | refine end_normal ?_) | ((with_reducible refine x_guard_yes ?hy (fun K hK => ?_)); case hy => rfl)); simp only [go_sem, Int.cast_ofNat_Int, Nat.reduceEqDiff, Nat.reduceAdd, Nat.reduceMul, Nat.reduceLeDiff, Nat.reduceLT, Int.reduceLT, Int.reduceLE, Int.reduceEq, Int.reduceNeg, Int.reduceToNat, Nat.reducePow, reduceIte, reduceCtorEq, i17', i21, t1])
      | ((with_reducible first | refine x_guard_no ?hy ?_ | refine x_cond_true ?hy ?_); case hy => rfl)
      | ((with_reducible first | refine x_guard_none ?hy ?_ | refine x_cond_false ?hy ?_); case hy => rfl)
      | ((with_reducible refine block_exit_ne ?hy ?_); case hy => decide))
    exact hQ _ _ keep hM1 ho1 h171
theorem pcJoin {go co : Nat} {F : List Nat} {B17 : Option Nat} {v17 : Value} (hM : RM H0 H f T S B v all) (hr : S.rows = segs all F) (hne : all ≠ []) (hcut : Cuts all F) (hFl : F.length ≤ 21)
    (ho : Its H (some go) (.slice (some ⟨go, 0, none⟩) all.length co) (all.map S.it)) (hgo : H0.size ≤ go ∧ ¬ T go) (h17 : IR H B17 v17 (F.map Int.ofNat)) (hB17 : ∀ b, B17 = some b → H0.size ≤ b ∧ ¬ T b)
    (e11 : e 11 = .pointer (some ⟨f, 0, none⟩)) (e12 : e 12 = v) (e17 : e 17 = v17) (e24 : e 24 = .int .i64 1)
    (hQ : ∀ e' H' S', (e' 3 = e 3 ∧ e' 11 = e 11 ∧ e' 12 = e 12 ∧ e' 13 = e 13) → RM H0 H' f T S' B v all → S'.rows = [all] → S'.it = S.it → Its H' (some go) (.slice (some ⟨go, 0, none⟩) all.length co) (all.map S.it) → Q .normal e' H') :
    codeX Try.prog [30, 36] (loopAt Try.f7.body 3) (blockQ 6 Q) e H := by
  obtain ⟨g, c, rfl, rfl, hc⟩ := hM.open hne
  have hpos := List.length_pos_iff.2 hne
  obtain ⟨F', hF'⟩ := hcut.head
  have hF1 : 1 ≤ F.length := by rw [hF']; simp
  obtain ⟨n, hn⟩ : ∃ n, n = all.length := ⟨_, rfl⟩
  rw [← hn] at hM hc e12 hQ ho hpos
  refine x_loop (fun m e' H' => ∃ (i : Nat) (S' : Sq), e' 24 = .int .i64 (i : Nat) ∧ RM H0 H' f T S' (some g) (.slice (some ⟨g, 0, none⟩) n c) all ∧ S'.rows.Perm (all.take (F.getD i n) :: segs all (F.drop i)) ∧ S'.it = S.it ∧ Its H' (some go) (.slice (some ⟨go, 0, none⟩) n co) (all.map S.it) ∧
      IR H' B17 v17 (F.map Int.ofNat) ∧ 1 ≤ i ∧ i ≤ F.length ∧ m = F.length - i) (F.length - 1)
    ⟨1, S, e24, hM, ?_, rfl, ho, h17, by omega, hF1, rfl⟩ ?_
  · rw [hr, hF']
    cases F' with
    | nil =>
      show [all.drop 0].Perm (all.take n :: [])
      rw [List.drop_zero, hn, List.take_length]
    | cons b G =>
      show (((all.drop 0).take (b - 0)) :: segs all (b :: G)).Perm (all.take b :: segs all (b :: G))
      rw [List.drop_zero, Nat.sub_zero]
  rintro m e1 H1 ⟨i, S1, i24, hM1, hp, hit, ho1, h171, hi1, hi, rfl⟩ hoff
  have i11 := (hoff 11 rfl).trans e11
  have i12 := (hoff 12 rfl).trans e12
  have i17 := (hoff 17 rfl).trans e17
  have keep : e1 3 = e 3 ∧ e1 11 = e 11 ∧ e1 12 = e 12 ∧ e1 13 = e 13 := ⟨hoff 3 rfl, hoff 11 rfl, hoff 12 rfl, hoff 13 rfl⟩
  clear hoff e11 e12 e17 e24
  by_cases hlt : i < F.length
  · obtain ⟨a, ha⟩ : ∃ a, F[i]? = some a := ⟨_, List.getElem?_eq_getElem hlt⟩
    have han : a < n := by rw [hn]; exact hcut.lt a (List.mem_of_getElem? ha)
    have ha0 : 0 < a := by
      have h1 := hcut.rise
      rw [hF'] at h1 ha
      refine rising_lt h1 a ?_
      rw [show i = (i - 1) + 1 by omega, List.getElem?_cons_succ] at ha
      exact List.mem_of_getElem? ha
    have hga : F.getD i n = a := by rw [List.getD_eq_getElem?_getD, ha]; rfl
    rw [hga] at hp
    have ew : IntKind.i64.wrap ((i : Int) + 1) = ((i + 1 : Nat) : Int) := by rw [wrap_i64] <;> omega
    obtain ⟨g17, c17, hB', hv17, hr17, _⟩ := h171.rowAt (i := i) (by rw [List.length_map]; exact hlt)
    rw [List.length_map] at hv17
    have i17' := i17.trans hv17
    have ca := hr17 i (a : Int) (by rw [List.getElem?_map, ha]; rfl)
    obtain ⟨w, hw⟩ : ∃ w, all[0]? = some w := ⟨_, List.getElem?_eq_getElem (by omega)⟩
    obtain ⟨x, hx⟩ : ∃ w, all[a]? = some w := ⟨_, List.getElem?_eq_getElem (by omega)⟩
    have cw := hM1.cell hw
    have cx := hM1.cell hx
    have t5 : (0 < n) = True := by simp; omega
    have t6 : ((0 : Int) < (n : Int)) = True := by simp; omega
    have hwt : w ∈ all.take a := List.mem_of_getElem? (i := 0) (by rw [List.getElem?_take_of_lt ha0]; exact hw)
    have hdr : F.drop i = a :: F.drop (i + 1) := drop_cons ha
    obtain ⟨seg, hs1, hs2, hs3⟩ : ∃ seg, segs all (F.drop i) = seg :: segs all (F.drop (i + 1)) ∧ x ∈ seg ∧ all.take a ++ seg = all.take (F.getD (i + 1) n) := by
      rw [hdr]
      cases hb : F[i + 1]? with
      | none =>
        have hd2 : F.drop (i + 1) = [] := by
          rcases Nat.lt_or_ge (i + 1) F.length with h | h
          · rw [List.getElem?_eq_getElem h] at hb; cases hb
          · exact List.drop_eq_nil_of_le h
        rw [hd2]
        refine ⟨all.drop a, rfl, by rw [drop_cons hx]; exact .head _, ?_⟩
        rw [List.take_append_drop, List.getD_eq_getElem?_getD, hb]
        show all = all.take n
        rw [hn, List.take_length]
      | some b =>
        have hd2 := drop_cons hb
        rw [hd2]
        have hab : a < b := by
          have h1 := hcut.rise
          have : ∀ (G : List Nat) (j : Nat), Rising G → Rising (G.drop j) := fun G j => by
            induction j generalizing G with
            | zero => exact fun h => h
            | succ j ih =>
              intro h
              cases G with
              | nil => exact h
              | cons x G => exact ih G (rising_tail h)
          have h2 := this F i h1
          rw [hdr, hd2] at h2
          exact h2.1
        refine ⟨(all.drop a).take (b - a), rfl, ?_, ?_⟩
        · rw [drop_cons hx, show b - a = (b - a - 1) + 1 by omega, List.take_succ_cons]
          exact .head _
        · rw [List.getD_eq_getElem?_getD, hb]
          show _ = all.take b
          conv => rhs; rw [show b = a + (b - a) by omega, List.take_add]
    rw [hs1] at hp
    repeat' (first
      | (with_reducible first | refine seq_normal ?_ | (refine hK _ _ ?_; clear hK K) | refine x_seq (fun K hK => ?_) | refine x_nil ?_ | refine x_block ?_ | refine x_skip ?_ | refine x_exit ?_ | refine x_ret ?_ | refine x_label ?_ | refine x_scope ?_ | (refine seq_ret ?_; clear hK K) | (refine seq_exit ?_; clear hK K) | refine block_normal ?_ | refine block_ret ?_ | refine block_exit ?_ | refine loop_exit ?_ | refine loop_ret ?_)
      | ((with_reducible refine x_reg_lit ?hq ?_); case hq => rfl)
      | ((first | (with_reducible first | refine x_op (fun K hK => ?_) | refine end_ret ?_ | refine end_normal ?_) | ((with_reducible refine x_guard_yes ?hy (fun K hK => ?_)); case hy => rfl)); simp only [go_sem, Int.cast_ofNat_Int, Nat.reduceEqDiff, Nat.reduceAdd, Nat.reduceMul, Nat.reduceLeDiff, Nat.reduceLT, Int.reduceLT, Int.reduceLE, Int.reduceEq, Int.reduceNeg, Int.reduceToNat, Nat.reducePow, reduceIte, reduceCtorEq, i11, i12, i17', i24, hlt, ca, t5, t6, cw, han, cx])
      | ((with_reducible first | refine x_guard_no ?hy ?_ | refine x_cond_true ?hy ?_); case hy => rfl)
      | ((with_reducible first | refine x_guard_none ?hy ?_ | refine x_cond_false ?hy ?_); case hy => rfl)
      | ((with_reducible refine block_exit_ne ?hy ?_); case hy => decide))
    refine m_join (k := w) (j := x) (xs := all.take a) (ys := seg) (R := segs all (F.drop (i + 1))) hM1.fo hp hwt hs2 ?_
    intro H2 hF2 hf2
    have hM2 := hM1.op hF2 hf2
    repeat' (first
      | (with_reducible first | refine seq_normal ?_ | (refine hK _ _ ?_; clear hK K) | refine x_seq (fun K hK => ?_) | refine x_nil ?_ | refine x_block ?_ | refine x_skip ?_ | refine x_exit ?_ | refine x_ret ?_ | refine x_label ?_ | refine x_scope ?_ | (refine seq_ret ?_; clear hK K) | (refine seq_exit ?_; clear hK K) | refine block_normal ?_ | refine block_ret ?_ | refine block_exit ?_ | refine loop_exit ?_ | refine loop_ret ?_)
      | ((with_reducible refine x_reg_lit ?hq ?_); case hq => rfl)
      | ((first | (with_reducible first | refine x_op (fun K hK => ?_) | refine end_ret ?_ | refine end_normal ?_) | ((with_reducible refine x_guard_yes ?hy (fun K hK => ?_)); case hy => rfl)); simp only [go_sem, Int.cast_ofNat_Int, Nat.reduceEqDiff, Nat.reduceAdd, Nat.reduceMul, Nat.reduceLeDiff, Nat.reduceLT, Int.reduceLT, Int.reduceLE, Int.reduceEq, Int.reduceNeg, Int.reduceToNat, Nat.reducePow, reduceIte, reduceCtorEq, i24, ew])
      | ((with_reducible first | refine x_guard_no ?hy ?_ | refine x_cond_true ?hy ?_); case hy => rfl)
      | ((with_reducible first | refine x_guard_none ?hy ?_ | refine x_cond_false ?hy ?_); case hy => rfl)
      | ((with_reducible refine block_exit_ne ?hy ?_); case hy => decide))
    exact loop_normal (m' := F.length - (i + 1)) (by omega) ⟨i + 1, _, rfl, hM2, by rw [hs3], hit, ho1.frame hf2 (fun b hb => by obtain rfl := Option.some.inj hb; exact hgo.2), h171.frame hf2 (fun b hb => (hB17 b hb).2), by omega, by omega, rfl⟩
  · have t1 : (i < F.length) = False := by simp; omega
    have hi' : i = F.length := by omega
    obtain ⟨a17, c17, hv17⟩ := h171.slice
    rw [List.length_map] at hv17
    have i17' := i17.trans hv17
    repeat' (first
      | (with_reducible first | refine seq_normal ?_ | (refine hK _ _ ?_; clear hK K) | refine x_seq (fun K hK => ?_) | refine x_nil ?_ | refine x_block ?_ | refine x_skip ?_ | refine x_exit ?_ | refine x_ret ?_ | refine x_label ?_ | refine x_scope ?_ | (refine seq_ret ?_; clear hK K) | (refine seq_exit ?_; clear hK K) | refine block_normal ?_ | refine block_ret ?_ | refine block_exit ?_ | refine loop_exit ?_ | refine loop_ret ?_)
      | ((with_reducible refine x_reg_lit ?hq ?_); case hq => rfl)
      | ((first | (with_reducible first | refine x_op (fun K hK => ?_) | refine end_ret ?_ | refine end_normal ?_) | ((with_reducible refine x_guard_yes ?hy (fun K hK => ?_)); case hy => rfl)); simp only [go_sem, Int.cast_ofNat_Int, Nat.reduceEqDiff, Nat.reduceAdd, Nat.reduceMul, Nat.reduceLeDiff, Nat.reduceLT, Int.reduceLT, Int.reduceLE, Int.reduceEq, Int.reduceNeg, Int.reduceToNat, Nat.reducePow, reduceIte, reduceCtorEq, i17', i24, t1])
      | ((with_reducible first | refine x_guard_no ?hy ?_ | refine x_cond_true ?hy ?_); case hy => rfl)
      | ((with_reducible first | refine x_guard_none ?hy ?_ | refine x_cond_false ?hy ?_); case hy => rfl)
      | ((with_reducible refine block_exit_ne ?hy ?_); case hy => decide))
    rw [hi', List.drop_length, List.getD_eq_getElem?_getD, List.getElem?_eq_none (Nat.le_refl _)] at hp
    have hp' : S1.rows.Perm [all] := by
      have e : all.take n = all := by rw [hn, List.take_length]
      have h2 : S1.rows.Perm (all.take n :: []) := hp
      rw [e] at h2
      exact h2
    exact hQ _ _ _ keep (hM1.op (hM1.fo.perm hp') (.refl _ _)) rfl hit ho1
end
theorem splayPieces {H : Heap} {a0 a1 a2 : Option Addr} {n0 c0 n1 c1 n2 c2 : Nat} {a3 : Int} {z0 : Nat → Sp.Item} {z1 z2 : Nat → Int} {K : Value → Heap → Prop} (h0 : InItems H a0 n0 z0) (l0 : n0 ≤ 9223372036854775807) (h1 : InInts H a1 n1 z1) (l1 : n1 ≤ 9223372036854775807)
    (h2 : InInts H a2 n2 z2) (l2 : n2 ≤ 9223372036854775807) (f3 : -9223372036854775808 ≤ a3) (g3 : a3 ≤ 9223372036854775807) (fin : ∀ H', Fr (fun _ => False) H H' → K (.bool true) H') :
    CallsH Try.prog 7 #[.slice a0 n0 c0, .slice a1 n1 c1, .slice a2 n2 c2, .int .i64 a3] H K := by
  refine call7 (by simp) ?_
  simp only [Try.f7, Option.getD_some]
  repeat' (first
    | (with_reducible first | refine seq_normal ?_ | (refine hK _ _ ?_; clear hK K) | refine x_seq (fun K hK => ?_) | refine x_nil ?_ | refine x_block ?_ | refine x_skip ?_ | refine x_exit ?_ | refine x_ret ?_ | refine x_label ?_ | refine x_scope ?_ | (refine seq_ret ?_; clear hK K) | (refine seq_exit ?_; clear hK K) | refine block_normal ?_ | refine block_ret ?_ | refine block_exit ?_ | refine loop_exit ?_ | refine loop_ret ?_)
    | ((with_reducible refine x_reg_lit ?hq ?_); case hq => rfl)
    | ((first | (with_reducible first | refine x_op (fun K hK => ?_) | refine end_ret ?_ | refine end_normal ?_) | ((with_reducible refine x_guard_yes ?hy (fun K hK => ?_)); case hy => rfl)); simp only [go_sem, Int.cast_ofNat_Int, Nat.reduceEqDiff, Nat.reduceAdd, Nat.reduceMul, Nat.reduceLeDiff, Nat.reduceLT, Int.reduceLT, Int.reduceLE, Int.reduceEq, Int.reduceNeg, Int.reduceToNat, Nat.reducePow, reduceIte, reduceCtorEq])
    | ((with_reducible first | refine x_guard_no ?hy ?_ | refine x_cond_true ?hy ?_); case hy => rfl)
    | ((with_reducible first | refine x_guard_none ?hy ?_ | refine x_cond_false ?hy ?_); case hy => rfl)
    | ((with_reducible refine block_exit_ne ?hy ?_); case hy => decide))
  refine awake_ok ?_
  intro H1 hf1
  repeat' (first
    | (with_reducible first | refine seq_normal ?_ | (refine hK _ _ ?_; clear hK K) | refine x_seq (fun K hK => ?_) | refine x_nil ?_ | refine x_block ?_ | refine x_skip ?_ | refine x_exit ?_ | refine x_ret ?_ | refine x_label ?_ | refine x_scope ?_ | (refine seq_ret ?_; clear hK K) | (refine seq_exit ?_; clear hK K) | refine block_normal ?_ | refine block_ret ?_ | refine block_exit ?_ | refine loop_exit ?_ | refine loop_ret ?_)
    | ((with_reducible refine x_reg_lit ?hq ?_); case hq => rfl)
    | ((first | (with_reducible first | refine x_op (fun K hK => ?_) | refine end_ret ?_ | refine end_normal ?_) | ((with_reducible refine x_guard_yes ?hy (fun K hK => ?_)); case hy => rfl)); simp only [go_sem, Int.cast_ofNat_Int, Nat.reduceEqDiff, Nat.reduceAdd, Nat.reduceMul, Nat.reduceLeDiff, Nat.reduceLT, Int.reduceLT, Int.reduceLE, Int.reduceEq, Int.reduceNeg, Int.reduceToNat, Nat.reducePow, reduceIte, reduceCtorEq])
    | ((with_reducible first | refine x_guard_no ?hy ?_ | refine x_cond_true ?hy ?_); case hy => rfl)
    | ((with_reducible first | refine x_guard_none ?hy ?_ | refine x_cond_false ?hy ?_); case hy => rfl)
    | ((with_reducible refine block_exit_ne ?hy ?_); case hy => decide))
  refine items_ok (most := 120) (h0.frame hf1) l0 (by omega) (by omega) ?_
  intro H2 B2 v2 xs hi2 hB2 hx1 hx2 hm hf2
  have hf02 := hf1.trans hf2
  repeat' (first
    | (with_reducible first | refine seq_normal ?_ | (refine hK _ _ ?_; clear hK K) | refine x_seq (fun K hK => ?_) | refine x_nil ?_ | refine x_block ?_ | refine x_skip ?_ | refine x_exit ?_ | refine x_ret ?_ | refine x_label ?_ | refine x_scope ?_ | (refine seq_ret ?_; clear hK K) | (refine seq_exit ?_; clear hK K) | refine block_normal ?_ | refine block_ret ?_ | refine block_exit ?_ | refine loop_exit ?_ | refine loop_ret ?_)
    | ((with_reducible refine x_reg_lit ?hq ?_); case hq => rfl)
    | ((first | (with_reducible first | refine x_op (fun K hK => ?_) | refine end_ret ?_ | refine end_normal ?_) | ((with_reducible refine x_guard_yes ?hy (fun K hK => ?_)); case hy => rfl)); simp only [go_sem, Int.cast_ofNat_Int, Nat.reduceEqDiff, Nat.reduceAdd, Nat.reduceMul, Nat.reduceLeDiff, Nat.reduceLT, Int.reduceLT, Int.reduceLE, Int.reduceEq, Int.reduceNeg, Int.reduceToNat, Nat.reducePow, reduceIte, reduceCtorEq])
    | ((with_reducible first | refine x_guard_no ?hy ?_ | refine x_cond_true ?hy ?_); case hy => rfl)
    | ((with_reducible first | refine x_guard_none ?hy ?_ | refine x_cond_false ?hy ?_); case hy => rfl)
    | ((with_reducible refine block_exit_ne ?hy ?_); case hy => decide))
  refine row_ok (h1.frame hf02) l1 hi2 hm (by omega) hx1 ?_
  intro H3 f T S B v all hM hr hall hfree htop hroom hperm
  have hM := hM.base hf02
  have hne : all ≠ [] := fun h => by rw [h] at hall; simp at hall; omega
  obtain ⟨g, c, rfl, rfl, hc⟩ := hM.open hne
  have tb : (all.length * 24 ≤ 281474976710656) = True := by simp; omega
  repeat' (first
    | (with_reducible first | refine seq_normal ?_ | (refine hK _ _ ?_; clear hK K) | refine x_seq (fun K hK => ?_) | refine x_nil ?_ | refine x_block ?_ | refine x_skip ?_ | refine x_exit ?_ | refine x_ret ?_ | refine x_label ?_ | refine x_scope ?_ | (refine seq_ret ?_; clear hK K) | (refine seq_exit ?_; clear hK K) | refine block_normal ?_ | refine block_ret ?_ | refine block_exit ?_ | refine loop_exit ?_ | refine loop_ret ?_)
    | ((with_reducible refine x_reg_lit ?hq ?_); case hq => rfl)
    | ((first | (with_reducible first | refine x_op (fun K hK => ?_) | refine end_ret ?_ | refine end_normal ?_) | ((with_reducible refine x_guard_yes ?hy (fun K hK => ?_)); case hy => rfl)); simp only [go_sem, Int.cast_ofNat_Int, Nat.reduceEqDiff, Nat.reduceAdd, Nat.reduceMul, Nat.reduceLeDiff, Nat.reduceLT, Int.reduceLT, Int.reduceLE, Int.reduceEq, Int.reduceNeg, Int.reduceToNat, Nat.reducePow, reduceIte, reduceCtorEq, tb, Nat.le_refl])
    | ((with_reducible first | refine x_guard_no ?hy ?_ | refine x_cond_true ?hy ?_); case hy => rfl)
    | ((with_reducible first | refine x_guard_none ?hy ?_ | refine x_cond_false ?hy ?_); case hy => rfl)
    | ((with_reducible refine block_exit_ne ?hy ?_); case hy => decide))
  have ho4 := its_new H3 all.length 31
  generalize hH4 : H3.push _ = H4 at ho4 ⊢
  have hf4 : Fr (fun _ => False) H3 H4 := by rw [← hH4]; exact (Fr.refl _ _).push _
  clear hH4
  have hM4 := hM.grow hf4
  have hs3 := hM.fr.size
  have hir := hM.ir.lt rfl
  have hgoT : ¬ T H3.size := fun h => by have := hM.fo.lt h; omega
  have hgo4 : ∀ b, some H3.size = some b → H.size ≤ b ∧ ¬ T b ∧ some g ≠ some b := fun b hb => by
    obtain rfl := Option.some.inj hb
    exact ⟨hs3, hgoT, fun h => by have := Option.some.inj h; omega⟩
  refine pcOwn hM4 hr hne ho4 hgo4 rfl rfl rfl rfl ?_
  rintro e5 H5 ⟨j2, j3, j11, j12, j13⟩ hM5 ho5
  have j2' : e5 2 = .slice a2 n2 c2 := j2
  have j3' : e5 3 = .int .i64 a3 := j3
  have j11' : e5 11 = .pointer (some ⟨f, 0, none⟩) := j11
  have j12' : e5 12 = .slice (some ⟨g, 0, none⟩) all.length c := j12
  have j13' : e5 13 = .slice (some ⟨H3.size, 0, none⟩) all.length all.length := j13
  clear j2 j3 j11 j12 j13
  repeat' (first
    | (with_reducible first | refine seq_normal ?_ | (refine hK _ _ ?_; clear hK K) | refine x_seq (fun K hK => ?_) | refine x_nil ?_ | refine x_block ?_ | refine x_skip ?_ | refine x_exit ?_ | refine x_ret ?_ | refine x_label ?_ | refine x_scope ?_ | (refine seq_ret ?_; clear hK K) | (refine seq_exit ?_; clear hK K) | refine block_normal ?_ | refine block_ret ?_ | refine block_exit ?_ | refine loop_exit ?_ | refine loop_ret ?_)
    | ((with_reducible refine x_reg_lit ?hq ?_); case hq => rfl)
    | ((first | (with_reducible first | refine x_op (fun K hK => ?_) | refine end_ret ?_ | refine end_normal ?_) | ((with_reducible refine x_guard_yes ?hy (fun K hK => ?_)); case hy => rfl)); simp only [go_sem, Int.cast_ofNat_Int, Nat.reduceEqDiff, Nat.reduceAdd, Nat.reduceMul, Nat.reduceLeDiff, Nat.reduceLT, Int.reduceLT, Int.reduceLE, Int.reduceEq, Int.reduceNeg, Int.reduceToNat, Nat.reducePow, reduceIte, reduceCtorEq])
    | ((with_reducible first | refine x_guard_no ?hy ?_ | refine x_cond_true ?hy ?_); case hy => rfl)
    | ((with_reducible first | refine x_guard_none ?hy ?_ | refine x_cond_false ?hy ?_); case hy => rfl)
    | ((with_reducible refine block_exit_ne ?hy ?_); case hy => decide))
  have h17 := IR.one H5 0 3
  generalize hH6 : H5.push _ = H6 at h17 ⊢
  have hf6 : Fr (fun _ => False) H5 H6 := by rw [← hH6]; exact (Fr.refl _ _).push _
  clear hH6
  have hM6 := hM5.grow hf6
  have ho6 := ho5.frame hf6 fun _ _ h => h
  have hs5 := hM5.fr.size
  refine pcCut h2 l2 hM6 hr hne ho6 (fun b hb => ⟨(hgo4 b hb).1, (hgo4 b hb).2.1⟩) h17 (fun b hb => by obtain rfl := Option.some.inj hb; exact ⟨hs5, fun h => by have := hM5.fo.lt h; omega⟩) (by exact j2') (by exact j11') (by exact j12') rfl rfl ?_
  rintro e7 H7 S7 F B7 v7 ⟨k3, k11, k12, k13⟩ k17 hM7 hr7 hit7 hcut hFl ho7 h177 hB7
  have k3' : e7 3 = .int .i64 a3 := k3.trans (by exact j3')
  have k11' : e7 11 = .pointer (some ⟨f, 0, none⟩) := k11.trans (by exact j11')
  have k12' : e7 12 = .slice (some ⟨g, 0, none⟩) all.length c := k12.trans (by exact j12')
  have k13' : e7 13 = .slice (some ⟨H3.size, 0, none⟩) all.length all.length := k13.trans (by exact j13')
  clear k3 k11 k12 k13 j2' j3' j11' j12' j13'
  obtain ⟨r0, r1⟩ := pickN_range a3 (n := 256) (by omega)
  obtain ⟨fl, hfl⟩ := Int.eq_ofNat_of_zero_le r0
  repeat' (first
    | (with_reducible first | refine seq_normal ?_ | (refine hK _ _ ?_; clear hK K) | refine x_seq (fun K hK => ?_) | refine x_nil ?_ | refine x_block ?_ | refine x_skip ?_ | refine x_exit ?_ | refine x_ret ?_ | refine x_label ?_ | refine x_scope ?_ | (refine seq_ret ?_; clear hK K) | (refine seq_exit ?_; clear hK K) | refine block_normal ?_ | refine block_ret ?_ | refine block_exit ?_ | refine loop_exit ?_ | refine loop_ret ?_)
    | ((with_reducible refine x_reg_lit ?hq ?_); case hq => rfl)
    | ((first | (with_reducible first | refine x_op (fun K hK => ?_) | refine end_ret ?_ | refine end_normal ?_) | ((with_reducible refine x_guard_yes ?hy (fun K hK => ?_)); case hy => rfl)); simp only [go_sem, Int.cast_ofNat_Int, Nat.reduceEqDiff, Nat.reduceAdd, Nat.reduceMul, Nat.reduceLeDiff, Nat.reduceLT, Int.reduceLT, Int.reduceLE, Int.reduceEq, Int.reduceNeg, Int.reduceToNat, Nat.reducePow, reduceIte, reduceCtorEq, k3'])
    | ((with_reducible first | refine x_guard_no ?hy ?_ | refine x_cond_true ?hy ?_); case hy => rfl)
    | ((with_reducible first | refine x_guard_none ?hy ?_ | refine x_cond_false ?hy ?_); case hy => rfl)
    | ((with_reducible refine block_exit_ne ?hy ?_); case hy => decide))
  refine Pkisthmuslaw03.pick_ok f3 g3 (by omega) ?_
  rw [hfl]
  rw [← hit7] at ho7
  repeat' (first
    | (with_reducible first | refine seq_normal ?_ | (refine hK _ _ ?_; clear hK K) | refine x_seq (fun K hK => ?_) | refine x_nil ?_ | refine x_block ?_ | refine x_skip ?_ | refine x_exit ?_ | refine x_ret ?_ | refine x_label ?_ | refine x_scope ?_ | (refine seq_ret ?_; clear hK K) | (refine seq_exit ?_; clear hK K) | refine block_normal ?_ | refine block_ret ?_ | refine block_exit ?_ | refine loop_exit ?_ | refine loop_ret ?_)
    | ((with_reducible refine x_reg_lit ?hq ?_); case hq => rfl)
    | ((first | (with_reducible first | refine x_op (fun K hK => ?_) | refine end_ret ?_ | refine end_normal ?_) | ((with_reducible refine x_guard_yes ?hy (fun K hK => ?_)); case hy => rfl)); simp only [go_sem, Int.cast_ofNat_Int, Nat.reduceEqDiff, Nat.reduceAdd, Nat.reduceMul, Nat.reduceLeDiff, Nat.reduceLT, Int.reduceLT, Int.reduceLE, Int.reduceEq, Int.reduceNeg, Int.reduceToNat, Nat.reducePow, reduceIte, reduceCtorEq, k11', k12', k13', k17])
    | ((with_reducible first | refine x_guard_no ?hy ?_ | refine x_cond_true ?hy ?_); case hy => rfl)
    | ((with_reducible first | refine x_guard_none ?hy ?_ | refine x_cond_false ?hy ?_); case hy => rfl)
    | ((with_reducible refine block_exit_ne ?hy ?_); case hy => decide))
  refine pcPieces hM7 hr7 hne (by omega) hcut hFl ho7 ⟨hs3, hgoT⟩ h177 hB7 (fl := fl) (by omega) rfl (by exact k11') (by exact k12') (by exact k13') (by exact k17) rfl ?_
  rintro e8 H8 ⟨q3, q11, q12, q13, q17⟩ hM8 ho8 h178
  have q3' : e8 3 = .int .i64 (fl : Nat) := q3
  have q11' := q11.trans (by exact k11')
  have q12' := q12.trans (by exact k12')
  have q13' := q13.trans (by exact k13')
  have q17' := q17.trans (by exact k17)
  clear q3 q11 q12 q13 q17
  repeat' (first
    | (with_reducible first | refine seq_normal ?_ | (refine hK _ _ ?_; clear hK K) | refine x_seq (fun K hK => ?_) | refine x_nil ?_ | refine x_block ?_ | refine x_skip ?_ | refine x_exit ?_ | refine x_ret ?_ | refine x_label ?_ | refine x_scope ?_ | (refine seq_ret ?_; clear hK K) | (refine seq_exit ?_; clear hK K) | refine block_normal ?_ | refine block_ret ?_ | refine block_exit ?_ | refine loop_exit ?_ | refine loop_ret ?_)
    | ((with_reducible refine x_reg_lit ?hq ?_); case hq => rfl)
    | ((first | (with_reducible first | refine x_op (fun K hK => ?_) | refine end_ret ?_ | refine end_normal ?_) | ((with_reducible refine x_guard_yes ?hy (fun K hK => ?_)); case hy => rfl)); simp only [go_sem, Int.cast_ofNat_Int, Nat.reduceEqDiff, Nat.reduceAdd, Nat.reduceMul, Nat.reduceLeDiff, Nat.reduceLT, Int.reduceLT, Int.reduceLE, Int.reduceEq, Int.reduceNeg, Int.reduceToNat, Nat.reducePow, reduceIte, reduceCtorEq])
    | ((with_reducible first | refine x_guard_no ?hy ?_ | refine x_cond_true ?hy ?_); case hy => rfl)
    | ((with_reducible first | refine x_guard_none ?hy ?_ | refine x_cond_false ?hy ?_); case hy => rfl)
    | ((with_reducible refine block_exit_ne ?hy ?_); case hy => decide))
  refine pcJoin hM8 hr7 hne hcut hFl ho8 ⟨hs3, hgoT⟩ h178 hB7 (by exact q11') (by exact q12') (by exact q17') rfl ?_
  rintro e9 H9 S9 ⟨p3, p11, p12, p13⟩ hM9 hr9 hit9 ho9
  have p3' := p3.trans (by exact q3')
  have p11' := p11.trans (by exact q11')
  have p12' := p12.trans (by exact q12')
  have p13' := p13.trans (by exact q13')
  rw [← hit9] at ho9
  repeat' (first
    | (with_reducible first | refine seq_normal ?_ | (refine hK _ _ ?_; clear hK K) | refine x_seq (fun K hK => ?_) | refine x_nil ?_ | refine x_block ?_ | refine x_skip ?_ | refine x_exit ?_ | refine x_ret ?_ | refine x_label ?_ | refine x_scope ?_ | (refine seq_ret ?_; clear hK K) | (refine seq_exit ?_; clear hK K) | refine block_normal ?_ | refine block_ret ?_ | refine block_exit ?_ | refine loop_exit ?_ | refine loop_ret ?_)
    | ((with_reducible refine x_reg_lit ?hq ?_); case hq => rfl)
    | ((first | (with_reducible first | refine x_op (fun K hK => ?_) | refine end_ret ?_ | refine end_normal ?_) | ((with_reducible refine x_guard_yes ?hy (fun K hK => ?_)); case hy => rfl)); simp only [go_sem, Int.cast_ofNat_Int, Nat.reduceEqDiff, Nat.reduceAdd, Nat.reduceMul, Nat.reduceLeDiff, Nat.reduceLT, Int.reduceLT, Int.reduceLE, Int.reduceEq, Int.reduceNeg, Int.reduceToNat, Nat.reducePow, reduceIte, reduceCtorEq, p3', p11', p12', p13'])
    | ((with_reducible first | refine x_guard_no ?hy ?_ | refine x_cond_true ?hy ?_); case hy => rfl)
    | ((with_reducible first | refine x_guard_none ?hy ?_ | refine x_cond_false ?hy ?_); case hy => rfl)
    | ((with_reducible refine block_exit_ne ?hy ?_); case hy => decide))
  refine piece_ok hM9.fo (by rw [hr9]; exact .head _) hne hM9.ir.rds ho9.rds (fl := fl) (by omega) (fun b hb => (hM9.bb b hb).2) (fun b hb => (hgo4 b hb).2.1) ?_
  intro H10 hF10 hf10
  have hM10 := hM9.op hF10 hf10
  repeat' (first
    | (with_reducible first | refine seq_normal ?_ | (refine hK _ _ ?_; clear hK K) | refine x_seq (fun K hK => ?_) | refine x_nil ?_ | refine x_block ?_ | refine x_skip ?_ | refine x_exit ?_ | refine x_ret ?_ | refine x_label ?_ | refine x_scope ?_ | (refine seq_ret ?_; clear hK K) | (refine seq_exit ?_; clear hK K) | refine block_normal ?_ | refine block_ret ?_ | refine block_exit ?_ | refine loop_exit ?_ | refine loop_ret ?_)
    | ((with_reducible refine x_reg_lit ?hq ?_); case hq => rfl)
    | ((first | (with_reducible first | refine x_op (fun K hK => ?_) | refine end_ret ?_ | refine end_normal ?_) | ((with_reducible refine x_guard_yes ?hy (fun K hK => ?_)); case hy => rfl)); simp only [go_sem, Int.cast_ofNat_Int, Nat.reduceEqDiff, Nat.reduceAdd, Nat.reduceMul, Nat.reduceLeDiff, Nat.reduceLT, Int.reduceLT, Int.reduceLE, Int.reduceEq, Int.reduceNeg, Int.reduceToNat, Nat.reducePow, reduceIte, reduceCtorEq, p3', p11', p12', p13'])
    | ((with_reducible first | refine x_guard_no ?hy ?_ | refine x_cond_true ?hy ?_); case hy => rfl)
    | ((with_reducible first | refine x_guard_none ?hy ?_ | refine x_cond_false ?hy ?_); case hy => rfl)
    | ((with_reducible refine block_exit_ne ?hy ?_); case hy => decide))
  refine stands_ok hM10 hr9 hne ?_
  intro H11 hM11
  repeat' (first
    | (with_reducible first | refine seq_normal ?_ | (refine hK _ _ ?_; clear hK K) | refine x_seq (fun K hK => ?_) | refine x_nil ?_ | refine x_block ?_ | refine x_skip ?_ | refine x_exit ?_ | refine x_ret ?_ | refine x_label ?_ | refine x_scope ?_ | (refine seq_ret ?_; clear hK K) | (refine seq_exit ?_; clear hK K) | refine block_normal ?_ | refine block_ret ?_ | refine block_exit ?_ | refine loop_exit ?_ | refine loop_ret ?_)
    | ((with_reducible refine x_reg_lit ?hq ?_); case hq => rfl)
    | ((first | (with_reducible first | refine x_op (fun K hK => ?_) | refine end_ret ?_ | refine end_normal ?_) | ((with_reducible refine x_guard_yes ?hy (fun K hK => ?_)); case hy => rfl)); simp only [go_sem, Int.cast_ofNat_Int, Nat.reduceEqDiff, Nat.reduceAdd, Nat.reduceMul, Nat.reduceLeDiff, Nat.reduceLT, Int.reduceLT, Int.reduceLE, Int.reduceEq, Int.reduceNeg, Int.reduceToNat, Nat.reducePow, reduceIte, reduceCtorEq])
    | ((with_reducible first | refine x_guard_no ?hy ?_ | refine x_cond_true ?hy ?_); case hy => rfl)
    | ((with_reducible first | refine x_guard_none ?hy ?_ | refine x_cond_false ?hy ?_); case hy => rfl)
    | ((with_reducible refine block_exit_ne ?hy ?_); case hy => decide))
  exact fin _ hM11.fr
end Go.Proofs.Ytndkbhlfbeiniaa
