/-
  The helpers of the laws of layer 3: row.
-/
import Derived.Test.YtndkbhlfbeiniaaSpLA
namespace Go.Proofs.Ytndkbhlfbeiniaa
open Go Go.Hp Go.Sp
set_option linter.all false
set_option maxRecDepth 100000
set_option maxHeartbeats 1600000

/-- A forest and a list of handles, both of new memory. -/
structure RM (H0 H : Heap) (f : Nat) (T : Nat → Prop) (S : Sq) (B : Option Nat) (v : Value) (all : List Nat) : Prop where
  fo : FoM H f T S
  ir : IR H B v (all.map Int.ofNat)
  fr : Fr (fun _ => False) H0 H
  tb : ∀ b, T b → H0.size ≤ b
  bb : ∀ b, B = some b → H0.size ≤ b ∧ ¬ T b
section
variable {H0 H H' : Heap} {f : Nat} {T T' : Nat → Prop} {S S' : Sq} {B B' : Option Nat} {v v' : Value} {all all' : List Nat}
theorem RM.op (h : RM H0 H f T S B v all) (hf : FoM H' f T S') (hfr : Fr T H H') : RM H0 H' f T S' B v all :=
  ⟨hf, h.ir.frame hfr fun g hg => (h.bb g hg).2, h.fr.trans' hfr fun b hb e => by have := h.tb b e; omega, h.tb, h.bb⟩
theorem RM.op' (h : RM H0 H f T S B v all) (hf : FoM H' f T' S') (hfr : Fr T H H') (hT : ∀ b, T' b → T b ∨ H.size ≤ b) : RM H0 H' f T' S' B v all :=
  ⟨hf, h.ir.frame hfr fun g hg => (h.bb g hg).2, h.fr.trans' hfr (fun b hb e => by have := h.tb b e; omega), fun b hb => by
    rcases hT b hb with hb | hb
    · exact h.tb b hb
    · exact Nat.le_trans h.fr.size hb, fun b hb => ⟨(h.bb b hb).1, fun e => by
    rcases hT b e with e | e
    · exact (h.bb b hb).2 e
    · have := h.ir.lt hb; omega⟩⟩
theorem RM.grow (h : RM H0 H f T S B v all) (hf : Fr (fun _ => False) H H') : RM H0 H' f T S B v all :=
  ⟨h.fo.grow hf, h.ir.frame hf fun _ _ h => h, h.fr.trans hf, h.tb, h.bb⟩
theorem RM.list (h : RM H0 H f T S B v all) (hi : IR H' B' v' (all'.map Int.ofNat)) (hf : Fr (fun b => B = some b) H H') (hB : B' = B ∨ ∃ g, B' = some g ∧ H.size ≤ g) : RM H0 H' f T S B' v' all' :=
  ⟨h.fo.frame hf fun b hb e => (h.bb b e).2 hb, hi, h.fr.trans' hf (fun b hb e => by have := (h.bb b e).1; omega), h.tb, fun b hb => by
    rcases hB with rfl | ⟨g, h1, h2⟩
    · exact h.bb b hb
    · rw [h1] at hb
      obtain rfl := Option.some.inj hb
      exact ⟨Nat.le_trans h.fr.size h2, fun e => by have := h.fo.lt e; omega⟩⟩
theorem RM.base (h : RM H0 H f T S B v all) {H00 : Heap} (hf : Fr (fun _ => False) H00 H0) : RM H00 H f T S B v all :=
  ⟨h.fo, h.ir, hf.trans h.fr, fun b hb => Nat.le_trans hf.size (h.tb b hb), fun b hb => ⟨Nat.le_trans hf.size (h.bb b hb).1, (h.bb b hb).2⟩⟩
end
theorem IR.one (H : Heap) (x : Int) (T : TypeId) : IR (H.push (.cells #[.int .i64 x] T)) (some H.size) (.slice (some ⟨H.size, 0, none⟩) 1 1) [x] :=
  ⟨rfl, .inr ⟨H.size, 1, [], rfl, rfl, Blk.new H [.int .i64 x] T, rfl, Nat.le_refl _⟩⟩
theorem row_ok {H : Heap} {a : Option Addr} {len cap : Nat} {zs : Nat → Int} {Bi : Option Nat} {vi : Value} {xs : List Sp.Item} {K : Value → Heap → Prop} (hin : InInts H a len zs) (hl : len ≤ 9223372036854775807)
    (hi : Its H Bi vi xs) (hm : ∀ x ∈ xs, May x) (hxl : xs.length ≤ 1024) (hx1 : 1 ≤ xs.length)
    (fin : ∀ H' f T S B v all, RM H H' f T S B v all → S.rows = [all] → all.length = xs.length → S.free = [] → S.top = xs.length + 1 → S.room = 1024 → (all.map S.it).Perm xs → K (.tuple #[.pointer (some ⟨f, 0, none⟩), v]) H') :
    CallsH Try.prog 12 #[vi, .slice a len cap] H K := by
  obtain ⟨ai, ci, hvi⟩ := hi.slice
  refine call12 (by simp) ?_
  simp only [Try.f12, Option.getD_some]
  rw [hvi]
  repeat' (first
    | (with_reducible first | refine seq_normal ?_ | (refine hK _ _ ?_; clear hK K) | refine x_seq (fun K hK => ?_) | refine x_nil ?_ | refine x_block ?_ | refine x_skip ?_ | refine x_exit ?_ | refine x_ret ?_ | refine x_label ?_ | refine x_scope ?_ | (refine seq_ret ?_; clear hK K) | (refine seq_exit ?_; clear hK K) | refine block_normal ?_ | refine block_ret ?_ | refine block_exit ?_ | refine loop_exit ?_ | refine loop_ret ?_)
    | ((with_reducible refine x_reg_lit ?hq ?_); case hq => rfl)
    | ((first | (with_reducible first | refine x_op (fun K hK => ?_) | refine end_ret ?_ | refine end_normal ?_) | ((with_reducible refine x_guard_yes ?hy (fun K hK => ?_)); case hy => rfl)); simp only [go_sem, Int.cast_ofNat_Int, Nat.reduceEqDiff, Nat.reduceAdd, Nat.reduceMul, Nat.reduceLeDiff, Nat.reduceLT, Int.reduceLT, Int.reduceLE, Int.reduceEq, Int.reduceNeg, Int.reduceToNat, Nat.reducePow, reduceIte, reduceCtorEq])
    | ((with_reducible first | refine x_guard_no ?hy ?_ | refine x_cond_true ?hy ?_); case hy => rfl)
    | ((with_reducible first | refine x_guard_none ?hy ?_ | refine x_cond_false ?hy ?_); case hy => rfl)
    | ((with_reducible refine block_exit_ne ?hy ?_); case hy => decide))
  refine new_ok (n := 1024) (by omega) ?_
  intro H1 f T1 hF1 hf1 hT1 hTf
  repeat' (first
    | (with_reducible first | refine seq_normal ?_ | (refine hK _ _ ?_; clear hK K) | refine x_seq (fun K hK => ?_) | refine x_nil ?_ | refine x_block ?_ | refine x_skip ?_ | refine x_exit ?_ | refine x_ret ?_ | refine x_label ?_ | refine x_scope ?_ | (refine seq_ret ?_; clear hK K) | (refine seq_exit ?_; clear hK K) | refine block_normal ?_ | refine block_ret ?_ | refine block_exit ?_ | refine loop_exit ?_ | refine loop_ret ?_)
    | ((with_reducible refine x_reg_lit ?hq ?_); case hq => rfl)
    | ((first | (with_reducible first | refine x_op (fun K hK => ?_) | refine end_ret ?_ | refine end_normal ?_) | ((with_reducible refine x_guard_yes ?hy (fun K hK => ?_)); case hy => rfl)); simp only [go_sem, Int.cast_ofNat_Int, Nat.reduceEqDiff, Nat.reduceAdd, Nat.reduceMul, Nat.reduceLeDiff, Nat.reduceLT, Int.reduceLT, Int.reduceLE, Int.reduceEq, Int.reduceNeg, Int.reduceToNat, Nat.reducePow, reduceIte, reduceCtorEq])
    | ((with_reducible first | refine x_guard_no ?hy ?_ | refine x_cond_true ?hy ?_); case hy => rfl)
    | ((with_reducible first | refine x_guard_none ?hy ?_ | refine x_cond_false ?hy ?_); case hy => rfl)
    | ((with_reducible refine block_exit_ne ?hy ?_); case hy => decide))
  refine x_loop (fun m e' H' => ∃ (i : Nat) (T : Nat → Prop) (S : Sq) (B : Option Nat) (v : Value) (all : List Nat), e' 8 = v ∧ e' 9 = .int .i64 (i : Nat) ∧ RM H H' f T S B v all ∧ S.rows = (if i = 0 then [] else [all]) ∧ all.length = i ∧ S.free = [] ∧ S.top = i + 1 ∧ S.room = 1024 ∧
      (all.map S.it).Perm (xs.take i) ∧ i ≤ xs.length ∧ m = xs.length - i)
    xs.length ⟨0, T1, _, none, _, [], rfl, rfl, ⟨hF1, IR.nil _, hf1, hT1, fun b h => by cases h⟩, rfl, rfl, rfl, rfl, rfl, .refl _, Nat.zero_le _, rfl⟩ ?_
  rintro m e1 H2 ⟨i, T, S, B, v, all, i8, i9, hM, hrows, hall, hfree, htop, hroom, hperm, hil, rfl⟩ hoff
  have i0 := (hoff 0 rfl).trans rfl
  have i1 := (hoff 1 rfl).trans rfl
  have i6 := (hoff 6 rfl).trans rfl
  clear hoff
  by_cases hlt : i < xs.length
  · obtain ⟨x, hx⟩ : ∃ x, xs[i]? = some x := ⟨_, List.getElem?_eq_getElem hlt⟩
    have hxm : May x := hm x (List.mem_of_getElem? hx)
    obtain ⟨gi, cgi, hBi, hvi', q0, q1, q2⟩ := (hi.frame hM.fr (fun _ _ h => h)).read hx
    have i0' := i0.trans (hvi.symm.trans hvi')
    have hflat : S.rows.flatten = all := by
      rw [hrows]
      split
      · rename_i h; simp [List.length_eq_zero_iff.1 (hall.trans h)]
      · simp
    have ew : IntKind.i64.wrap ((i : Int) + 1) = ((i + 1 : Nat) : Int) := by rw [wrap_i64] <;> omega
    have hnext : S.next = i + 1 := by unfold Sq.next; rw [hfree, htop]; rfl
    repeat' (first
      | (with_reducible first | refine seq_normal ?_ | (refine hK _ _ ?_; clear hK K) | refine x_seq (fun K hK => ?_) | refine x_nil ?_ | refine x_block ?_ | refine x_skip ?_ | refine x_exit ?_ | refine x_ret ?_ | refine x_label ?_ | refine x_scope ?_ | (refine seq_ret ?_; clear hK K) | (refine seq_exit ?_; clear hK K) | refine block_normal ?_ | refine block_ret ?_ | refine block_exit ?_ | refine loop_exit ?_ | refine loop_ret ?_)
      | ((with_reducible refine x_reg_lit ?hq ?_); case hq => rfl)
      | ((first | (with_reducible first | refine x_op (fun K hK => ?_) | refine end_ret ?_ | refine end_normal ?_) | ((with_reducible refine x_guard_yes ?hy (fun K hK => ?_)); case hy => rfl)); simp only [go_sem, Int.cast_ofNat_Int, Nat.reduceEqDiff, Nat.reduceAdd, Nat.reduceMul, Nat.reduceLeDiff, Nat.reduceLT, Int.reduceLT, Int.reduceLE, Int.reduceEq, Int.reduceNeg, Int.reduceToNat, Nat.reducePow, reduceIte, reduceCtorEq, i0', i1, i6, i9, hlt, q0, q1, q2])
      | ((with_reducible first | refine x_guard_no ?hy ?_ | refine x_cond_true ?hy ?_); case hy => rfl)
      | ((with_reducible first | refine x_guard_none ?hy ?_ | refine x_cond_false ?hy ?_); case hy => rfl)
      | ((with_reducible refine block_exit_ne ?hy ?_); case hy => decide))
    refine make_ok (x := x) hM.fo (May.fits hxm) hxm (by rw [hflat, hroom, hall]; omega) ?_
    intro H3 T3 hF3 hf3 hT3 _
    have hM3 := hM.op' hF3 hf3 hT3
    have hnin : i + 1 ∉ all := fun h => by
      have := hM.fo.lt_top (k := i + 1) (by rw [hflat]; exact h)
      omega
    have hmade : (S.made x).rows = [i + 1] :: S.rows := by unfold Sq.made; rw [hnext]
    have hmit : ∀ k ∈ all, (S.made x).it k = S.it k := fun k hk => by
      show (if k = S.next then x else S.it k) = S.it k
      rw [if_neg]
      intro e
      rw [hnext] at e
      exact hnin (e ▸ hk)
    have hmitn : (S.made x).it (i + 1) = x := by
      show (if i + 1 = S.next then x else S.it (i + 1)) = x
      rw [if_pos hnext.symm]
    have htake : xs.take (i + 1) = xs.take i ++ [x] := by
      rw [List.take_add_one, hx]; rfl
    have hmap : all.map (S.made x).it = all.map S.it := List.map_congr_left hmit
    have hmfree : (S.made x).free = [] := by show S.free.tail = []; rw [hfree]; rfl
    have hmtop : (S.made x).top = i + 1 + 1 := by show (if S.free = [] then S.top + 1 else S.top) = _; rw [if_pos hfree, htop]
    rw [hnext]
    by_cases hi0 : i = 0
    · subst hi0
      obtain rfl : all = [] := List.length_eq_zero_iff.1 hall
      rw [if_pos rfl] at hrows
      have ew0 : IntKind.i64.wrap 1 = 1 := by rw [wrap_i64] <;> omega
      have z1 : (((0 : Nat) : Int) == 0) = true := rfl
      repeat' (first
        | (with_reducible first | refine seq_normal ?_ | (refine hK _ _ ?_; clear hK K) | refine x_seq (fun K hK => ?_) | refine x_nil ?_ | refine x_block ?_ | refine x_skip ?_ | refine x_exit ?_ | refine x_ret ?_ | refine x_label ?_ | refine x_scope ?_ | (refine seq_ret ?_; clear hK K) | (refine seq_exit ?_; clear hK K) | refine block_normal ?_ | refine block_ret ?_ | refine block_exit ?_ | refine loop_exit ?_ | refine loop_ret ?_)
        | ((with_reducible refine x_reg_lit ?hq ?_); case hq => rfl)
        | ((first | (with_reducible first | refine x_op (fun K hK => ?_) | refine end_ret ?_ | refine end_normal ?_) | ((with_reducible refine x_guard_yes ?hy (fun K hK => ?_)); case hy => rfl)); simp only [go_sem, Int.cast_ofNat_Int, Nat.reduceEqDiff, Nat.reduceAdd, Nat.reduceMul, Nat.reduceLeDiff, Nat.reduceLT, Int.reduceLT, Int.reduceLE, Int.reduceEq, Int.reduceNeg, Int.reduceToNat, Nat.reducePow, reduceIte, reduceCtorEq, i0', i1, i6, i8, i9, hlt, z1, ew])
        | ((with_reducible first | refine x_guard_no ?hy ?_ | refine x_cond_true ?hy ?_); case hy => rfl)
        | ((with_reducible first | refine x_guard_none ?hy ?_ | refine x_cond_false ?hy ?_); case hy => rfl)
        | ((with_reducible refine block_exit_ne ?hy ?_); case hy => decide))
      refine append_ir elems23 tl3 hM3.ir rfl (by decide) (by simp) rfl ?_
      intro v' H4 B' hi4 hf4 hB4
      have hM4 := hM3.list (all' := [1]) hi4 hf4 hB4
      repeat' (first
        | (with_reducible first | refine seq_normal ?_ | (refine hK _ _ ?_; clear hK K) | refine x_seq (fun K hK => ?_) | refine x_nil ?_ | refine x_block ?_ | refine x_skip ?_ | refine x_exit ?_ | refine x_ret ?_ | refine x_label ?_ | refine x_scope ?_ | (refine seq_ret ?_; clear hK K) | (refine seq_exit ?_; clear hK K) | refine block_normal ?_ | refine block_ret ?_ | refine block_exit ?_ | refine loop_exit ?_ | refine loop_ret ?_)
        | ((with_reducible refine x_reg_lit ?hq ?_); case hq => rfl)
        | ((first | (with_reducible first | refine x_op (fun K hK => ?_) | refine end_ret ?_ | refine end_normal ?_) | ((with_reducible refine x_guard_yes ?hy (fun K hK => ?_)); case hy => rfl)); simp only [go_sem, Int.cast_ofNat_Int, Nat.reduceEqDiff, Nat.reduceAdd, Nat.reduceMul, Nat.reduceLeDiff, Nat.reduceLT, Int.reduceLT, Int.reduceLE, Int.reduceEq, Int.reduceNeg, Int.reduceToNat, Nat.reducePow, reduceIte, reduceCtorEq, i9, ew])
        | ((with_reducible first | refine x_guard_no ?hy ?_ | refine x_cond_true ?hy ?_); case hy => rfl)
        | ((with_reducible first | refine x_guard_none ?hy ?_ | refine x_cond_false ?hy ?_); case hy => rfl)
        | ((with_reducible refine block_exit_ne ?hy ?_); case hy => decide))
      refine loop_normal (m' := xs.length - 1) (by omega) ⟨1, T3, _, B', v', [1], rfl, rfl, hM4, ?_, rfl, hmfree, hmtop, hroom, ?_, by omega, rfl⟩
      · rw [hmade, hrows]; rfl
      · rw [htake]
        simp only [List.map_cons, List.map_nil, List.take_zero, List.nil_append]
        rw [show (S.made x).it 1 = x from hmitn]
    · have z1 : ((i : Int) == 0) = false := by simp [hi0]
      rw [if_neg hi0] at hrows
      have hane : all ≠ [] := fun h => hi0 (by rw [← hall, h]; rfl)
      obtain ⟨g8, c8, hB8, hv8, hr8, hc8⟩ := hM3.ir.rowAt (i := 0) (by rw [List.length_map, hall]; omega)
      rw [List.length_map, hall] at hv8 hc8
      have i8' := i8.trans hv8
      have ewm : IntKind.i64.wrap ((i : Int) - 1) = ((i - 1 : Nat) : Int) := by rw [wrap_i64] <;> omega
      by_cases hneg : i < len ∧ zs i < 0
      · obtain ⟨p, rfl, cz, hz1, hz2⟩ := (hin.frame hM3.fr) i hneg.1
        have t1 : (i < len) = True := by simp [hneg.1]
        have t2 : (zs i < 0) = True := by simp [hneg.2]
        obtain ⟨w, hw⟩ : ∃ w, all[i - 1]? = some w := ⟨_, List.getElem?_eq_getElem (by omega)⟩
        have cw := hr8 (i - 1) (w : Int) (by rw [List.getElem?_map, hw]; rfl)
        have t3 : (i - 1 < i) = True := by simp; omega
        repeat' (first
          | (with_reducible first | refine seq_normal ?_ | (refine hK _ _ ?_; clear hK K) | refine x_seq (fun K hK => ?_) | refine x_nil ?_ | refine x_block ?_ | refine x_skip ?_ | refine x_exit ?_ | refine x_ret ?_ | refine x_label ?_ | refine x_scope ?_ | (refine seq_ret ?_; clear hK K) | (refine seq_exit ?_; clear hK K) | refine block_normal ?_ | refine block_ret ?_ | refine block_exit ?_ | refine loop_exit ?_ | refine loop_ret ?_)
          | ((with_reducible refine x_reg_lit ?hq ?_); case hq => rfl)
          | ((first | (with_reducible first | refine x_op (fun K hK => ?_) | refine end_ret ?_ | refine end_normal ?_) | ((with_reducible refine x_guard_yes ?hy (fun K hK => ?_)); case hy => rfl)); simp only [go_sem, Int.cast_ofNat_Int, Nat.reduceEqDiff, Nat.reduceAdd, Nat.reduceMul, Nat.reduceLeDiff, Nat.reduceLT, Int.reduceLT, Int.reduceLE, Int.reduceEq, Int.reduceNeg, Int.reduceToNat, Nat.reducePow, reduceIte, reduceCtorEq, i0', i1, i6, i8', i9, hlt, z1, t1, t2, cz, ewm, cw, t3])
          | ((with_reducible first | refine x_guard_no ?hy ?_ | refine x_cond_true ?hy ?_); case hy => rfl)
          | ((with_reducible first | refine x_guard_none ?hy ?_ | refine x_cond_false ?hy ?_); case hy => rfl)
          | ((with_reducible refine block_exit_ne ?hy ?_); case hy => decide))
        refine m_join (xs := [i + 1]) (ys := all) (R := []) hM3.fo (by rw [hmade, hrows]) (by simp) (List.mem_of_getElem? hw) ?_
        intro H4 hF4 hf4
        have hM4 := hM3.op hF4 hf4
        have ione := IR.one H4 ((i + 1 : Nat) : Int) 3
        have r4 := hM4.ir
        rw [hB8, hv8] at r4
        have hM5 := hM4.grow (H' := H4.push (.cells #[.int .i64 ((i + 1 : Nat) : Int)] 3)) ((Fr.refl _ _).push _)
        have r5 := hM5.ir
        rw [hB8, hv8] at r5
        have rl := r5.readL (o := 0) (m := i) (by simp [hall])
        rw [List.drop_zero, List.take_of_length_le (by simp [hall])] at rl
        repeat' (first
          | (with_reducible first | refine seq_normal ?_ | (refine hK _ _ ?_; clear hK K) | refine x_seq (fun K hK => ?_) | refine x_nil ?_ | refine x_block ?_ | refine x_skip ?_ | refine x_exit ?_ | refine x_ret ?_ | refine x_label ?_ | refine x_scope ?_ | (refine seq_ret ?_; clear hK K) | (refine seq_exit ?_; clear hK K) | refine block_normal ?_ | refine block_ret ?_ | refine block_exit ?_ | refine loop_exit ?_ | refine loop_ret ?_)
          | ((with_reducible refine x_reg_lit ?hq ?_); case hq => rfl)
          | ((first | (with_reducible first | refine x_op (fun K hK => ?_) | refine end_ret ?_ | refine end_normal ?_) | ((with_reducible refine x_guard_yes ?hy (fun K hK => ?_)); case hy => rfl)); simp only [go_sem, Int.cast_ofNat_Int, Nat.reduceEqDiff, Nat.reduceAdd, Nat.reduceMul, Nat.reduceLeDiff, Nat.reduceLT, Int.reduceLT, Int.reduceLE, Int.reduceEq, Int.reduceNeg, Int.reduceToNat, Nat.reducePow, reduceIte, reduceCtorEq, i0', i1, i6, i8', i9])
          | ((with_reducible first | refine x_guard_no ?hy ?_ | refine x_cond_true ?hy ?_); case hy => rfl)
          | ((with_reducible first | refine x_guard_none ?hy ?_ | refine x_cond_false ?hy ?_); case hy => rfl)
          | ((with_reducible refine block_exit_ne ?hy ?_); case hy => decide))
        refine append_irs elems23 tl3 ione rl (by simp [hall]) (by decide) (by simp; omega) rfl ?_
        intro v6 H6 B6 hi6 hf6 hB6
        have hM6 : RM H H6 f T3 { S.made x with rows := [[i + 1] ++ all] } B6 v6 ([i + 1] ++ all) := by
          have hsz := hM4.fr.size
          have hlt8 := r4.lt rfl
          refine ⟨hM5.fo.frame hf6 fun b hb e => ?_, by simpa using hi6, hM5.fr.trans' hf6 (fun b hb e => ?_), hM5.tb, fun b hb => ?_⟩
          · obtain rfl := Option.some.inj e
            have := hM4.fo.lt hb
            omega
          · obtain rfl := Option.some.inj e
            omega
          · have hge : H4.size ≤ b := by
              rcases hB6 with h | ⟨g', h1, h2⟩
              · rw [h] at hb
                obtain rfl := Option.some.inj hb
                omega
              · rw [h1] at hb
                obtain rfl := Option.some.inj hb
                simp at h2
                omega
            exact ⟨by omega, fun e => by have := hM4.fo.lt e; omega⟩
        repeat' (first
          | (with_reducible first | refine seq_normal ?_ | (refine hK _ _ ?_; clear hK K) | refine x_seq (fun K hK => ?_) | refine x_nil ?_ | refine x_block ?_ | refine x_skip ?_ | refine x_exit ?_ | refine x_ret ?_ | refine x_label ?_ | refine x_scope ?_ | (refine seq_ret ?_; clear hK K) | (refine seq_exit ?_; clear hK K) | refine block_normal ?_ | refine block_ret ?_ | refine block_exit ?_ | refine loop_exit ?_ | refine loop_ret ?_)
          | ((with_reducible refine x_reg_lit ?hq ?_); case hq => rfl)
          | ((first | (with_reducible first | refine x_op (fun K hK => ?_) | refine end_ret ?_ | refine end_normal ?_) | ((with_reducible refine x_guard_yes ?hy (fun K hK => ?_)); case hy => rfl)); simp only [go_sem, Int.cast_ofNat_Int, Nat.reduceEqDiff, Nat.reduceAdd, Nat.reduceMul, Nat.reduceLeDiff, Nat.reduceLT, Int.reduceLT, Int.reduceLE, Int.reduceEq, Int.reduceNeg, Int.reduceToNat, Nat.reducePow, reduceIte, reduceCtorEq, i9, ew])
          | ((with_reducible first | refine x_guard_no ?hy ?_ | refine x_cond_true ?hy ?_); case hy => rfl)
          | ((with_reducible first | refine x_guard_none ?hy ?_ | refine x_cond_false ?hy ?_); case hy => rfl)
          | ((with_reducible refine block_exit_ne ?hy ?_); case hy => decide))
        refine loop_normal (m' := xs.length - (i + 1)) (by omega) ⟨i + 1, T3, _, B6, v6, [i + 1] ++ all, rfl, rfl, hM6, by simp, by simp [hall], hmfree, hmtop, hroom, ?_, by omega, rfl⟩
        rw [htake]
        simp only [List.map_append, List.map_cons, List.map_nil]
        rw [hmitn, hmap]
        exact (List.Perm.append_left [x] hperm).trans List.perm_append_comm
      · have hor : ¬ i < len ∨ (i < len ∧ ¬ zs i < 0) := by
          by_cases h : i < len
          · exact .inr ⟨h, fun h2 => hneg ⟨h, h2⟩⟩
          · exact .inl h
        obtain ⟨w, hw⟩ : ∃ w, all[0]? = some w := ⟨_, List.getElem?_eq_getElem (by omega)⟩
        have cw := hr8 0 (w : Int) (by rw [List.getElem?_map, hw]; rfl)
        have t3 : (0 < i) = True := by simp; omega
        have t4 : ((0 : Int) < (i : Int)) = True := by simp; omega
        rcases hor with h | ⟨h, h2⟩
        case' inl =>
          have t1 : (i < len) = False := by simp [h]
          repeat' (first
            | (with_reducible first | refine seq_normal ?_ | (refine hK _ _ ?_; clear hK K) | refine x_seq (fun K hK => ?_) | refine x_nil ?_ | refine x_block ?_ | refine x_skip ?_ | refine x_exit ?_ | refine x_ret ?_ | refine x_label ?_ | refine x_scope ?_ | (refine seq_ret ?_; clear hK K) | (refine seq_exit ?_; clear hK K) | refine block_normal ?_ | refine block_ret ?_ | refine block_exit ?_ | refine loop_exit ?_ | refine loop_ret ?_)
            | ((with_reducible refine x_reg_lit ?hq ?_); case hq => rfl)
            | ((first | (with_reducible first | refine x_op (fun K hK => ?_) | refine end_ret ?_ | refine end_normal ?_) | ((with_reducible refine x_guard_yes ?hy (fun K hK => ?_)); case hy => rfl)); simp only [go_sem, Int.cast_ofNat_Int, Nat.reduceEqDiff, Nat.reduceAdd, Nat.reduceMul, Nat.reduceLeDiff, Nat.reduceLT, Int.reduceLT, Int.reduceLE, Int.reduceEq, Int.reduceNeg, Int.reduceToNat, Nat.reducePow, reduceIte, reduceCtorEq, i0', i1, i6, i8', i9, hlt, z1, t1, cw, t3, t4])
            | ((with_reducible first | refine x_guard_no ?hy ?_ | refine x_cond_true ?hy ?_); case hy => rfl)
            | ((with_reducible first | refine x_guard_none ?hy ?_ | refine x_cond_false ?hy ?_); case hy => rfl)
            | ((with_reducible refine block_exit_ne ?hy ?_); case hy => decide))
        case' inr =>
          obtain ⟨p, rfl, cz, hz1, hz2⟩ := (hin.frame hM3.fr) i h
          have t1 : (i < len) = True := by simp [h]
          have t2 : (zs i < 0) = False := by simp; omega
          repeat' (first
            | (with_reducible first | refine seq_normal ?_ | (refine hK _ _ ?_; clear hK K) | refine x_seq (fun K hK => ?_) | refine x_nil ?_ | refine x_block ?_ | refine x_skip ?_ | refine x_exit ?_ | refine x_ret ?_ | refine x_label ?_ | refine x_scope ?_ | (refine seq_ret ?_; clear hK K) | (refine seq_exit ?_; clear hK K) | refine block_normal ?_ | refine block_ret ?_ | refine block_exit ?_ | refine loop_exit ?_ | refine loop_ret ?_)
            | ((with_reducible refine x_reg_lit ?hq ?_); case hq => rfl)
            | ((first | (with_reducible first | refine x_op (fun K hK => ?_) | refine end_ret ?_ | refine end_normal ?_) | ((with_reducible refine x_guard_yes ?hy (fun K hK => ?_)); case hy => rfl)); simp only [go_sem, Int.cast_ofNat_Int, Nat.reduceEqDiff, Nat.reduceAdd, Nat.reduceMul, Nat.reduceLeDiff, Nat.reduceLT, Int.reduceLT, Int.reduceLE, Int.reduceEq, Int.reduceNeg, Int.reduceToNat, Nat.reducePow, reduceIte, reduceCtorEq, i0', i1, i6, i8', i9, hlt, z1, t1, t2, cz, cw, t3, t4])
            | ((with_reducible first | refine x_guard_no ?hy ?_ | refine x_cond_true ?hy ?_); case hy => rfl)
            | ((with_reducible first | refine x_guard_none ?hy ?_ | refine x_cond_false ?hy ?_); case hy => rfl)
            | ((with_reducible refine block_exit_ne ?hy ?_); case hy => decide))
        all_goals
          refine m_join (k := w) (j := i + 1) (xs := all) (ys := [i + 1]) (R := []) hM3.fo (by rw [hmade, hrows]; exact List.Perm.swap _ _ _) (List.mem_of_getElem? hw) (by simp) ?_
          intro H4 hF4 hf4
          have hM4 := hM3.op hF4 hf4
          repeat' (first
            | (with_reducible first | refine seq_normal ?_ | (refine hK _ _ ?_; clear hK K) | refine x_seq (fun K hK => ?_) | refine x_nil ?_ | refine x_block ?_ | refine x_skip ?_ | refine x_exit ?_ | refine x_ret ?_ | refine x_label ?_ | refine x_scope ?_ | (refine seq_ret ?_; clear hK K) | (refine seq_exit ?_; clear hK K) | refine block_normal ?_ | refine block_ret ?_ | refine block_exit ?_ | refine loop_exit ?_ | refine loop_ret ?_)
            | ((with_reducible refine x_reg_lit ?hq ?_); case hq => rfl)
            | ((first | (with_reducible first | refine x_op (fun K hK => ?_) | refine end_ret ?_ | refine end_normal ?_) | ((with_reducible refine x_guard_yes ?hy (fun K hK => ?_)); case hy => rfl)); simp only [go_sem, Int.cast_ofNat_Int, Nat.reduceEqDiff, Nat.reduceAdd, Nat.reduceMul, Nat.reduceLeDiff, Nat.reduceLT, Int.reduceLT, Int.reduceLE, Int.reduceEq, Int.reduceNeg, Int.reduceToNat, Nat.reducePow, reduceIte, reduceCtorEq, i0', i1, i6, i8, i9])
            | ((with_reducible first | refine x_guard_no ?hy ?_ | refine x_cond_true ?hy ?_); case hy => rfl)
            | ((with_reducible first | refine x_guard_none ?hy ?_ | refine x_cond_false ?hy ?_); case hy => rfl)
            | ((with_reducible refine block_exit_ne ?hy ?_); case hy => decide))
          refine append_ir elems23 tl3 hM4.ir rfl (by decide) (by simp [hall]; omega) rfl ?_
          intro v6 H6 B6 hi6 hf6 hB6
          have hM6 := hM4.list (all' := all ++ [i + 1]) (by simpa using hi6) hf6 hB6
          repeat' (first
            | (with_reducible first | refine seq_normal ?_ | (refine hK _ _ ?_; clear hK K) | refine x_seq (fun K hK => ?_) | refine x_nil ?_ | refine x_block ?_ | refine x_skip ?_ | refine x_exit ?_ | refine x_ret ?_ | refine x_label ?_ | refine x_scope ?_ | (refine seq_ret ?_; clear hK K) | (refine seq_exit ?_; clear hK K) | refine block_normal ?_ | refine block_ret ?_ | refine block_exit ?_ | refine loop_exit ?_ | refine loop_ret ?_)
            | ((with_reducible refine x_reg_lit ?hq ?_); case hq => rfl)
            | ((first | (with_reducible first | refine x_op (fun K hK => ?_) | refine end_ret ?_ | refine end_normal ?_) | ((with_reducible refine x_guard_yes ?hy (fun K hK => ?_)); case hy => rfl)); simp only [go_sem, Int.cast_ofNat_Int, Nat.reduceEqDiff, Nat.reduceAdd, Nat.reduceMul, Nat.reduceLeDiff, Nat.reduceLT, Int.reduceLT, Int.reduceLE, Int.reduceEq, Int.reduceNeg, Int.reduceToNat, Nat.reducePow, reduceIte, reduceCtorEq, i9, ew])
            | ((with_reducible first | refine x_guard_no ?hy ?_ | refine x_cond_true ?hy ?_); case hy => rfl)
            | ((with_reducible first | refine x_guard_none ?hy ?_ | refine x_cond_false ?hy ?_); case hy => rfl)
            | ((with_reducible refine block_exit_ne ?hy ?_); case hy => decide))
          refine loop_normal (m' := xs.length - (i + 1)) (by omega) ⟨i + 1, T3, _, B6, v6, all ++ [i + 1], rfl, rfl, hM6, by simp, by simp [hall], hmfree, hmtop, hroom, ?_, by omega, rfl⟩
          rw [htake]
          simp only [List.map_append, List.map_cons, List.map_nil]
          rw [hmitn, hmap]
          exact hperm.append_right [x]
  · have hi' : i = xs.length := by omega
    have t1 : (i < xs.length) = False := by simp; omega
    repeat' (first
      | (with_reducible first | refine seq_normal ?_ | (refine hK _ _ ?_; clear hK K) | refine x_seq (fun K hK => ?_) | refine x_nil ?_ | refine x_block ?_ | refine x_skip ?_ | refine x_exit ?_ | refine x_ret ?_ | refine x_label ?_ | refine x_scope ?_ | (refine seq_ret ?_; clear hK K) | (refine seq_exit ?_; clear hK K) | refine block_normal ?_ | refine block_ret ?_ | refine block_exit ?_ | refine loop_exit ?_ | refine loop_ret ?_)
      | ((with_reducible refine x_reg_lit ?hq ?_); case hq => rfl)
      | ((first | (with_reducible first | refine x_op (fun K hK => ?_) | refine end_ret ?_ | refine end_normal ?_) | ((with_reducible refine x_guard_yes ?hy (fun K hK => ?_)); case hy => rfl)); simp only [go_sem, Int.cast_ofNat_Int, Nat.reduceEqDiff, Nat.reduceAdd, Nat.reduceMul, Nat.reduceLeDiff, Nat.reduceLT, Int.reduceLT, Int.reduceLE, Int.reduceEq, Int.reduceNeg, Int.reduceToNat, Nat.reducePow, reduceIte, reduceCtorEq, i0, i9, i6, i8, t1])
      | ((with_reducible first | refine x_guard_no ?hy ?_ | refine x_cond_true ?hy ?_); case hy => rfl)
      | ((with_reducible first | refine x_guard_none ?hy ?_ | refine x_cond_false ?hy ?_); case hy => rfl)
      | ((with_reducible refine block_exit_ne ?hy ?_); case hy => decide))
    rw [if_neg (by omega)] at hrows
    refine fin _ _ _ _ _ _ _ hM hrows (by omega) hfree (by omega) hroom ?_
    rw [hi', List.take_length] at hperm
    exact hperm
end Go.Proofs.Ytndkbhlfbeiniaa
