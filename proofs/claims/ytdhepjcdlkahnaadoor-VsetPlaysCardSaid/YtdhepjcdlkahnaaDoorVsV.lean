/-
  makes, kind 1 (Of a list) and any other kind.
-/
import Derived.Test.YtdhepjcdlkahnaaDoorVsU
namespace Go.Hp
open Go
set_option linter.unusedVariables false
def insL (zs : Nat → Int) (n : Nat) : List Int := (List.range n).map zs
theorem insL_len (zs : Nat → Int) (n : Nat) : (insL zs n).length = n := by unfold insL; simp
theorem insL_at (zs : Nat → Int) {n i : Nat} (h : i < n) : (insL zs n)[i]? = some (zs i) := by unfold insL; rw [List.getElem?_map, List.getElem?_range h]; rfl
theorem readL_in {H : Heap} {p : Addr} {zs : Nat → Int} : ∀ (n i : Nat), (∀ j, j < n → hcell H (p.add (i + j)) = some (.int .i64 (zs (i + j)))) → readL H p i n = some (((List.range' i n).map zs).map (Value.int .i64))
  | 0, i, _ => rfl
  | n + 1, i, h => by
    unfold readL
    have h0 := h 0 (by omega)
    rw [Nat.add_zero] at h0
    rw [h0, readL_in n (i + 1) fun j hj => by rw [show i + 1 + j = i + (j + 1) by omega]; exact h (j + 1) (by omega)]
    rfl
theorem append_in {P : Program} {t e : TypeId} {te : TL} {H : Heap} {a : Option Addr} {len cap : Nat} {zs : Nat → Int} {K : Value → Heap → Prop} (he : elems P t = some (none, e, 1)) (ht : tl P e = some te) (hin : InInts H a len zs) (hb0 : 0 < te.bytes) (hb : 2 * (0 + len) * te.bytes ≤ 2 ^ 48) (hz : te.zero.cells.size = 1)
    (hk : ∀ v' H' B', IR H' B' v' (insL zs len) → Fr (fun _ => False) H H' → (B' = none ∨ ∃ g, B' = some g ∧ H.size ≤ g) → K v' H') : appendX P t (.slice none 0 0) (.slice a len cap) H K := by
  cases a with
  | none =>
    have h0 : len = 0 := by
      rcases Nat.eq_zero_or_pos len with h | h
      · exact h
      · obtain ⟨p, hp, _⟩ := hin 0 h; cases hp
    subst h0
    unfold appendX
    rw [he]
    simp only [ht]
    refine ⟨0, [], ⟨rfl, rfl, rfl⟩, ?_⟩
    rw [if_pos (by omega)]
    exact hk _ _ none (IR.nil H) (.refl _ _) (.inl rfl)
  | some p =>
    have hr : readL H p 0 (len * 1) = some ((insL zs len).map (Value.int .i64)) := by
      rw [Nat.mul_one, readL_in len 0 fun j hj => by
        obtain ⟨p', hp, hc, _⟩ := hin j hj
        obtain rfl := Option.some.inj hp
        rw [Nat.zero_add]; exact hc]
      unfold insL
      rw [List.range_eq_range']
    refine append_own he ht (B := none) (n := 0) (l := []) ⟨rfl, .inl ⟨rfl, rfl, rfl⟩⟩ (.inl ⟨p, cap, rfl, hr⟩) (by intro v hv; obtain ⟨x, _, rfl⟩ := List.mem_map.1 hv; rfl) hb0 hb (by rw [List.length_map, insL_len]; omega) hz ?_
    intro v' H' B' ho hf hB
    refine hk v' H' B' ?_ (hf.mono fun b _ h => by cases h) hB
    unfold IR
    rw [List.nil_append, Nat.zero_add] at ho
    rw [insL_len]; exact ho
theorem rds_in {H : Heap} {a : Option Addr} {len cap : Nat} {zs : Nat → Int} (hin : InInts H a len zs) : ∃ B, Rds H B (.slice a len cap) (insL zs len) := by
  refine ⟨a.map (·.block), a, cap, by rw [insL_len], fun i x hx => ?_⟩
  have hi : i < len := by
    have := (List.getElem?_eq_some_iff.1 hx).1
    rwa [insL_len] at this
  rw [insL_at zs hi] at hx
  obtain rfl := Option.some.inj hx
  obtain ⟨p, rfl, h0, _⟩ := hin 0 (by omega)
  obtain ⟨p', hp', hc, _⟩ := hin i hi
  obtain rfl := Option.some.inj hp'
  obtain ⟨b, o, s⟩ := p
  have hs : s = none := by
    cases s with
    | none => rfl
    | some s =>
      unfold hcell at h0
      have e0 : (⟨b, o, some s⟩ : Addr).add 0 = ⟨b, o, some s⟩ := rfl
      rw [e0] at h0
      simp only [] at h0
      split at h0
      · simp at h0
      · cases h0
  subst hs
  rw [add_mk] at hc
  exact ⟨b, o, rfl, rfl, hc⟩
end Go.Hp
namespace Go.Proofs.YtdhepjcdlkahnaaDoor
open Go Go.Hp Go.Vs
set_option linter.all false
set_option maxRecDepth 100000
set_option maxHeartbeats 1600000

theorem of_cases (l : List Int) : (ofQ l).2 = 0 ∨ ((ofQ l).2 = 1 ∧ (ofQ l).1 = 0#64) := by unfold ofQ; cases l.all okN <;> simp
theorem makes1 {H : Heap} {bk : Nat} {xs : List B64} {va vw : Value} {s t n : Int} {la : Option Addr} {ln lc : Nat} {K : Value → Heap → Prop} {zs : Nat → Int} (hin : InInts H la ln zs) (hsz : 2 * (ln + 1) * 8 ≤ 2 ^ 48) (hB : BK H bk xs xs va vw) (hs : Fit s) (ht : Fit t)
    (hk : ∀ H' xs', BK H' bk xs' xs' va vw → Fr (· = bk) H H' → K (.bool true) H') : CallsH Tryd.prog 17 #[.pointer (some ⟨bk, 0, none⟩), opV 1 s t n la ln lc] H K := by
  have hs0 : ∀ y : B64, sv y = .agg #[.int .u64 (y.toNat : Int)] := fun _ => rfl
  obtain ⟨kind, hkind⟩ : ∃ z : Int, z = 1 := ⟨_, rfl⟩
  obtain ⟨i, ei, hi⟩ := pick4 s
  obtain ⟨k, ek, hk4⟩ := pick4 t
  obtain ⟨x, hx⟩ : ∃ x, xs[i]? = some x := ⟨_, List.getElem?_eq_getElem (by rw [hB.lx]; exact hi)⟩
  have hlt := hB.b.lt
  unfold opV
  refine call17 (by simp) ?_
  simp only [Tryd.f17, Option.getD_some]
  repeat' (first
    | (with_reducible first | refine seq_normal ?_ | (refine hK _ _ ?_; clear hK K) | refine x_seq (fun K hK => ?_) | refine x_nil ?_ | refine x_block ?_ | refine x_skip ?_ | refine x_exit ?_ | refine x_ret ?_ | refine x_label ?_ | refine x_scope ?_ | (refine seq_ret ?_; clear hK K) | (refine seq_exit ?_; clear hK K) | refine block_normal ?_ | refine block_ret ?_ | refine block_exit ?_ | refine loop_exit ?_ | refine loop_ret ?_)
    | ((with_reducible refine x_reg_lit ?hq ?_); case hq => rfl)
    | ((first | (with_reducible first | refine x_op (fun K hK => ?_) | refine end_ret ?_ | refine end_normal ?_) | ((with_reducible refine x_guard_yes ?hy (fun K hK => ?_)); case hy => rfl)); simp only [go_sem, Int.cast_ofNat_Int, Nat.reduceEqDiff, Nat.reduceAdd, Nat.reduceMul, Nat.reduceLeDiff, Nat.reduceLT, Int.reduceLT, Int.reduceLE, Int.reduceEq, Int.reduceNeg, Int.reduceToNat, Nat.reducePow, reduceIte, reduceCtorEq, hcell_push, hcell_top, okW_push, okW_top, hcell_hset_ne, hcell_hset_off, hcell_hset_eq, okW_hset, hset_size, Array.size_push, Nat.lt_add_one, ne_add_one, add_one_ne, Nat.add_assoc, add_same, add_lt_same, Nat.reduceEqDiff, lt_add_k, add_k_ne, ne_add_k])
    | ((with_reducible first | refine x_guard_no ?hy ?_ | refine x_cond_true ?hy ?_); case hy => rfl)
    | ((with_reducible first | refine x_guard_none ?hy ?_ | refine x_cond_false ?hy ?_); case hy => rfl)
    | ((with_reducible refine block_exit_ne ?hy ?_); case hy => decide))
  refine Pkisthmuslaw09.pick_ok hs.1 hs.2 (by decide) ?_
  rw [ei]
  repeat' (first
    | (with_reducible first | refine seq_normal ?_ | (refine hK _ _ ?_; clear hK K) | refine x_seq (fun K hK => ?_) | refine x_nil ?_ | refine x_block ?_ | refine x_skip ?_ | refine x_exit ?_ | refine x_ret ?_ | refine x_label ?_ | refine x_scope ?_ | (refine seq_ret ?_; clear hK K) | (refine seq_exit ?_; clear hK K) | refine block_normal ?_ | refine block_ret ?_ | refine block_exit ?_ | refine loop_exit ?_ | refine loop_ret ?_)
    | ((with_reducible refine x_reg_lit ?hq ?_); case hq => rfl)
    | ((first | (with_reducible first | refine x_op (fun K hK => ?_) | refine end_ret ?_ | refine end_normal ?_) | ((with_reducible refine x_guard_yes ?hy (fun K hK => ?_)); case hy => rfl)); simp only [go_sem, Int.cast_ofNat_Int, Nat.reduceEqDiff, Nat.reduceAdd, Nat.reduceMul, Nat.reduceLeDiff, Nat.reduceLT, Int.reduceLT, Int.reduceLE, Int.reduceEq, Int.reduceNeg, Int.reduceToNat, Nat.reducePow, reduceIte, reduceCtorEq, hcell_push, hcell_top, okW_push, okW_top, hcell_hset_ne, hcell_hset_off, hcell_hset_eq, okW_hset, hset_size, Array.size_push, Nat.lt_add_one, ne_add_one, add_one_ne, Nat.add_assoc, add_same, add_lt_same, Nat.reduceEqDiff, lt_add_k, add_k_ne, ne_add_k])
    | ((with_reducible first | refine x_guard_no ?hy ?_ | refine x_cond_true ?hy ?_); case hy => rfl)
    | ((with_reducible first | refine x_guard_none ?hy ?_ | refine x_cond_false ?hy ?_); case hy => rfl)
    | ((with_reducible refine block_exit_ne ?hy ?_); case hy => decide))
  refine Pkisthmuslaw09.pick_ok ht.1 ht.2 (by decide) ?_
  rw [ek]
  repeat' (first
    | (with_reducible first | refine seq_normal ?_ | (refine hK _ _ ?_; clear hK K) | refine x_seq (fun K hK => ?_) | refine x_nil ?_ | refine x_block ?_ | refine x_skip ?_ | refine x_exit ?_ | refine x_ret ?_ | refine x_label ?_ | refine x_scope ?_ | (refine seq_ret ?_; clear hK K) | (refine seq_exit ?_; clear hK K) | refine block_normal ?_ | refine block_ret ?_ | refine block_exit ?_ | refine loop_exit ?_ | refine loop_ret ?_)
    | ((with_reducible refine x_reg_lit ?hq ?_); case hq => rfl)
    | ((first | (with_reducible first | refine x_op (fun K hK => ?_) | refine end_ret ?_ | refine end_normal ?_) | ((with_reducible refine x_guard_yes ?hy (fun K hK => ?_)); case hy => rfl)); simp only [go_sem, Int.cast_ofNat_Int, Nat.reduceEqDiff, Nat.reduceAdd, Nat.reduceMul, Nat.reduceLeDiff, Nat.reduceLT, Int.reduceLT, Int.reduceLE, Int.reduceEq, Int.reduceNeg, Int.reduceToNat, Nat.reducePow, reduceIte, reduceCtorEq, hcell_push, hcell_top, okW_push, okW_top, hcell_hset_ne, hcell_hset_off, hcell_hset_eq, okW_hset, hset_size, Array.size_push, Nat.lt_add_one, ne_add_one, add_one_ne, Nat.add_assoc, add_same, add_lt_same, Nat.reduceEqDiff, lt_add_k, add_k_ne, ne_add_k])
    | ((with_reducible first | refine x_guard_no ?hy ?_ | refine x_cond_true ?hy ?_); case hy => rfl)
    | ((with_reducible first | refine x_guard_none ?hy ?_ | refine x_cond_false ?hy ?_); case hy => rfl)
    | ((with_reducible refine block_exit_ne ?hy ?_); case hy => decide))
  have f1 : Fr (fun _ => False) H (H.push (.cells #[.int .i64 1, .int .i64 s, .int .i64 t, .int .i64 n, .slice la ln lc] 49)) := (Fr.refl _ _).push _
  have q : MS bk xs va vw H.size (opL kind s t n la ln lc) (H.push (.cells #[.int .i64 1, .int .i64 s, .int .i64 t, .int .i64 n, .slice la ln lc] 49)) := ⟨hB.frame f1 (fun h => h), by subst hkind; exact Blk.new H _ _⟩
  have s1 := f1.size
  generalize H.push (.cells #[.int .i64 1, .int .i64 s, .int .i64 t, .int .i64 n, .slice la ln lc] 49) = H1 at q f1 s1 ⊢
  generalize hb3 : H.size = b3 at *
  have t4 : ((i : Int) < 4) = True := eq_true (by omega)
  have hltH1 : b3 < H1.size := q.2.lt
  have hin1 := hin.frame f1
  refine x_env fun e1 he1 => ?_
  have j0 : e1 0 = .pointer (some ⟨bk, 0, none⟩) := by rw [he1]; rfl
  have j3 : e1 3 = .pointer (some ⟨b3, 0, none⟩) := by rw [he1]; rfl
  have j5 : e1 5 = .int .i64 (i : Int) := by rw [he1]; rfl
  clear he1
  have tailA : ∀ (e' : Env) (H' : Heap) (g c : Nat), e' 0 = e1 0 → e' 3 = e1 3 → e' 5 = e1 5 → e' 7 = .slice (some ⟨g, 0, none⟩) ln c → IR H' (some g) (.slice (some ⟨g, 0, none⟩) (ln + 1) c) ((insL zs ln) ++ [77]) → ln + 1 ≤ c → H1.size ≤ g → Fr (fun _ => False) H1 H' → K e' H' := by
    intro e2 H2 g c p0 p3 p5 p7 hr hcc hg fA
    have r0 := p0.trans j0
    have r3 := p3.trans j3
    have r5 := p5.trans j5
    clear p0 p3 p5 j0 j3 j5
    refine hK _ _ ?_
    clear hK K
    have hR : Rds H2 (some g) (.slice (some ⟨g, 0, none⟩) ln c) (insL zs ln) := ⟨_, _, by rw [insL_len], fun i x hi => ⟨g, 0, rfl, rfl, by
      rw [Nat.zero_add]
      exact hr.cell (by rw [List.getElem?_append_left ((List.getElem?_eq_some_iff.1 hi).1)]; exact hi)⟩⟩
    have c77 : hcell H2 ⟨g, ln, none⟩ = some (.int .i64 77) := hr.cell (by rw [List.getElem?_append_right (by rw [insL_len]; exact Nat.le_refl _), insL_len, Nat.sub_self]; rfl)
    have hglt := hr.lt rfl
    have qA := q.grow fA
    have fA' := f1.trans fA
    have hl63 : (insL zs ln).length ≤ 9223372036854775807 := by rw [insL_len]; omega
    repeat' (first
      | (with_reducible first | refine seq_normal ?_ | (refine hK _ _ ?_; clear hK K) | refine x_seq (fun K hK => ?_) | refine x_nil ?_ | refine x_block ?_ | refine x_skip ?_ | refine x_exit ?_ | refine x_ret ?_ | refine x_label ?_ | refine x_scope ?_ | (refine seq_ret ?_; clear hK K) | (refine seq_exit ?_; clear hK K) | refine block_normal ?_ | refine block_ret ?_ | refine block_exit ?_ | refine loop_exit ?_ | refine loop_ret ?_)
      | ((with_reducible refine x_reg_lit ?hq ?_); case hq => rfl)
      | ((first | (with_reducible first | refine x_op (fun K hK => ?_) | refine end_ret ?_ | refine end_normal ?_) | ((with_reducible refine x_guard_yes ?hy (fun K hK => ?_)); case hy => rfl)); simp only [go_sem, Int.cast_ofNat_Int, Nat.reduceEqDiff, Nat.reduceAdd, Nat.reduceMul, Nat.reduceLeDiff, Nat.reduceLT, Int.reduceLT, Int.reduceLE, Int.reduceEq, Int.reduceNeg, Int.reduceToNat, Nat.reducePow, reduceIte, reduceCtorEq, p7])
      | ((with_reducible first | refine x_guard_no ?hy ?_ | refine x_cond_true ?hy ?_); case hy => rfl)
      | ((with_reducible first | refine x_guard_none ?hy ?_ | refine x_cond_false ?hy ?_); case hy => rfl)
      | ((with_reducible refine block_exit_ne ?hy ?_); case hy => decide))
    refine of_ok hR hl63 fun H3 f3 => ?_
    rw [hs0]
    have fB := fA'.trans f3
    have qB := qA.grow f3
    repeat' (first
      | (with_reducible first | refine seq_normal ?_ | (refine hK _ _ ?_; clear hK K) | refine x_seq (fun K hK => ?_) | refine x_nil ?_ | refine x_block ?_ | refine x_skip ?_ | refine x_exit ?_ | refine x_ret ?_ | refine x_label ?_ | refine x_scope ?_ | (refine seq_ret ?_; clear hK K) | (refine seq_exit ?_; clear hK K) | refine block_normal ?_ | refine block_ret ?_ | refine block_exit ?_ | refine loop_exit ?_ | refine loop_ret ?_)
      | ((with_reducible refine x_reg_lit ?hq ?_); case hq => rfl)
      | ((first | (with_reducible first | refine x_op (fun K hK => ?_) | refine end_ret ?_ | refine end_normal ?_) | ((with_reducible refine x_guard_yes ?hy (fun K hK => ?_)); case hy => rfl)); simp only [go_sem, Int.cast_ofNat_Int, Nat.reduceEqDiff, Nat.reduceAdd, Nat.reduceMul, Nat.reduceLeDiff, Nat.reduceLT, Int.reduceLT, Int.reduceLE, Int.reduceEq, Int.reduceNeg, Int.reduceToNat, Nat.reducePow, reduceIte, reduceCtorEq, hcell_push, hcell_top, okW_push, okW_top, hcell_hset_ne, hcell_hset_off, hcell_hset_eq, okW_hset, hset_size, Array.size_push, Nat.lt_add_one, ne_add_one, add_one_ne, Nat.add_assoc, add_same, add_lt_same, Nat.reduceEqDiff, lt_add_k, add_k_ne, ne_add_k])
      | ((with_reducible first | refine x_guard_no ?hy ?_ | refine x_cond_true ?hy ?_); case hy => rfl)
      | ((with_reducible first | refine x_guard_none ?hy ?_ | refine x_cond_false ?hy ?_); case hy => rfl)
      | ((with_reducible refine block_exit_ne ?hy ?_); case hy => decide))
    have b8 := (Blk.new H3 [.int .u64 0] 26).set_same 0 (.int .u64 ((ofQ (insL zs ln)).1.toNat : Int))
    simp only [List.set_cons_zero] at b8
    have f4 : Fr (fun _ => False) H3 (hset (H3.push (.cells #[.int .u64 0] 26)) ⟨H3.size, 0, none⟩ (.int .u64 ((ofQ (insL zs ln)).1.toNat : Int))) := (by ((repeat (first | refine Fr.set ?_ (by simp) _ | refine Fr.push ?_ _)); exact Fr.refl _ _))
    have fC := fB.trans f4
    have qC := qB.grow f4
    have f4' := (fA.trans f3).trans f4
    generalize hset (H3.push (.cells #[.int .u64 0] 26)) ⟨H3.size, 0, none⟩ (.int .u64 ((ofQ (insL zs ln)).1.toNat : Int)) = H4 at b8 f4 fC qC f4' ⊢
    generalize H3.size = q8 at *
    have c4 : hcell H4 ⟨b3, 4, none⟩ = some (.slice la ln lc) := qC.2.cellOf (i := 4) rfl
    simp only [go_sem, Int.cast_ofNat_Int, Nat.reduceEqDiff, Nat.reduceAdd, Nat.reduceMul, Nat.reduceLeDiff, Nat.reduceLT, Int.reduceLT, Int.reduceLE, Int.reduceEq, Int.reduceNeg, Int.reduceToNat, Nat.reducePow, reduceIte, reduceCtorEq, r3]
    repeat' (first
      | (with_reducible first | refine seq_normal ?_ | (refine hK _ _ ?_; clear hK K) | refine x_seq (fun K hK => ?_) | refine x_nil ?_ | refine x_block ?_ | refine x_skip ?_ | refine x_exit ?_ | refine x_ret ?_ | refine x_label ?_ | refine x_scope ?_ | (refine seq_ret ?_; clear hK K) | (refine seq_exit ?_; clear hK K) | refine block_normal ?_ | refine block_ret ?_ | refine block_exit ?_ | refine loop_exit ?_ | refine loop_ret ?_)
      | ((with_reducible refine x_reg_lit ?hq ?_); case hq => rfl)
      | ((first | (with_reducible first | refine x_op (fun K hK => ?_) | refine end_ret ?_ | refine end_normal ?_) | ((with_reducible refine x_guard_yes ?hy (fun K hK => ?_)); case hy => rfl)); simp only [go_sem, Int.cast_ofNat_Int, Nat.reduceEqDiff, Nat.reduceAdd, Nat.reduceMul, Nat.reduceLeDiff, Nat.reduceLT, Int.reduceLT, Int.reduceLE, Int.reduceEq, Int.reduceNeg, Int.reduceToNat, Nat.reducePow, reduceIte, reduceCtorEq, r3, c4])
      | ((with_reducible first | refine x_guard_no ?hy ?_ | refine x_cond_true ?hy ?_); case hy => rfl)
      | ((with_reducible first | refine x_guard_none ?hy ?_ | refine x_cond_false ?hy ?_); case hy => rfl)
      | ((with_reducible refine block_exit_ne ?hy ?_); case hy => decide))
    obtain ⟨BL, hRL⟩ := rds_in (cap := lc) (hin1.frame f4')
    refine dof_ok hRL hl63 fun H5 f5 => ?_
    repeat' (first
      | (with_reducible first | refine seq_normal ?_ | (refine hK _ _ ?_; clear hK K) | refine x_seq (fun K hK => ?_) | refine x_nil ?_ | refine x_block ?_ | refine x_skip ?_ | refine x_exit ?_ | refine x_ret ?_ | refine x_label ?_ | refine x_scope ?_ | (refine seq_ret ?_; clear hK K) | (refine seq_exit ?_; clear hK K) | refine block_normal ?_ | refine block_ret ?_ | refine block_exit ?_ | refine loop_exit ?_ | refine loop_ret ?_)
      | ((with_reducible refine x_reg_lit ?hq ?_); case hq => rfl)
      | ((first | (with_reducible first | refine x_op (fun K hK => ?_) | refine end_ret ?_ | refine end_normal ?_) | ((with_reducible refine x_guard_yes ?hy (fun K hK => ?_)); case hy => rfl)); simp only [go_sem, Int.cast_ofNat_Int, Nat.reduceEqDiff, Nat.reduceAdd, Nat.reduceMul, Nat.reduceLeDiff, Nat.reduceLT, Int.reduceLT, Int.reduceLE, Int.reduceEq, Int.reduceNeg, Int.reduceToNat, Nat.reducePow, reduceIte, reduceCtorEq, hcell_push, hcell_top, okW_push, okW_top, hcell_hset_ne, hcell_hset_off, hcell_hset_eq, okW_hset, hset_size, Array.size_push, Nat.lt_add_one, ne_add_one, add_one_ne, Nat.add_assoc, add_same, add_lt_same, Nat.reduceEqDiff, lt_add_k, add_k_ne, ne_add_k])
      | ((with_reducible first | refine x_guard_no ?hy ?_ | refine x_cond_true ?hy ?_); case hy => rfl)
      | ((with_reducible first | refine x_guard_none ?hy ?_ | refine x_cond_false ?hy ?_); case hy => rfl)
      | ((with_reducible refine block_exit_ne ?hy ?_); case hy => decide))
    have f6 : Fr (fun _ => False) H5 (H5.push (.cells (bools 0#64).toArray 42)) := (Fr.refl _ _).push _
    have b10 := Blk.new H5 (bools 0#64) 42
    refine ⟨bools_len _, store64 (o := 0) b10 (by rw [bools_len]; decide) fun H7 h7 f7 s7 => ?_⟩
    rw [over64] at h7
    have f8 : Fr (fun _ => False) H4 H7 := (f5.trans f6).trans' f7 fun b hb e => by subst e; have := f5.size; omega
    generalize H5.size = q10 at *
    clear f6 f7 b10
    have fD := fC.trans f8
    have qD := qC.grow f8
    have b8' := b8.frame f8 (fun h => h)
    have c7 : hcell H7 ⟨b3, 4, none⟩ = some (.slice la ln lc) := qD.2.cellOf (i := 4) rfl
    have hR7 := ((hR.frame f3 (fun _ _ h => h)).frame f4 (fun _ _ h => h)).frame f8 (fun _ _ h => h)
    have hRL7 := hRL.frame f8 (fun _ _ h => h)
    repeat' (first
      | (with_reducible first | refine seq_normal ?_ | (refine hK _ _ ?_; clear hK K) | refine x_seq (fun K hK => ?_) | refine x_nil ?_ | refine x_block ?_ | refine x_skip ?_ | refine x_exit ?_ | refine x_ret ?_ | refine x_label ?_ | refine x_scope ?_ | (refine seq_ret ?_; clear hK K) | (refine seq_exit ?_; clear hK K) | refine block_normal ?_ | refine block_ret ?_ | refine block_exit ?_ | refine loop_exit ?_ | refine loop_ret ?_)
      | ((with_reducible refine x_reg_lit ?hq ?_); case hq => rfl)
      | ((first | (with_reducible first | refine x_op (fun K hK => ?_) | refine end_ret ?_ | refine end_normal ?_) | ((with_reducible refine x_guard_yes ?hy (fun K hK => ?_)); case hy => rfl)); simp only [go_sem, Int.cast_ofNat_Int, Nat.reduceEqDiff, Nat.reduceAdd, Nat.reduceMul, Nat.reduceLeDiff, Nat.reduceLT, Int.reduceLT, Int.reduceLE, Int.reduceEq, Int.reduceNeg, Int.reduceToNat, Nat.reducePow, reduceIte, reduceCtorEq, p7, r3, c7])
      | ((with_reducible first | refine x_guard_no ?hy ?_ | refine x_cond_true ?hy ?_); case hy => rfl)
      | ((with_reducible first | refine x_guard_none ?hy ?_ | refine x_cond_false ?hy ?_); case hy => rfl)
      | ((with_reducible refine block_exit_ne ?hy ?_); case hy => decide))
    refine Pkisthmuslaw09.same_ok hR7 hRL7 (by rw [insL_len]; omega) ?_
    have dd : decide (insL zs ln = insL zs ln) = true := by simp
    rw [dd]
    have c8 := b8'.cellOf (i := 0) rfl
    repeat' (first
      | (with_reducible first | refine seq_normal ?_ | (refine hK _ _ ?_; clear hK K) | refine x_seq (fun K hK => ?_) | refine x_nil ?_ | refine x_block ?_ | refine x_skip ?_ | refine x_exit ?_ | refine x_ret ?_ | refine x_label ?_ | refine x_scope ?_ | (refine seq_ret ?_; clear hK K) | (refine seq_exit ?_; clear hK K) | refine block_normal ?_ | refine block_ret ?_ | refine block_exit ?_ | refine loop_exit ?_ | refine loop_ret ?_)
      | ((with_reducible refine x_reg_lit ?hq ?_); case hq => rfl)
      | ((first | (with_reducible first | refine x_op (fun K hK => ?_) | refine end_ret ?_ | refine end_normal ?_) | ((with_reducible refine x_guard_yes ?hy (fun K hK => ?_)); case hy => rfl)); simp only [go_sem, Int.cast_ofNat_Int, Nat.reduceEqDiff, Nat.reduceAdd, Nat.reduceMul, Nat.reduceLeDiff, Nat.reduceLT, Int.reduceLT, Int.reduceLE, Int.reduceEq, Int.reduceNeg, Int.reduceToNat, Nat.reducePow, reduceIte, reduceCtorEq, r0, r5, c8])
      | ((with_reducible first | refine x_guard_no ?hy ?_ | refine x_cond_true ?hy ?_); case hy => rfl)
      | ((with_reducible first | refine x_guard_none ?hy ?_ | refine x_cond_false ?hy ?_); case hy => rfl)
      | ((with_reducible refine block_exit_ne ?hy ?_); case hy => decide))
    refine load64z h7 ?_
    simp only [dv_fold, ← hs0]
    repeat' (first
      | (with_reducible first | refine seq_normal ?_ | (refine hK _ _ ?_; clear hK K) | refine x_seq (fun K hK => ?_) | refine x_nil ?_ | refine x_block ?_ | refine x_skip ?_ | refine x_exit ?_ | refine x_ret ?_ | refine x_label ?_ | refine x_scope ?_ | (refine seq_ret ?_; clear hK K) | (refine seq_exit ?_; clear hK K) | refine block_normal ?_ | refine block_ret ?_ | refine block_exit ?_ | refine loop_exit ?_ | refine loop_ret ?_)
      | ((with_reducible refine x_reg_lit ?hq ?_); case hq => rfl)
      | ((first | (with_reducible first | refine x_op (fun K hK => ?_) | refine end_ret ?_ | refine end_normal ?_) | ((with_reducible refine x_guard_yes ?hy (fun K hK => ?_)); case hy => rfl)); simp only [go_sem, Int.cast_ofNat_Int, Nat.reduceEqDiff, Nat.reduceAdd, Nat.reduceMul, Nat.reduceLeDiff, Nat.reduceLT, Int.reduceLT, Int.reduceLE, Int.reduceEq, Int.reduceNeg, Int.reduceToNat, Nat.reducePow, reduceIte, reduceCtorEq, r0, r5, c8])
      | ((with_reducible first | refine x_guard_no ?hy ?_ | refine x_cond_true ?hy ?_); case hy => rfl)
      | ((with_reducible first | refine x_guard_none ?hy ?_ | refine x_cond_false ?hy ?_); case hy => rfl)
      | ((with_reducible refine block_exit_ne ?hy ?_); case hy => decide))
    refine lays_ok qD.1 hi (of_cases _) fun H8 hB8 f8' => ?_
    have qg : g ≠ bk := by have := f1.size; omega
    have qb3 : b3 ≠ bk := by omega
    have c78 : hcell H8 ⟨g, ln, none⟩ = some (.int .i64 77) := by
      have s3 := f3.size
      have s4 := f4.size
      have s8 := f8.size
      rw [f8'.cell (by show g < H7.size; omega) qg, f8.cell (by show g < H4.size; omega) (fun h => h), f4.cell (by show g < H3.size; omega) (fun h => h), f3.cell hglt (fun h => h)]
      exact c77
    have c48 : hcell H8 ⟨b3, 4, none⟩ = some (.slice la ln lc) := by
      rw [f8'.cell (hcell_lt c7) qb3]; exact c7
    have ew : IntKind.i64.wrap ((ln : Int) + 1) = ((ln + 1 : Nat) : Int) := by rw [wrap_i64] <;> omega
    have hc0 : (c = 0) = False := eq_false (by omega)
    have hnc : (((ln + 1 : Nat) : Int) ≤ (c : Int)) = True := eq_true (by omega)
    have hnc' : (ln + 1 ≤ c) = True := eq_true (by omega)
    have hll : (ln < ln + 1) = True := eq_true (by omega)
    have hz : (0 ≤ ln + 1) = True := eq_true (by omega)
    repeat' (first
      | (with_reducible first | refine seq_normal ?_ | (refine hK _ _ ?_; clear hK K) | refine x_seq (fun K hK => ?_) | refine x_nil ?_ | refine x_block ?_ | refine x_skip ?_ | refine x_exit ?_ | refine x_ret ?_ | refine x_label ?_ | refine x_scope ?_ | (refine seq_ret ?_; clear hK K) | (refine seq_exit ?_; clear hK K) | refine block_normal ?_ | refine block_ret ?_ | refine block_exit ?_ | refine loop_exit ?_ | refine loop_ret ?_)
      | ((with_reducible refine x_reg_lit ?hq ?_); case hq => rfl)
      | ((first | (with_reducible first | refine x_op (fun K hK => ?_) | refine end_ret ?_ | refine end_normal ?_) | ((with_reducible refine x_guard_yes ?hy (fun K hK => ?_)); case hy => rfl)); simp only [go_sem, Int.cast_ofNat_Int, Nat.reduceEqDiff, Nat.reduceAdd, Nat.reduceMul, Nat.reduceLeDiff, Nat.reduceLT, Int.reduceLT, Int.reduceLE, Int.reduceEq, Int.reduceNeg, Int.reduceToNat, Nat.reducePow, reduceIte, reduceCtorEq, p7, r3, c48, ew, hc0, hnc, hnc', hll, c78, Nat.sub_zero, hz])
      | ((with_reducible first | refine x_guard_no ?hy ?_ | refine x_cond_true ?hy ?_); case hy => rfl)
      | ((with_reducible first | refine x_guard_none ?hy ?_ | refine x_cond_false ?hy ?_); case hy => rfl)
      | ((with_reducible refine block_exit_ne ?hy ?_); case hy => decide))
    exact hk _ _ hB8 ((fD.mono fun _ _ h => h.elim).trans f8')
  clear hK
  refine x_draw rfl (MS bk xs va vw b3 (opL kind s t n la ln lc)) [] q ?_
  refine anyH_take (i := 0) (v := .pointer (some ⟨b3, 4, none⟩)) (show _ = some (Oper.mk (some 32) _ _ _ _ none) from rfl) (by kernel_rfl) (still_of rfl fun H' hS => by simp only [go_sem, Int.cast_ofNat_Int, Nat.reduceEqDiff, Nat.reduceAdd, Nat.reduceMul, Nat.reduceLeDiff, Nat.reduceLT, Int.reduceLT, Int.reduceLE, Int.reduceEq, Int.reduceNeg, Int.reduceToNat, Nat.reducePow, reduceIte, reduceCtorEq, j3]) q ?_
  refine anyH_take (i := 1) (v := .slice la ln lc) (show _ = some (Oper.mk (some 33) _ _ _ _ none) from rfl) (by kernel_rfl) (still_of rfl fun H' hS => by simp only [go_sem, Int.cast_ofNat_Int, Nat.reduceEqDiff, Nat.reduceAdd, Nat.reduceMul, Nat.reduceLeDiff, Nat.reduceLT, Int.reduceLT, Int.reduceLE, Int.reduceEq, Int.reduceNeg, Int.reduceToNat, Nat.reducePow, reduceIte, reduceCtorEq, hS.2.cellOf (i := 4) rfl]) q ?_
  refine anyH_take (i := 5) (v := .pointer (some ⟨b3, 4, none⟩)) (show _ = some (Oper.mk (some 37) _ _ _ _ none) from rfl) (by kernel_rfl) (still_of rfl fun H' hS => by simp only [go_sem, Int.cast_ofNat_Int, Nat.reduceEqDiff, Nat.reduceAdd, Nat.reduceMul, Nat.reduceLeDiff, Nat.reduceLT, Int.reduceLT, Int.reduceLE, Int.reduceEq, Int.reduceNeg, Int.reduceToNat, Nat.reducePow, reduceIte, reduceCtorEq, j3]) q ?_
  refine anyH_take (i := 6) (v := .slice la ln lc) (show _ = some (Oper.mk (some 38) _ _ _ _ none) from rfl) (by kernel_rfl) (still_of rfl fun H' hS => by simp only [go_sem, Int.cast_ofNat_Int, Nat.reduceEqDiff, Nat.reduceAdd, Nat.reduceMul, Nat.reduceLeDiff, Nat.reduceLT, Int.reduceLT, Int.reduceLE, Int.reduceEq, Int.reduceNeg, Int.reduceToNat, Nat.reducePow, reduceIte, reduceCtorEq, hS.2.cellOf (i := 4) rfl]) q ?_
  refine anyH_take (i := 7) (v := .int .i64 (ln : Int)) (show _ = some (Oper.mk (some 39) _ _ _ _ none) from rfl) (by kernel_rfl) (still_of rfl fun H' hS => by simp only [go_sem, Int.cast_ofNat_Int, Nat.reduceEqDiff, Nat.reduceAdd, Nat.reduceMul, Nat.reduceLeDiff, Nat.reduceLT, Int.reduceLT, Int.reduceLE, Int.reduceEq, Int.reduceNeg, Int.reduceToNat, Nat.reducePow, reduceIte, reduceCtorEq]) q ?_
  refine anyH_two (i := 2) (j := 3) (by kernel_rfl) (show _ = some (Oper.mk (some 34) _ _ _ _ none) from rfl) (show _ = some (Oper.mk (some 35) _ _ _ _ none) from rfl) rfl rfl (fun K' hK' => ?_) (fun K' hK' => ?_)
  · simp only [go_sem, Int.cast_ofNat_Int, Nat.reduceEqDiff, Nat.reduceAdd, Nat.reduceMul, Nat.reduceLeDiff, Nat.reduceLT, Int.reduceLT, Int.reduceLE, Int.reduceEq, Int.reduceNeg, Int.reduceToNat, Nat.reducePow, reduceIte, reduceCtorEq]
    refine append_in elems22 tl3 hin1 (by decide) (by show 2 * (0 + ln) * 8 ≤ 2 ^ 48; omega) rfl fun v2 H2 B2 hr2 f2 hB2 => ?_
    refine hK' _ _ ⟨fun _ => q.grow f2, ?_⟩
    refine anyH_one (i := 3) (by kernel_rfl) (show _ = some (Oper.mk (some 35) _ _ _ _ none) from rfl) rfl (fun K' hK' => ?_)
    simp only [go_sem, Int.cast_ofNat_Int, Nat.reduceEqDiff, Nat.reduceAdd, Nat.reduceMul, Nat.reduceLeDiff, Nat.reduceLT, Int.reduceLT, Int.reduceLE, Int.reduceEq, Int.reduceNeg, Int.reduceToNat, Nat.reducePow, reduceIte, reduceCtorEq]
    have f3 : Fr (fun _ => False) H1 (H2.push (.cells #[.int .i64 77] 3)) := f2.push _
    refine hK' _ _ ⟨fun _ => q.grow f3, ?_⟩
    obtain ⟨a2, c2, hv2⟩ := hr2.slice
    rw [hv2] at hr2 ⊢
    refine anyH_one (i := 4) (by kernel_rfl) (show _ = some (Oper.mk (some 36) _ _ _ _ none) from rfl) rfl (fun K' hK' => ?_)
    simp only [go_sem, Int.cast_ofNat_Int, Nat.reduceEqDiff, Nat.reduceAdd, Nat.reduceMul, Nat.reduceLeDiff, Nat.reduceLT, Int.reduceLT, Int.reduceLE, Int.reduceEq, Int.reduceNeg, Int.reduceToNat, Nat.reducePow, reduceIte, reduceCtorEq]
    refine append_ir elems22 tl3 hr2 rfl (by decide) (by rw [insL_len]; show 2 * (ln + 1) * 8 ≤ 2 ^ 48; exact hsz) rfl fun v4 H4 B4 hr4 f4 hB4 => ?_
    have hBn : ∀ g, B2 = some g → H1.size ≤ g := fun g e => by
      rcases hB2 with rfl | ⟨g', rfl, h⟩
      · cases e
      · obtain rfl := Option.some.inj e; exact h
    have fH : Fr (fun _ => False) H1 H4 := f2.trans' f4 fun b hb e => by have := hBn b e; omega
    have s2 := f2.size
    obtain ⟨g, c, rest, hg, hv, hblk, hcl, hcc⟩ := hr4.row (by simp)
    subst hg
    subst hv
    rw [List.length_append, insL_len, List.length_singleton] at hcc hcl hr4
    have fA := fH
    refine hK' _ _ ⟨fun _ => q.grow fA, ?_⟩
    have hc0 : (c = 0) = False := eq_false (by omega)
    have hnc : ((ln : Int) ≤ (c : Int)) = True := eq_true (by omega)
    have hnc' : (ln ≤ c) = True := eq_true (by omega)
    refine anyH_take (i := 8) (v := .slice (some ⟨g, 0, none⟩) ln c) (show _ = some (Oper.mk (some 40) _ _ _ _ none) from rfl) (by kernel_rfl) (still_of rfl fun H' hS => by simp only [go_sem, Int.cast_ofNat_Int, Nat.reduceEqDiff, Nat.reduceAdd, Nat.reduceMul, Nat.reduceLeDiff, Nat.reduceLT, Int.reduceLT, Int.reduceLE, Int.reduceEq, Int.reduceNeg, Int.reduceToNat, Nat.reducePow, reduceIte, reduceCtorEq, hc0, hnc, hnc', insL_len, List.length_append, List.length_singleton, Nat.sub_zero]) (q.grow fA) ?_
    refine anyH_one (i := 9) (by kernel_rfl) (show _ = some (Oper.mk (some 7) _ _ _ _ none) from rfl) rfl (fun K' hK' => ?_)
    simp only [go_sem, Int.cast_ofNat_Int, Nat.reduceEqDiff, Nat.reduceAdd, Nat.reduceMul, Nat.reduceLeDiff, Nat.reduceLT, Int.reduceLT, Int.reduceLE, Int.reduceEq, Int.reduceNeg, Int.reduceToNat, Nat.reducePow, reduceIte, reduceCtorEq]
    refine hK' _ _ ⟨fun _ => q.grow fA, ?_⟩
    refine anyH_done (by kernel_rfl) ?_
    refine tailA _ _ g c rfl rfl rfl rfl ?_ hcc ?_ fA
    · exact hr4
    · rcases hB4 with h | ⟨g', h, h'⟩
      · have := hBn _ h.symm; omega
      · obtain rfl := Option.some.inj h; omega
  · simp only [go_sem, Int.cast_ofNat_Int, Nat.reduceEqDiff, Nat.reduceAdd, Nat.reduceMul, Nat.reduceLeDiff, Nat.reduceLT, Int.reduceLT, Int.reduceLE, Int.reduceEq, Int.reduceNeg, Int.reduceToNat, Nat.reducePow, reduceIte, reduceCtorEq]
    have f2 : Fr (fun _ => False) H1 (H1.push (.cells #[.int .i64 77] 3)) := (Fr.refl _ _).push _
    have b2 := Blk.new H1 [.int .i64 77] 3
    refine hK' _ _ ⟨fun _ => q.grow f2, ?_⟩
    refine anyH_one (i := 2) (by kernel_rfl) (show _ = some (Oper.mk (some 34) _ _ _ _ none) from rfl) rfl (fun K' hK' => ?_)
    simp only [go_sem, Int.cast_ofNat_Int, Nat.reduceEqDiff, Nat.reduceAdd, Nat.reduceMul, Nat.reduceLeDiff, Nat.reduceLT, Int.reduceLT, Int.reduceLE, Int.reduceEq, Int.reduceNeg, Int.reduceToNat, Nat.reducePow, reduceIte, reduceCtorEq]
    refine append_in elems22 tl3 (hin1.frame f2) (by decide) (by show 2 * (0 + ln) * 8 ≤ 2 ^ 48; omega) rfl fun v3 H3 B3 hr3 f3 hB3 => ?_
    have f3' := f2.trans f3
    have b3' := b2.frame f3 (fun h => h)
    refine hK' _ _ ⟨fun _ => q.grow f3', ?_⟩
    obtain ⟨a2, c2, hv2⟩ := hr3.slice
    rw [hv2] at hr3 ⊢
    refine anyH_one (i := 4) (by kernel_rfl) (show _ = some (Oper.mk (some 36) _ _ _ _ none) from rfl) rfl (fun K' hK' => ?_)
    simp only [go_sem, Int.cast_ofNat_Int, Nat.reduceEqDiff, Nat.reduceAdd, Nat.reduceMul, Nat.reduceLeDiff, Nat.reduceLT, Int.reduceLT, Int.reduceLE, Int.reduceEq, Int.reduceNeg, Int.reduceToNat, Nat.reducePow, reduceIte, reduceCtorEq]
    refine append_irs (ys := [77]) elems22 tl3 hr3 (readL_blk b3' 1 0 0 (by simp)) rfl (by decide) (by rw [insL_len]; show 2 * (ln + 1) * 8 ≤ 2 ^ 48; exact hsz) rfl fun v4 H4 B4 hr4 f4 hB4 => ?_
    have s1' : H1.size ≤ (H1.push (.cells #[.int .i64 77] 3)).size := f2.size
    have hBn : ∀ g, B3 = some g → H1.size ≤ g := fun g e => by
      rcases hB3 with rfl | ⟨g', rfl, h⟩
      · cases e
      · obtain rfl := Option.some.inj e; omega
    have fH : Fr (fun _ => False) H1 H4 := f3'.trans' f4 fun b hb e => by have := hBn b e; omega
    have s2 := f3'.size
    obtain ⟨g, c, rest, hg, hv, hblk, hcl, hcc⟩ := hr4.row (by simp)
    subst hg
    subst hv
    rw [List.length_append, insL_len, List.length_singleton] at hcc hcl hr4
    have fA := fH
    refine hK' _ _ ⟨fun _ => q.grow fA, ?_⟩
    have hc0 : (c = 0) = False := eq_false (by omega)
    have hnc : ((ln : Int) ≤ (c : Int)) = True := eq_true (by omega)
    have hnc' : (ln ≤ c) = True := eq_true (by omega)
    refine anyH_take (i := 8) (v := .slice (some ⟨g, 0, none⟩) ln c) (show _ = some (Oper.mk (some 40) _ _ _ _ none) from rfl) (by kernel_rfl) (still_of rfl fun H' hS => by simp only [go_sem, Int.cast_ofNat_Int, Nat.reduceEqDiff, Nat.reduceAdd, Nat.reduceMul, Nat.reduceLeDiff, Nat.reduceLT, Int.reduceLT, Int.reduceLE, Int.reduceEq, Int.reduceNeg, Int.reduceToNat, Nat.reducePow, reduceIte, reduceCtorEq, hc0, hnc, hnc', insL_len, List.length_append, List.length_singleton, Nat.sub_zero]) (q.grow fA) ?_
    refine anyH_one (i := 9) (by kernel_rfl) (show _ = some (Oper.mk (some 7) _ _ _ _ none) from rfl) rfl (fun K' hK' => ?_)
    simp only [go_sem, Int.cast_ofNat_Int, Nat.reduceEqDiff, Nat.reduceAdd, Nat.reduceMul, Nat.reduceLeDiff, Nat.reduceLT, Int.reduceLT, Int.reduceLE, Int.reduceEq, Int.reduceNeg, Int.reduceToNat, Nat.reducePow, reduceIte, reduceCtorEq]
    refine hK' _ _ ⟨fun _ => q.grow fA, ?_⟩
    refine anyH_done (by kernel_rfl) ?_
    refine tailA _ _ g c rfl rfl rfl rfl ?_ hcc ?_ fA
    · exact hr4
    · rcases hB4 with h | ⟨g', h, h'⟩
      · have := hBn _ h.symm; omega
      · obtain rfl := Option.some.inj h; omega
theorem makes0 {H : Heap} {bk : Nat} {xs : List B64} {va vw : Value} {kd s t n : Int} {la : Option Addr} {ln lc : Nat} {K : Value → Heap → Prop} (hB : BK H bk xs xs va vw) (hkd : kd ≠ 1 ∧ kd ≠ 2 ∧ kd ≠ 3 ∧ kd ≠ 4 ∧ kd ≠ 5 ∧ kd ≠ 6) (hs : Fit s) (ht : Fit t)
    (hk : ∀ H' xs', BK H' bk xs' xs' va vw → Fr (· = bk) H H' → K (.bool true) H') : CallsH Tryd.prog 17 #[.pointer (some ⟨bk, 0, none⟩), opV kd s t n la ln lc] H K := by
  obtain ⟨i, ei, hi⟩ := pick4 s
  obtain ⟨k, ek, hk4⟩ := pick4 t
  obtain ⟨x, hx⟩ : ∃ x, xs[i]? = some x := ⟨_, List.getElem?_eq_getElem (by rw [hB.lx]; exact hi)⟩
  have hlt := hB.b.lt
  unfold opV
  refine call17 (by simp) ?_
  simp only [Tryd.f17, Option.getD_some]
  repeat' (first
    | (with_reducible first | refine seq_normal ?_ | (refine hK _ _ ?_; clear hK K) | refine x_seq (fun K hK => ?_) | refine x_nil ?_ | refine x_block ?_ | refine x_skip ?_ | refine x_exit ?_ | refine x_ret ?_ | refine x_label ?_ | refine x_scope ?_ | (refine seq_ret ?_; clear hK K) | (refine seq_exit ?_; clear hK K) | refine block_normal ?_ | refine block_ret ?_ | refine block_exit ?_ | refine loop_exit ?_ | refine loop_ret ?_)
    | ((with_reducible refine x_reg_lit ?hq ?_); case hq => rfl)
    | ((first | (with_reducible first | refine x_op (fun K hK => ?_) | refine end_ret ?_ | refine end_normal ?_) | ((with_reducible refine x_guard_yes ?hy (fun K hK => ?_)); case hy => rfl)); simp only [go_sem, Int.cast_ofNat_Int, Nat.reduceEqDiff, Nat.reduceAdd, Nat.reduceMul, Nat.reduceLeDiff, Nat.reduceLT, Int.reduceLT, Int.reduceLE, Int.reduceEq, Int.reduceNeg, Int.reduceToNat, Nat.reducePow, reduceIte, reduceCtorEq, hcell_push, hcell_top, okW_push, okW_top, hcell_hset_ne, hcell_hset_off, hcell_hset_eq, okW_hset, hset_size, Array.size_push, Nat.lt_add_one, ne_add_one, add_one_ne, Nat.add_assoc, add_same, add_lt_same, Nat.reduceEqDiff, lt_add_k, add_k_ne, ne_add_k])
    | ((with_reducible first | refine x_guard_no ?hy ?_ | refine x_cond_true ?hy ?_); case hy => rfl)
    | ((with_reducible first | refine x_guard_none ?hy ?_ | refine x_cond_false ?hy ?_); case hy => rfl)
    | ((with_reducible refine block_exit_ne ?hy ?_); case hy => decide))
  refine Pkisthmuslaw09.pick_ok hs.1 hs.2 (by decide) ?_
  rw [ei]
  repeat' (first
    | (with_reducible first | refine seq_normal ?_ | (refine hK _ _ ?_; clear hK K) | refine x_seq (fun K hK => ?_) | refine x_nil ?_ | refine x_block ?_ | refine x_skip ?_ | refine x_exit ?_ | refine x_ret ?_ | refine x_label ?_ | refine x_scope ?_ | (refine seq_ret ?_; clear hK K) | (refine seq_exit ?_; clear hK K) | refine block_normal ?_ | refine block_ret ?_ | refine block_exit ?_ | refine loop_exit ?_ | refine loop_ret ?_)
    | ((with_reducible refine x_reg_lit ?hq ?_); case hq => rfl)
    | ((first | (with_reducible first | refine x_op (fun K hK => ?_) | refine end_ret ?_ | refine end_normal ?_) | ((with_reducible refine x_guard_yes ?hy (fun K hK => ?_)); case hy => rfl)); simp only [go_sem, Int.cast_ofNat_Int, Nat.reduceEqDiff, Nat.reduceAdd, Nat.reduceMul, Nat.reduceLeDiff, Nat.reduceLT, Int.reduceLT, Int.reduceLE, Int.reduceEq, Int.reduceNeg, Int.reduceToNat, Nat.reducePow, reduceIte, reduceCtorEq, hcell_push, hcell_top, okW_push, okW_top, hcell_hset_ne, hcell_hset_off, hcell_hset_eq, okW_hset, hset_size, Array.size_push, Nat.lt_add_one, ne_add_one, add_one_ne, Nat.add_assoc, add_same, add_lt_same, Nat.reduceEqDiff, lt_add_k, add_k_ne, ne_add_k])
    | ((with_reducible first | refine x_guard_no ?hy ?_ | refine x_cond_true ?hy ?_); case hy => rfl)
    | ((with_reducible first | refine x_guard_none ?hy ?_ | refine x_cond_false ?hy ?_); case hy => rfl)
    | ((with_reducible refine block_exit_ne ?hy ?_); case hy => decide))
  refine Pkisthmuslaw09.pick_ok ht.1 ht.2 (by decide) ?_
  rw [ek]
  have z1 : (kd == 1) = false := by simp only [beq_eq_false_iff_ne, ne_eq]; omega
  have z2 : (kd == 2) = false := by simp only [beq_eq_false_iff_ne, ne_eq]; omega
  have z3 : (kd == 3) = false := by simp only [beq_eq_false_iff_ne, ne_eq]; omega
  have z4 : (kd == 4) = false := by simp only [beq_eq_false_iff_ne, ne_eq]; omega
  have z5 : (kd == 5) = false := by simp only [beq_eq_false_iff_ne, ne_eq]; omega
  have z6 : (kd == 6) = false := by simp only [beq_eq_false_iff_ne, ne_eq]; omega
  repeat' (first
    | (with_reducible first | refine seq_normal ?_ | (refine hK _ _ ?_; clear hK K) | refine x_seq (fun K hK => ?_) | refine x_nil ?_ | refine x_block ?_ | refine x_skip ?_ | refine x_exit ?_ | refine x_ret ?_ | refine x_label ?_ | refine x_scope ?_ | (refine seq_ret ?_; clear hK K) | (refine seq_exit ?_; clear hK K) | refine block_normal ?_ | refine block_ret ?_ | refine block_exit ?_ | refine loop_exit ?_ | refine loop_ret ?_)
    | ((with_reducible refine x_reg_lit ?hq ?_); case hq => rfl)
    | ((first | (with_reducible first | refine x_op (fun K hK => ?_) | refine end_ret ?_ | refine end_normal ?_) | ((with_reducible refine x_guard_yes ?hy (fun K hK => ?_)); case hy => rfl)); simp only [go_sem, Int.cast_ofNat_Int, Nat.reduceEqDiff, Nat.reduceAdd, Nat.reduceMul, Nat.reduceLeDiff, Nat.reduceLT, Int.reduceLT, Int.reduceLE, Int.reduceEq, Int.reduceNeg, Int.reduceToNat, Nat.reducePow, reduceIte, reduceCtorEq, hcell_push, hcell_top, okW_push, okW_top, hcell_hset_ne, hcell_hset_off, hcell_hset_eq, okW_hset, hset_size, Array.size_push, Nat.lt_add_one, ne_add_one, add_one_ne, Nat.add_assoc, add_same, add_lt_same, Nat.reduceEqDiff, lt_add_k, add_k_ne, ne_add_k, z1, z2, z3, z4, z5, z6])
    | ((with_reducible first | refine x_guard_no ?hy ?_ | refine x_cond_true ?hy ?_); case hy => rfl)
    | ((with_reducible first | refine x_guard_none ?hy ?_ | refine x_cond_false ?hy ?_); case hy => rfl)
    | ((with_reducible refine block_exit_ne ?hy ?_); case hy => decide))
  exact hk _ xs (hB.frame (S := fun _ => False) ((Fr.refl _ H).push _) (fun h => h)) ((Fr.refl _ H).push _)
end Go.Proofs.YtdhepjcdlkahnaaDoor
