/-
  VsetAlike returns true, whatever it is given, and writes nothing that was there: its loops.
-/
import Derived.Test.YtdhepjcdlkahnaaDoorVsD
namespace Go.Proofs.YtdhepjcdlkahnaaDoor
open Go Go.Hp Go.Vs
set_option linter.all false
set_option maxRecDepth 100000
set_option maxHeartbeats 1600000

/-- What the law holds: the set in its block, its numbers in a row of their own. -/
structure AM (H0 H : Heap) (b6 g7 : Nat) (v7 : Value) (x : B64) : Prop where
  fr : Fr (fun _ => False) H0 H
  b : Blk H b6 [.int .u64 (x.toNat : Int)]
  r : IR H (some g7) v7 (elsI x)
  hb : H0.size ≤ b6
  hg : H0.size ≤ g7
  ne : b6 ≠ g7
theorem AM.step {H0 H H' : Heap} {b6 g7 : Nat} {v7 : Value} {x : B64} {S : Nat → Prop} (h : AM H0 H b6 g7 v7 x) (hf : Fr S H H') (hS : ∀ b, S b → H0.size ≤ b ∧ b ≠ b6 ∧ b ≠ g7) : AM H0 H' b6 g7 v7 x :=
  ⟨h.fr.trans' hf fun b hb hs => by have := (hS b hs).1; omega, h.b.frame hf fun hs => (hS _ hs).2.1 rfl, h.r.frame hf fun g hg hs => by obtain rfl := Option.some.inj hg; exact (hS _ hs).2.2 rfl, h.hb, h.hg, h.ne⟩
theorem AM.grow {H0 H H' : Heap} {b6 g7 : Nat} {v7 : Value} {x : B64} (h : AM H0 H b6 g7 v7 x) (hf : Fr (fun _ => False) H H') : AM H0 H' b6 g7 v7 x := h.step hf fun b h => h.elim
theorem elsI_len (x : B64) : (elsI x).length = (els x.toNat).length := by unfold elsI; rw [List.length_map]
theorem els_le (x : Nat) : (els x).length ≤ 64 := elsF_len x 0
theorem elsI_ok {x : B64} {n : Int} (h : n ∈ elsI x) : okN n = true ∧ x.getLsbD n.toNat = true := by
  unfold elsI at h
  obtain ⟨k, hk, rfl⟩ := List.mem_map.1 h
  obtain ⟨h1, h2⟩ := mem_els.1 hk
  refine ⟨by unfold okN; simp; omega, ?_⟩
  rw [Int.toNat_natCast]; exact h2
theorem elsI_mem {x : B64} {k : Nat} (h : x.getLsbD k = true) : (k : Int) ∈ elsI x := by
  have hk : k < 64 := by
    rcases Nat.lt_or_ge k 64 with h' | h'
    · exact h'
    · rw [BitVec.getLsbD_of_ge _ _ h'] at h; cases h
  unfold elsI
  exact List.mem_map.2 ⟨k, mem_els.2 ⟨hk, h⟩, rfl⟩
theorem ofFrom_bit (x : B64) (l : List Int) (k : Nat) : (ofFrom x l).getLsbD k = true → x.getLsbD k = true ∨ ∃ n ∈ l, okN n = true ∧ k = n.toNat := by
  induction l generalizing x with
  | nil => exact .inl
  | cons n l ih =>
    intro h
    rcases ih _ h with h | ⟨m, hm, h⟩
    · rw [BitVec.getLsbD_or, bitN_bit, Bool.or_eq_true, Bool.and_eq_true, decide_eq_true_eq] at h
      rcases h with h | h
      · exact .inl h
      · exact .inr ⟨n, .head _, h.1, h.2⟩
    · exact .inr ⟨m, .tail _ hm, h⟩
/-- Made of its own numbers, each at least once, it is the same. -/
theorem ofQ_same {x : B64} {l : List Int} (h1 : ∀ n ∈ l, n ∈ elsI x) (h2 : ∀ n ∈ elsI x, n ∈ l) : ofQ l = (x, 0) := by
  unfold ofQ
  rw [if_pos (by rw [List.all_eq_true]; exact fun n hn => (elsI_ok (h1 n hn)).1)]
  congr 1
  apply BitVec.eq_of_getLsbD_eq
  intro k hk
  rw [Bool.eq_iff_iff]
  constructor
  · intro h
    rcases ofFrom_bit _ _ _ h with h | ⟨n, hn, ho, rfl⟩
    · simp at h
    · exact (elsI_ok (h1 n hn)).2
  · intro h
    have hm := elsI_mem h
    have := ofFrom_mem 0#64 l (k : Int) (elsI_ok hm).1 (h2 _ hm)
    rwa [Int.toNat_natCast] at this
def Mine (H0 : Heap) (b6 g7 : Nat) (B : Option Nat) : Prop := ∀ g, B = some g → H0.size ≤ g ∧ g ≠ b6 ∧ g ≠ g7
theorem Mine.next {H0 H : Heap} {b6 g7 : Nat} {B B' : Option Nat} {v7 : Value} {x : B64} (h : Mine H0 b6 g7 B) (hA : AM H0 H b6 g7 v7 x) (hB : B' = B ∨ ∃ g, B' = some g ∧ H.size ≤ g) : Mine H0 b6 g7 B' := by
  rcases hB with rfl | ⟨g, rfl, hg⟩
  · exact h
  · intro g' e
    obtain rfl := Option.some.inj e
    have h1 := hA.b.lt
    have h2 := hA.r.lt rfl
    have h3 := hA.fr.size
    exact ⟨by omega, by omega, by omega⟩
theorem al0 {H0 H : Heap} {e : Env} {Q : HX → Env → Heap → Prop} {b6 g7 : Nat} {v7 : Value} {x : B64} (hA : AM H0 H b6 g7 v7 x) (e7 : e 7 = v7) (e8 : e 8 = .slice none 0 0) (e9 : e 9 = .int .i64 (((elsI x).length : Int) - 1))
    (hQ : ∀ e' H' B v, e' 0 = e 0 → e' 1 = e 1 → e' 5 = e 5 → e' 6 = e 6 → e' 7 = e 7 → e' 8 = v → IR H' B v (elsI x).reverse → Mine H0 b6 g7 B → AM H0 H' b6 g7 v7 x → Q .normal e' H') :
    codeX Tryd.prog [] (loopAt Tryd.f3.body 0) (blockQ 0 Q) e H := by
  have hl : (elsI x).length ≤ 64 := by rw [elsI_len]; exact els_le _
  refine x_loop (fun m e' H' => ∃ (k : Nat) (B : Option Nat) (v : Value), e' 9 = .int .i64 ((k : Int) - 1) ∧ e' 8 = v ∧ IR H' B v ((elsI x).drop k).reverse ∧ Mine H0 b6 g7 B ∧ AM H0 H' b6 g7 v7 x ∧ k ≤ (elsI x).length ∧ m = k) (elsI x).length ⟨(elsI x).length, none, _, e9, e8, by rw [List.drop_length]; exact IR.nil H, (fun g h => by cases h), hA, Nat.le_refl _, rfl⟩ ?_
  rintro m e1 H1 ⟨k, B, v, i9, i8, hr, hB, hA1, hk, rfl⟩ hoff
  have i7 := (hoff 7 rfl).trans e7
  have j0 := hoff 0 rfl
  have j1 := hoff 1 rfl
  have j5 := hoff 5 rfl
  have j6 := hoff 6 rfl
  have j7 := hoff 7 rfl
  clear hoff
  cases m with
  | zero =>
    have t1 : ((0 : Int) ≤ ((0 : Nat) : Int) - 1) = False := by simp
    repeat' (first
      | (with_reducible first | refine seq_normal ?_ | (refine hK _ _ ?_; clear hK K) | refine x_seq (fun K hK => ?_) | refine x_nil ?_ | refine x_block ?_ | refine x_skip ?_ | refine x_exit ?_ | refine x_ret ?_ | refine x_label ?_ | refine x_scope ?_ | (refine seq_ret ?_; clear hK K) | (refine seq_exit ?_; clear hK K) | refine block_normal ?_ | refine block_ret ?_ | refine block_exit ?_ | refine loop_exit ?_ | refine loop_ret ?_)
      | ((with_reducible refine x_reg_lit ?hq ?_); case hq => rfl)
      | ((first | (with_reducible first | refine x_op (fun K hK => ?_) | refine end_ret ?_ | refine end_normal ?_) | ((with_reducible refine x_guard_yes ?hy (fun K hK => ?_)); case hy => rfl)); simp only [go_sem, Int.cast_ofNat_Int, Nat.reduceEqDiff, Nat.reduceAdd, Nat.reduceMul, Nat.reduceLeDiff, Nat.reduceLT, Int.reduceLT, Int.reduceLE, Int.reduceEq, Int.reduceNeg, Int.reduceToNat, Nat.reducePow, reduceIte, reduceCtorEq, i9, t1])
      | ((with_reducible first | refine x_guard_no ?hy ?_ | refine x_cond_true ?hy ?_); case hy => rfl)
      | ((with_reducible first | refine x_guard_none ?hy ?_ | refine x_cond_false ?hy ?_); case hy => rfl)
      | ((with_reducible refine block_exit_ne ?hy ?_); case hy => decide))
    exact hQ _ _ B v j0 j1 j5 j6 j7 i8 hr hB hA1
  | succ k =>
    have ek : ((k + 1 : Nat) : Int) - 1 = (k : Int) := by omega
    rw [ek] at i9
    have t1 : ((0 : Int) ≤ (k : Int)) = True := by simp
    obtain ⟨n, hn⟩ : ∃ n, (elsI x)[k]? = some n := ⟨_, List.getElem?_eq_getElem (by omega)⟩
    obtain ⟨g, c, hg, hv7, cx⟩ := hA1.r.read hn
    obtain rfl := Option.some.inj hg
    have hlt : (k < (elsI x).length) = True := by simp; omega
    have ew : IntKind.i64.wrap ((k : Int) - 1) = (k : Int) - 1 := by rw [wrap_i64] <;> omega
    obtain ⟨a, c', hv⟩ := hr.slice
    rw [hv] at i8 hr
    rw [hv7] at i7
    repeat' (first
      | (with_reducible first | refine seq_normal ?_ | (refine hK _ _ ?_; clear hK K) | refine x_seq (fun K hK => ?_) | refine x_nil ?_ | refine x_block ?_ | refine x_skip ?_ | refine x_exit ?_ | refine x_ret ?_ | refine x_label ?_ | refine x_scope ?_ | (refine seq_ret ?_; clear hK K) | (refine seq_exit ?_; clear hK K) | refine block_normal ?_ | refine block_ret ?_ | refine block_exit ?_ | refine loop_exit ?_ | refine loop_ret ?_)
      | ((with_reducible refine x_reg_lit ?hq ?_); case hq => rfl)
      | ((first | (with_reducible first | refine x_op (fun K hK => ?_) | refine end_ret ?_ | refine end_normal ?_) | ((with_reducible refine x_guard_yes ?hy (fun K hK => ?_)); case hy => rfl)); simp only [go_sem, Int.cast_ofNat_Int, Nat.reduceEqDiff, Nat.reduceAdd, Nat.reduceMul, Nat.reduceLeDiff, Nat.reduceLT, Int.reduceLT, Int.reduceLE, Int.reduceEq, Int.reduceNeg, Int.reduceToNat, Nat.reducePow, reduceIte, reduceCtorEq, i9, t1, i8, i7, cx, hlt])
      | ((with_reducible first | refine x_guard_no ?hy ?_ | refine x_cond_true ?hy ?_); case hy => rfl)
      | ((with_reducible first | refine x_guard_none ?hy ?_ | refine x_cond_false ?hy ?_); case hy => rfl)
      | ((with_reducible refine block_exit_ne ?hy ?_); case hy => decide))
    refine append_ir elems22 tl3 hr rfl (by decide) (by simp; omega) rfl fun v' H5 B' hr' hf' hB' => ?_
    have hA5 := hA1.step hf' fun b hb => hB b hb
    repeat' (first
      | (with_reducible first | refine seq_normal ?_ | (refine hK _ _ ?_; clear hK K) | refine x_seq (fun K hK => ?_) | refine x_nil ?_ | refine x_block ?_ | refine x_skip ?_ | refine x_exit ?_ | refine x_ret ?_ | refine x_label ?_ | refine x_scope ?_ | (refine seq_ret ?_; clear hK K) | (refine seq_exit ?_; clear hK K) | refine block_normal ?_ | refine block_ret ?_ | refine block_exit ?_ | refine loop_exit ?_ | refine loop_ret ?_)
      | ((with_reducible refine x_reg_lit ?hq ?_); case hq => rfl)
      | ((first | (with_reducible first | refine x_op (fun K hK => ?_) | refine end_ret ?_ | refine end_normal ?_) | ((with_reducible refine x_guard_yes ?hy (fun K hK => ?_)); case hy => rfl)); simp only [go_sem, Int.cast_ofNat_Int, Nat.reduceEqDiff, Nat.reduceAdd, Nat.reduceMul, Nat.reduceLeDiff, Nat.reduceLT, Int.reduceLT, Int.reduceLE, Int.reduceEq, Int.reduceNeg, Int.reduceToNat, Nat.reducePow, reduceIte, reduceCtorEq, i9, ew])
      | ((with_reducible first | refine x_guard_no ?hy ?_ | refine x_cond_true ?hy ?_); case hy => rfl)
      | ((with_reducible first | refine x_guard_none ?hy ?_ | refine x_cond_false ?hy ?_); case hy => rfl)
      | ((with_reducible refine block_exit_ne ?hy ?_); case hy => decide))
    refine loop_normal (m' := k) (by omega) ⟨k, B', v', rfl, rfl, ?_, hB.next hA1 hB', hA5, by omega, rfl⟩
    rw [List.drop_eq_getElem_cons (show k < (elsI x).length by omega), List.reverse_cons]
    have : (elsI x)[k] = n := by
      have := List.getElem?_eq_getElem (show k < (elsI x).length by omega)
      rw [hn] at this; exact (Option.some.inj this).symm
    rw [this]
    exact hr'
theorem al1 {H0 H : Heap} {e : Env} {Q : HX → Env → Heap → Prop} {b6 g7 : Nat} {v7 v8 : Value} {x : B64} {B8 : Option Nat} {a : Option Addr} {len cap : Nat} {zs : Nat → Int} (hin : InInts H0 a len zs) (hl1 : len ≤ 9223372036854775807) (hA : AM H0 H b6 g7 v7 x) (e1 : e 1 = .slice a len cap) (e7 : e 7 = v7) (e8 : e 8 = v8) (e10 : e 10 = .int .i64 0)
    (hr0 : IR H B8 v8 (elsI x).reverse) (hB0 : Mine H0 b6 g7 B8)
    (hQ : ∀ e' H' B v ex, e' 0 = e 0 → e' 1 = e 1 → e' 5 = e 5 → e' 6 = e 6 → e' 7 = e 7 → e' 8 = v → IR H' B v ((elsI x).reverse ++ ex) → (∀ n ∈ ex, n ∈ elsI x) → ex.length ≤ 100 → Mine H0 b6 g7 B → AM H0 H' b6 g7 v7 x → Q .normal e' H') :
    codeX Tryd.prog [] (loopAt Tryd.f3.body 1) (blockQ 2 Q) e H := by
  have hl : (elsI x).length ≤ 64 := by rw [elsI_len]; exact els_le _
  refine x_loop (fun m e' H' => ∃ (i : Nat) (B : Option Nat) (v : Value) (ex : List Int), e' 10 = .int .i64 (i : Int) ∧ e' 8 = v ∧ IR H' B v ((elsI x).reverse ++ ex) ∧ (∀ n ∈ ex, n ∈ elsI x) ∧ ex.length ≤ i ∧ Mine H0 b6 g7 B ∧ AM H0 H' b6 g7 v7 x ∧ i ≤ 100 ∧ m = 100 - i) 100 ⟨0, B8, v8, [], e10, e8, by rw [List.append_nil]; exact hr0, (fun n h => by cases h), Nat.le_refl _, hB0, hA, by omega, rfl⟩ ?_
  rintro m e2 H1 ⟨i, B, v, ex, i10, i8, hr, hex, hexl, hB, hA1, hi, rfl⟩ hoff
  have i7 := (hoff 7 rfl).trans e7
  have i1 := (hoff 1 rfl).trans e1
  have j0 := hoff 0 rfl
  have j1 := hoff 1 rfl
  have j5 := hoff 5 rfl
  have j6 := hoff 6 rfl
  have j7 := hoff 7 rfl
  clear hoff
  obtain ⟨a7, c7, hv7⟩ := hA1.r.slice
  by_cases hlt : i < len
  · have t1 : (i < len) = True := by simp [hlt]
    by_cases h100 : i < 100
    · have t2 : ((i : Int) < 100) = True := by simp; omega
      by_cases hpos : 0 < (elsI x).length
      · have t3 : ((0 : Int) < ((elsI x).length : Int)) = True := eq_true (by omega)
        obtain ⟨p, rfl, cz, hz1, hz2⟩ := (hin.frame hA1.fr) i hlt
        obtain ⟨r0, r1⟩ := pickN_range (zs i) (n := ((elsI x).length : Int)) (by omega)
        obtain ⟨k, ek⟩ := Int.eq_ofNat_of_zero_le r0
        have hk : k < (elsI x).length := by omega
        obtain ⟨n, hn⟩ : ∃ n, (elsI x)[k]? = some n := ⟨_, List.getElem?_eq_getElem hk⟩
        obtain ⟨g, c, hg, hv, cx⟩ := hA1.r.read hn
        obtain rfl := Option.some.inj hg
        have hklt : (k < (elsI x).length) = True := by simp [hk]
        have ew : IntKind.i64.wrap ((i : Int) + 1) = ((i + 1 : Nat) : Int) := by rw [wrap_i64] <;> omega
        obtain ⟨a8, c8, hv8⟩ := hr.slice
        rw [hv8] at i8 hr
        rw [hv] at i7
        repeat' (first
          | (with_reducible first | refine seq_normal ?_ | (refine hK _ _ ?_; clear hK K) | refine x_seq (fun K hK => ?_) | refine x_nil ?_ | refine x_block ?_ | refine x_skip ?_ | refine x_exit ?_ | refine x_ret ?_ | refine x_label ?_ | refine x_scope ?_ | (refine seq_ret ?_; clear hK K) | (refine seq_exit ?_; clear hK K) | refine block_normal ?_ | refine block_ret ?_ | refine block_exit ?_ | refine loop_exit ?_ | refine loop_ret ?_)
          | ((with_reducible refine x_reg_lit ?hq ?_); case hq => rfl)
          | ((first | (with_reducible first | refine x_op (fun K hK => ?_) | refine end_ret ?_ | refine end_normal ?_) | ((with_reducible refine x_guard_yes ?hy (fun K hK => ?_)); case hy => rfl)); simp only [go_sem, Int.cast_ofNat_Int, Nat.reduceEqDiff, Nat.reduceAdd, Nat.reduceMul, Nat.reduceLeDiff, Nat.reduceLT, Int.reduceLT, Int.reduceLE, Int.reduceEq, Int.reduceNeg, Int.reduceToNat, Nat.reducePow, reduceIte, reduceCtorEq, i1, i7, i8, i10, t1, t2, t3, cz])
          | ((with_reducible first | refine x_guard_no ?hy ?_ | refine x_cond_true ?hy ?_); case hy => rfl)
          | ((with_reducible first | refine x_guard_none ?hy ?_ | refine x_cond_false ?hy ?_); case hy => rfl)
          | ((with_reducible refine block_exit_ne ?hy ?_); case hy => decide))
        refine Pkisthmuslaw09.pick_ok hz1 hz2 (by omega) ?_
        rw [ek]
        repeat' (first
          | (with_reducible first | refine seq_normal ?_ | (refine hK _ _ ?_; clear hK K) | refine x_seq (fun K hK => ?_) | refine x_nil ?_ | refine x_block ?_ | refine x_skip ?_ | refine x_exit ?_ | refine x_ret ?_ | refine x_label ?_ | refine x_scope ?_ | (refine seq_ret ?_; clear hK K) | (refine seq_exit ?_; clear hK K) | refine block_normal ?_ | refine block_ret ?_ | refine block_exit ?_ | refine loop_exit ?_ | refine loop_ret ?_)
          | ((with_reducible refine x_reg_lit ?hq ?_); case hq => rfl)
          | ((first | (with_reducible first | refine x_op (fun K hK => ?_) | refine end_ret ?_ | refine end_normal ?_) | ((with_reducible refine x_guard_yes ?hy (fun K hK => ?_)); case hy => rfl)); simp only [go_sem, Int.cast_ofNat_Int, Nat.reduceEqDiff, Nat.reduceAdd, Nat.reduceMul, Nat.reduceLeDiff, Nat.reduceLT, Int.reduceLT, Int.reduceLE, Int.reduceEq, Int.reduceNeg, Int.reduceToNat, Nat.reducePow, reduceIte, reduceCtorEq, i1, i7, i8, i10, hklt, cx])
          | ((with_reducible first | refine x_guard_no ?hy ?_ | refine x_cond_true ?hy ?_); case hy => rfl)
          | ((with_reducible first | refine x_guard_none ?hy ?_ | refine x_cond_false ?hy ?_); case hy => rfl)
          | ((with_reducible refine block_exit_ne ?hy ?_); case hy => decide))
        refine append_ir elems22 tl3 hr rfl (by decide) (by simp; omega) rfl fun v' H5 B' hr' hf' hB' => ?_
        have hA5 := hA1.step hf' fun b hb => hB b hb
        repeat' (first
          | (with_reducible first | refine seq_normal ?_ | (refine hK _ _ ?_; clear hK K) | refine x_seq (fun K hK => ?_) | refine x_nil ?_ | refine x_block ?_ | refine x_skip ?_ | refine x_exit ?_ | refine x_ret ?_ | refine x_label ?_ | refine x_scope ?_ | (refine seq_ret ?_; clear hK K) | (refine seq_exit ?_; clear hK K) | refine block_normal ?_ | refine block_ret ?_ | refine block_exit ?_ | refine loop_exit ?_ | refine loop_ret ?_)
          | ((with_reducible refine x_reg_lit ?hq ?_); case hq => rfl)
          | ((first | (with_reducible first | refine x_op (fun K hK => ?_) | refine end_ret ?_ | refine end_normal ?_) | ((with_reducible refine x_guard_yes ?hy (fun K hK => ?_)); case hy => rfl)); simp only [go_sem, Int.cast_ofNat_Int, Nat.reduceEqDiff, Nat.reduceAdd, Nat.reduceMul, Nat.reduceLeDiff, Nat.reduceLT, Int.reduceLT, Int.reduceLE, Int.reduceEq, Int.reduceNeg, Int.reduceToNat, Nat.reducePow, reduceIte, reduceCtorEq, i10, ew])
          | ((with_reducible first | refine x_guard_no ?hy ?_ | refine x_cond_true ?hy ?_); case hy => rfl)
          | ((with_reducible first | refine x_guard_none ?hy ?_ | refine x_cond_false ?hy ?_); case hy => rfl)
          | ((with_reducible refine block_exit_ne ?hy ?_); case hy => decide))
        refine loop_normal (m' := 100 - (i + 1)) (by omega) ⟨i + 1, B', v', ex ++ [n], rfl, rfl, by rw [← List.append_assoc]; exact hr', ?_, by simp; omega, hB.next hA1 hB', hA5, by omega, rfl⟩
        intro y hy
        rcases List.mem_append.1 hy with hy | hy
        · exact hex y hy
        · rw [List.mem_singleton.1 hy]; exact List.mem_of_getElem? hn
      · have t3 : ((0 : Int) < ((elsI x).length : Int)) = False := eq_false (by omega)
        rw [hv7] at i7
        repeat' (first
          | (with_reducible first | refine seq_normal ?_ | (refine hK _ _ ?_; clear hK K) | refine x_seq (fun K hK => ?_) | refine x_nil ?_ | refine x_block ?_ | refine x_skip ?_ | refine x_exit ?_ | refine x_ret ?_ | refine x_label ?_ | refine x_scope ?_ | (refine seq_ret ?_; clear hK K) | (refine seq_exit ?_; clear hK K) | refine block_normal ?_ | refine block_ret ?_ | refine block_exit ?_ | refine loop_exit ?_ | refine loop_ret ?_)
          | ((with_reducible refine x_reg_lit ?hq ?_); case hq => rfl)
          | ((first | (with_reducible first | refine x_op (fun K hK => ?_) | refine end_ret ?_ | refine end_normal ?_) | ((with_reducible refine x_guard_yes ?hy (fun K hK => ?_)); case hy => rfl)); simp only [go_sem, Int.cast_ofNat_Int, Nat.reduceEqDiff, Nat.reduceAdd, Nat.reduceMul, Nat.reduceLeDiff, Nat.reduceLT, Int.reduceLT, Int.reduceLE, Int.reduceEq, Int.reduceNeg, Int.reduceToNat, Nat.reducePow, reduceIte, reduceCtorEq, i1, i7, i10, t1, t2, t3])
          | ((with_reducible first | refine x_guard_no ?hy ?_ | refine x_cond_true ?hy ?_); case hy => rfl)
          | ((with_reducible first | refine x_guard_none ?hy ?_ | refine x_cond_false ?hy ?_); case hy => rfl)
          | ((with_reducible refine block_exit_ne ?hy ?_); case hy => decide))
        exact hQ _ _ B v ex j0 j1 j5 j6 j7 i8 hr hex (by omega) hB hA1
    · have t2 : ((i : Int) < 100) = False := by simp; omega
      repeat' (first
        | (with_reducible first | refine seq_normal ?_ | (refine hK _ _ ?_; clear hK K) | refine x_seq (fun K hK => ?_) | refine x_nil ?_ | refine x_block ?_ | refine x_skip ?_ | refine x_exit ?_ | refine x_ret ?_ | refine x_label ?_ | refine x_scope ?_ | (refine seq_ret ?_; clear hK K) | (refine seq_exit ?_; clear hK K) | refine block_normal ?_ | refine block_ret ?_ | refine block_exit ?_ | refine loop_exit ?_ | refine loop_ret ?_)
        | ((with_reducible refine x_reg_lit ?hq ?_); case hq => rfl)
        | ((first | (with_reducible first | refine x_op (fun K hK => ?_) | refine end_ret ?_ | refine end_normal ?_) | ((with_reducible refine x_guard_yes ?hy (fun K hK => ?_)); case hy => rfl)); simp only [go_sem, Int.cast_ofNat_Int, Nat.reduceEqDiff, Nat.reduceAdd, Nat.reduceMul, Nat.reduceLeDiff, Nat.reduceLT, Int.reduceLT, Int.reduceLE, Int.reduceEq, Int.reduceNeg, Int.reduceToNat, Nat.reducePow, reduceIte, reduceCtorEq, i1, i10, t1, t2])
        | ((with_reducible first | refine x_guard_no ?hy ?_ | refine x_cond_true ?hy ?_); case hy => rfl)
        | ((with_reducible first | refine x_guard_none ?hy ?_ | refine x_cond_false ?hy ?_); case hy => rfl)
        | ((with_reducible refine block_exit_ne ?hy ?_); case hy => decide))
      exact hQ _ _ B v ex j0 j1 j5 j6 j7 i8 hr hex (by omega) hB hA1
  · have t1 : (i < len) = False := by simp [hlt]
    repeat' (first
      | (with_reducible first | refine seq_normal ?_ | (refine hK _ _ ?_; clear hK K) | refine x_seq (fun K hK => ?_) | refine x_nil ?_ | refine x_block ?_ | refine x_skip ?_ | refine x_exit ?_ | refine x_ret ?_ | refine x_label ?_ | refine x_scope ?_ | (refine seq_ret ?_; clear hK K) | (refine seq_exit ?_; clear hK K) | refine block_normal ?_ | refine block_ret ?_ | refine block_exit ?_ | refine loop_exit ?_ | refine loop_ret ?_)
      | ((with_reducible refine x_reg_lit ?hq ?_); case hq => rfl)
      | ((first | (with_reducible first | refine x_op (fun K hK => ?_) | refine end_ret ?_ | refine end_normal ?_) | ((with_reducible refine x_guard_yes ?hy (fun K hK => ?_)); case hy => rfl)); simp only [go_sem, Int.cast_ofNat_Int, Nat.reduceEqDiff, Nat.reduceAdd, Nat.reduceMul, Nat.reduceLeDiff, Nat.reduceLT, Int.reduceLT, Int.reduceLE, Int.reduceEq, Int.reduceNeg, Int.reduceToNat, Nat.reducePow, reduceIte, reduceCtorEq, i1, i10, t1])
      | ((with_reducible first | refine x_guard_no ?hy ?_ | refine x_cond_true ?hy ?_); case hy => rfl)
      | ((with_reducible first | refine x_guard_none ?hy ?_ | refine x_cond_false ?hy ?_); case hy => rfl)
      | ((with_reducible refine block_exit_ne ?hy ?_); case hy => decide))
    exact hQ _ _ B v ex j0 j1 j5 j6 j7 i8 hr hex (by omega) hB hA1
theorem al2 {H0 H : Heap} {e : Env} {Q : HX → Env → Heap → Prop} {b6 g7 : Nat} {v7 : Value} {x : B64} (hT : TabH H0) (hA : AM H0 H b6 g7 v7 x) (e6 : e 6 = .pointer (some ⟨b6, 0, none⟩)) (e7 : e 7 = v7) (e13 : e 13 = .int .i64 0) (e14 : e 14 = .int .i64 (nextQ x.toNat (-5)))
    (hQ : ∀ e' H', e' 0 = e 0 → e' 5 = e 5 → e' 6 = e 6 → e' 7 = e 7 → e' 11 = e 11 → e' 12 = e 12 → e' 13 = .int .i64 ((elsI x).length : Int) → AM H0 H' b6 g7 v7 x → Fr (fun _ => False) H H' → Q .normal e' H') :
    codeX Tryd.prog [] (loopAt Tryd.f3.body 2) (blockQ 4 Q) e H := by
  have hl : (elsI x).length ≤ 64 := by rw [elsI_len]; exact els_le _
  have hx : x.toNat < 18446744073709551616 := x.isLt
  have e14' : e 14 = .int .i64 (nextQ x.toNat ((0 : Nat) : Int)) := e14
  refine x_loop (fun m e' H' => ∃ (j k : Nat), e' 13 = .int .i64 (j : Int) ∧ e' 14 = .int .i64 (nextQ x.toNat (k : Int)) ∧ elsF x.toNat k = (els x.toNat).drop j ∧ j ≤ (elsI x).length ∧ AM H0 H' b6 g7 v7 x ∧ Fr (fun _ => False) H H' ∧ m = 64 - j) 64 ⟨0, 0, e13, e14', rfl, by omega, hA, .refl _ _, rfl⟩ ?_
  rintro m e2 H1 ⟨j, k, i13, i14, hd, hj, hA1, hF1, rfl⟩ hoff
  have i6 := (hoff 6 rfl).trans e6
  have i7 := (hoff 7 rfl).trans e7
  have j0 := hoff 0 rfl
  have j5 := hoff 5 rfl
  have j6 := hoff 6 rfl
  have j7 := hoff 7 rfl
  have j11 := hoff 11 rfl
  have j12 := hoff 12 rfl
  clear hoff
  rw [nextQ_at, hd] at i14
  have hlen := elsI_len x
  cases hc : (els x.toNat).drop j with
  | nil =>
    rw [hc] at i14
    have : (els x.toNat).length ≤ j := List.drop_eq_nil_iff.1 hc
    have ej : j = (elsI x).length := by omega
    repeat' (first
      | (with_reducible first | refine seq_normal ?_ | (refine hK _ _ ?_; clear hK K) | refine x_seq (fun K hK => ?_) | refine x_nil ?_ | refine x_block ?_ | refine x_skip ?_ | refine x_exit ?_ | refine x_ret ?_ | refine x_label ?_ | refine x_scope ?_ | (refine seq_ret ?_; clear hK K) | (refine seq_exit ?_; clear hK K) | refine block_normal ?_ | refine block_ret ?_ | refine block_exit ?_ | refine loop_exit ?_ | refine loop_ret ?_)
      | ((with_reducible refine x_reg_lit ?hq ?_); case hq => rfl)
      | ((first | (with_reducible first | refine x_op (fun K hK => ?_) | refine end_ret ?_ | refine end_normal ?_) | ((with_reducible refine x_guard_yes ?hy (fun K hK => ?_)); case hy => rfl)); simp only [go_sem, Int.cast_ofNat_Int, Nat.reduceEqDiff, Nat.reduceAdd, Nat.reduceMul, Nat.reduceLeDiff, Nat.reduceLT, Int.reduceLT, Int.reduceLE, Int.reduceEq, Int.reduceNeg, Int.reduceToNat, Nat.reducePow, reduceIte, reduceCtorEq, i14])
      | ((with_reducible first | refine x_guard_no ?hy ?_ | refine x_cond_true ?hy ?_); case hy => rfl)
      | ((with_reducible first | refine x_guard_none ?hy ?_ | refine x_cond_false ?hy ?_); case hy => rfl)
      | ((with_reducible refine block_exit_ne ?hy ?_); case hy => decide))
    exact hQ _ _ j0 j5 j6 j7 j11 j12 (by rw [← ej]; exact i13) hA1 hF1
  | cons n l =>
    rw [hc] at i14 hd
    obtain ⟨q1, q2, q3⟩ := elsF_get hx hd
    have hjl : j < (els x.toNat).length := by
      rcases Nat.lt_or_ge j (els x.toNat).length with h | h
      · exact h
      · rw [List.drop_eq_nil_of_le h] at hc; cases hc
    rw [List.drop_eq_getElem_cons hjl] at hc
    simp only [List.cons.injEq] at hc
    have hn : (elsI x)[j]? = some (n : Int) := by
      unfold elsI
      rw [List.getElem?_map, List.getElem?_eq_getElem hjl, hc.1]; rfl
    obtain ⟨g, c, hg, hv7, cx⟩ := hA1.r.read hn
    obtain rfl := Option.some.inj hg
    rw [hv7] at i7
    have t1 : ((0 : Int) ≤ (n : Int)) = True := by simp
    have t2 : (j < (elsI x).length) = True := by simp; omega
    have ew : IntKind.i64.wrap ((j : Int) + 1) = ((j + 1 : Nat) : Int) := by rw [wrap_i64] <;> omega
    have ew2 : IntKind.i64.wrap ((n : Int) + 1) = ((n + 1 : Nat) : Int) := by rw [wrap_i64] <;> omega
    have c6 := hA1.b.cellOf (i := 0) rfl
    repeat' (first
      | (with_reducible first | refine seq_normal ?_ | (refine hK _ _ ?_; clear hK K) | refine x_seq (fun K hK => ?_) | refine x_nil ?_ | refine x_block ?_ | refine x_skip ?_ | refine x_exit ?_ | refine x_ret ?_ | refine x_label ?_ | refine x_scope ?_ | (refine seq_ret ?_; clear hK K) | (refine seq_exit ?_; clear hK K) | refine block_normal ?_ | refine block_ret ?_ | refine block_exit ?_ | refine loop_exit ?_ | refine loop_ret ?_)
      | ((with_reducible refine x_reg_lit ?hq ?_); case hq => rfl)
      | ((first | (with_reducible first | refine x_op (fun K hK => ?_) | refine end_ret ?_ | refine end_normal ?_) | ((with_reducible refine x_guard_yes ?hy (fun K hK => ?_)); case hy => rfl)); simp only [go_sem, Int.cast_ofNat_Int, Nat.reduceEqDiff, Nat.reduceAdd, Nat.reduceMul, Nat.reduceLeDiff, Nat.reduceLT, Int.reduceLT, Int.reduceLE, Int.reduceEq, Int.reduceNeg, Int.reduceToNat, Nat.reducePow, reduceIte, reduceCtorEq, i14, i13, i7, t1, t2, cx, ew, ew2, i6, c6])
      | ((with_reducible first | refine x_guard_no ?hy ?_ | refine x_cond_true ?hy ?_); case hy => rfl)
      | ((with_reducible first | refine x_guard_none ?hy ?_ | refine x_cond_false ?hy ?_); case hy => rfl)
      | ((with_reducible refine block_exit_ne ?hy ?_); case hy => decide))
    refine next_ok (x := x) (hT.frame hA1.fr) fun H2 f2 => ?_
    repeat' (first
      | (with_reducible first | refine seq_normal ?_ | (refine hK _ _ ?_; clear hK K) | refine x_seq (fun K hK => ?_) | refine x_nil ?_ | refine x_block ?_ | refine x_skip ?_ | refine x_exit ?_ | refine x_ret ?_ | refine x_label ?_ | refine x_scope ?_ | (refine seq_ret ?_; clear hK K) | (refine seq_exit ?_; clear hK K) | refine block_normal ?_ | refine block_ret ?_ | refine block_exit ?_ | refine loop_exit ?_ | refine loop_ret ?_)
      | ((with_reducible refine x_reg_lit ?hq ?_); case hq => rfl)
      | ((first | (with_reducible first | refine x_op (fun K hK => ?_) | refine end_ret ?_ | refine end_normal ?_) | ((with_reducible refine x_guard_yes ?hy (fun K hK => ?_)); case hy => rfl)); simp only [go_sem, Int.cast_ofNat_Int, Nat.reduceEqDiff, Nat.reduceAdd, Nat.reduceMul, Nat.reduceLeDiff, Nat.reduceLT, Int.reduceLT, Int.reduceLE, Int.reduceEq, Int.reduceNeg, Int.reduceToNat, Nat.reducePow, reduceIte, reduceCtorEq])
      | ((with_reducible first | refine x_guard_no ?hy ?_ | refine x_cond_true ?hy ?_); case hy => rfl)
      | ((with_reducible first | refine x_guard_none ?hy ?_ | refine x_cond_false ?hy ?_); case hy => rfl)
      | ((with_reducible refine block_exit_ne ?hy ?_); case hy => decide))
    refine loop_normal (m' := 64 - (j + 1)) (by omega) ⟨j + 1, n + 1, rfl, rfl, ?_, by omega, hA1.grow f2, hF1.trans f2, rfl⟩
    rw [← q3, ← hc.2]
theorem addr_of {H : Heap} {a : Addr} {v : Value} (h : hcell H a = some v) : ∃ q o, a = ⟨q, o, none⟩ := by
  obtain ⟨b, o, s⟩ := a
  cases s with
  | none => exact ⟨b, o, rfl⟩
  | some s =>
    unfold hcell at h
    split at h
    · simp at h
    · cases h
theorem al3 {H0 H : Heap} {e : Env} {Q : HX → Env → Heap → Prop} {b6 g7 : Nat} {v7 : Value} {x : B64} {a : Option Addr} {len cap : Nat} {zs : Nat → Int} (hin : InInts H0 a len zs) (hA : AM H0 H b6 g7 v7 x) (hx : Has zs x (min len 100) (min len 100)) (e0 : e 0 = .slice a len cap) (e6 : e 6 = .pointer (some ⟨b6, 0, none⟩)) (e15 : e 15 = .int .i64 0)
    (hQ : ∀ e' H', e' 5 = e 5 → e' 6 = e 6 → e' 7 = e 7 → e' 11 = e 11 → e' 12 = e 12 → e' 13 = e 13 → AM H0 H' b6 g7 v7 x → Fr (fun _ => False) H H' → Q .normal e' H') :
    codeX Tryd.prog [] (loopAt Tryd.f3.body 3) (blockQ 6 Q) e H := by
  refine x_loop (fun m e' H' => ∃ (i : Nat), e' 15 = .int .i64 (i : Int) ∧ AM H0 H' b6 g7 v7 x ∧ Fr (fun _ => False) H H' ∧ i ≤ 100 ∧ m = 100 - i) 100 ⟨0, e15, hA, .refl _ _, by omega, rfl⟩ ?_
  rintro m e2 H1 ⟨i, i15, hA1, hF1, hi, rfl⟩ hoff
  have i0 := (hoff 0 rfl).trans e0
  have i6 := (hoff 6 rfl).trans e6
  have j5 := hoff 5 rfl
  have j6 := hoff 6 rfl
  have j7 := hoff 7 rfl
  have j11 := hoff 11 rfl
  have j12 := hoff 12 rfl
  have j13 := hoff 13 rfl
  clear hoff
  by_cases hlt : i < len
  · have t1 : (i < len) = True := by simp [hlt]
    by_cases h100 : i < 100
    · have t2 : ((i : Int) < 100) = True := by simp; omega
      obtain ⟨p, rfl, cz, hz1, hz2⟩ := (hin.frame hA1.fr) i hlt
      have ew : IntKind.i64.wrap ((i : Int) + 1) = ((i + 1 : Nat) : Int) := by rw [wrap_i64] <;> omega
      have c6 := hA1.b.cellOf (i := 0) rfl
      obtain ⟨r0, r1⟩ := pickN_range (zs i) (n := 64) (by decide)
      have hhas : hasQ x (pickN (zs i) 64) = true := by
        unfold hasQ
        rw [hx i (by omega) (.inr (by omega))]
        unfold okN; simp; omega
      repeat' (first
        | (with_reducible first | refine seq_normal ?_ | (refine hK _ _ ?_; clear hK K) | refine x_seq (fun K hK => ?_) | refine x_nil ?_ | refine x_block ?_ | refine x_skip ?_ | refine x_exit ?_ | refine x_ret ?_ | refine x_label ?_ | refine x_scope ?_ | (refine seq_ret ?_; clear hK K) | (refine seq_exit ?_; clear hK K) | refine block_normal ?_ | refine block_ret ?_ | refine block_exit ?_ | refine loop_exit ?_ | refine loop_ret ?_)
        | ((with_reducible refine x_reg_lit ?hq ?_); case hq => rfl)
        | ((first | (with_reducible first | refine x_op (fun K hK => ?_) | refine end_ret ?_ | refine end_normal ?_) | ((with_reducible refine x_guard_yes ?hy (fun K hK => ?_)); case hy => rfl)); simp only [go_sem, Int.cast_ofNat_Int, Nat.reduceEqDiff, Nat.reduceAdd, Nat.reduceMul, Nat.reduceLeDiff, Nat.reduceLT, Int.reduceLT, Int.reduceLE, Int.reduceEq, Int.reduceNeg, Int.reduceToNat, Nat.reducePow, reduceIte, reduceCtorEq, i0, i15, t1, t2])
        | ((with_reducible first | refine x_guard_no ?hy ?_ | refine x_cond_true ?hy ?_); case hy => rfl)
        | ((with_reducible first | refine x_guard_none ?hy ?_ | refine x_cond_false ?hy ?_); case hy => rfl)
        | ((with_reducible refine block_exit_ne ?hy ?_); case hy => decide))
      obtain ⟨q, o, hp⟩ := addr_of cz
      rw [hp] at cz
      have q1 : Cells [(q, o, .int .i64 (zs i)), (b6, 0, .int .u64 (x.toNat : Int))] H1 := ⟨cz, c6, trivial⟩
      refine x_drawS [] [0, 1, 2, 3, 4, 5, 6, 7] rfl (by kernel_rfl) (Cells _) q1 ?_
      repeat' (first
        | (with_reducible refine xs_nil ?_)
        | ((with_reducible apply xs_rd); (case hi => rfl); (case hr => rfl); (case h1 => intro H' hS'; (try simp only [Cells, and_true] at hS'); simp only [go_sem, Int.cast_ofNat_Int, Nat.reduceEqDiff, Nat.reduceAdd, Nat.reduceMul, Nat.reduceLeDiff, Nat.reduceLT, Int.reduceLT, Int.reduceLE, Int.reduceEq, Int.reduceNeg, Int.reduceToNat, Nat.reducePow, reduceIte, reduceCtorEq, i0, i6, i15, t1, hp, hS']; rfl))
        | ((with_reducible apply xs_guard_yes); (case hi => rfl); (case hr => rfl); (case hy => rfl); (case h1 => intro H' hS'; (try simp only [Cells, and_true] at hS'); simp only [go_sem, Int.cast_ofNat_Int, Nat.reduceEqDiff, Nat.reduceAdd, Nat.reduceMul, Nat.reduceLeDiff, Nat.reduceLT, Int.reduceLT, Int.reduceLE, Int.reduceEq, Int.reduceNeg, Int.reduceToNat, Nat.reducePow, reduceIte, reduceCtorEq, i0, i6, i15, t1, hp, hS']; rfl))
        | ((with_reducible refine xs_tail ?hz ?_); case hz => rfl)
        | ((with_reducible refine xs_keep ?hz ?_); case hz => first | assumption | (simp only [go_sem, Int.cast_ofNat_Int, Nat.reduceEqDiff, Nat.reduceAdd, Nat.reduceMul, Nat.reduceLeDiff, Nat.reduceLT, Int.reduceLT, Int.reduceLE, Int.reduceEq, Int.reduceNeg, Int.reduceToNat, Nat.reducePow, reduceIte, reduceCtorEq, Cells, and_true, i0, i6, i15, t1, hp]))
        | ((with_reducible apply xs_guard_no); (case hi => rfl); (case hy => rfl); (case hS => assumption))
        | ((first | ((with_reducible apply xs_op); (case hi => rfl)) | ((with_reducible apply xs_op_yes); (case hi => rfl); (case hy => rfl))); (case hr => rfl); intro K hK; simp only [go_sem, Int.cast_ofNat_Int, Nat.reduceEqDiff, Nat.reduceAdd, Nat.reduceMul, Nat.reduceLeDiff, Nat.reduceLT, Int.reduceLT, Int.reduceLE, Int.reduceEq, Int.reduceNeg, Int.reduceToNat, Nat.reducePow, reduceIte, reduceCtorEq, i0, i6, i15, t1, hp])
        | (with_reducible first | refine seq_normal ?_ | (refine hK _ _ ?_; clear hK K) | refine x_seq (fun K hK => ?_) | refine x_nil ?_ | refine x_block ?_ | refine x_skip ?_ | refine x_exit ?_ | refine x_ret ?_ | refine x_label ?_ | refine x_scope ?_ | (refine seq_ret ?_; clear hK K) | (refine seq_exit ?_; clear hK K) | refine block_normal ?_ | refine block_ret ?_ | refine block_exit ?_ | refine loop_exit ?_ | refine loop_ret ?_)
        | ((with_reducible refine x_reg_lit ?hq ?_); case hq => rfl)
        | ((first | (with_reducible first | refine x_op (fun K hK => ?_) | refine end_ret ?_ | refine end_normal ?_) | ((with_reducible refine x_guard_yes ?hy (fun K hK => ?_)); case hy => rfl)); simp only [go_sem, Int.cast_ofNat_Int, Nat.reduceEqDiff, Nat.reduceAdd, Nat.reduceMul, Nat.reduceLeDiff, Nat.reduceLT, Int.reduceLT, Int.reduceLE, Int.reduceEq, Int.reduceNeg, Int.reduceToNat, Nat.reducePow, reduceIte, reduceCtorEq, i0, i6, i15, t1, hp])
        | ((with_reducible first | refine x_guard_no ?hy ?_ | refine x_cond_true ?hy ?_); case hy => rfl)
        | ((with_reducible first | refine x_guard_none ?hy ?_ | refine x_cond_false ?hy ?_); case hy => rfl)
        | ((with_reducible refine block_exit_ne ?hy ?_); case hy => decide))
      refine Pkisthmuslaw09.pick_ok hz1 hz2 (by decide) ?_
      repeat' (first
        | (with_reducible refine xs_nil ?_)
        | ((with_reducible apply xs_rd); (case hi => rfl); (case hr => rfl); (case h1 => intro H' hS'; (try simp only [Cells, and_true] at hS'); simp only [go_sem, Int.cast_ofNat_Int, Nat.reduceEqDiff, Nat.reduceAdd, Nat.reduceMul, Nat.reduceLeDiff, Nat.reduceLT, Int.reduceLT, Int.reduceLE, Int.reduceEq, Int.reduceNeg, Int.reduceToNat, Nat.reducePow, reduceIte, reduceCtorEq, i0, i6, i15, t1, hp, hS']; rfl))
        | ((with_reducible apply xs_guard_yes); (case hi => rfl); (case hr => rfl); (case hy => rfl); (case h1 => intro H' hS'; (try simp only [Cells, and_true] at hS'); simp only [go_sem, Int.cast_ofNat_Int, Nat.reduceEqDiff, Nat.reduceAdd, Nat.reduceMul, Nat.reduceLeDiff, Nat.reduceLT, Int.reduceLT, Int.reduceLE, Int.reduceEq, Int.reduceNeg, Int.reduceToNat, Nat.reducePow, reduceIte, reduceCtorEq, i0, i6, i15, t1, hp, hS']; rfl))
        | ((with_reducible refine xs_tail ?hz ?_); case hz => rfl)
        | ((with_reducible refine xs_keep ?hz ?_); case hz => first | assumption | (simp only [go_sem, Int.cast_ofNat_Int, Nat.reduceEqDiff, Nat.reduceAdd, Nat.reduceMul, Nat.reduceLeDiff, Nat.reduceLT, Int.reduceLT, Int.reduceLE, Int.reduceEq, Int.reduceNeg, Int.reduceToNat, Nat.reducePow, reduceIte, reduceCtorEq, Cells, and_true, i0, i6, i15, t1, hp]))
        | ((with_reducible apply xs_guard_no); (case hi => rfl); (case hy => rfl); (case hS => assumption))
        | ((first | ((with_reducible apply xs_op); (case hi => rfl)) | ((with_reducible apply xs_op_yes); (case hi => rfl); (case hy => rfl))); (case hr => rfl); intro K hK; simp only [go_sem, Int.cast_ofNat_Int, Nat.reduceEqDiff, Nat.reduceAdd, Nat.reduceMul, Nat.reduceLeDiff, Nat.reduceLT, Int.reduceLT, Int.reduceLE, Int.reduceEq, Int.reduceNeg, Int.reduceToNat, Nat.reducePow, reduceIte, reduceCtorEq, i0, i6, i15, t1, hp])
        | (with_reducible first | refine seq_normal ?_ | (refine hK _ _ ?_; clear hK K) | refine x_seq (fun K hK => ?_) | refine x_nil ?_ | refine x_block ?_ | refine x_skip ?_ | refine x_exit ?_ | refine x_ret ?_ | refine x_label ?_ | refine x_scope ?_ | (refine seq_ret ?_; clear hK K) | (refine seq_exit ?_; clear hK K) | refine block_normal ?_ | refine block_ret ?_ | refine block_exit ?_ | refine loop_exit ?_ | refine loop_ret ?_)
        | ((with_reducible refine x_reg_lit ?hq ?_); case hq => rfl)
        | ((first | (with_reducible first | refine x_op (fun K hK => ?_) | refine end_ret ?_ | refine end_normal ?_) | ((with_reducible refine x_guard_yes ?hy (fun K hK => ?_)); case hy => rfl)); simp only [go_sem, Int.cast_ofNat_Int, Nat.reduceEqDiff, Nat.reduceAdd, Nat.reduceMul, Nat.reduceLeDiff, Nat.reduceLT, Int.reduceLT, Int.reduceLE, Int.reduceEq, Int.reduceNeg, Int.reduceToNat, Nat.reducePow, reduceIte, reduceCtorEq, i0, i6, i15, t1, hp])
        | ((with_reducible first | refine x_guard_no ?hy ?_ | refine x_cond_true ?hy ?_); case hy => rfl)
        | ((with_reducible first | refine x_guard_none ?hy ?_ | refine x_cond_false ?hy ?_); case hy => rfl)
        | ((with_reducible refine block_exit_ne ?hy ?_); case hy => decide))
      refine has_ok fun H2 f2 => ?_
      rw [hhas]
      have q2 := q1.grow f2
      repeat' (first
        | (with_reducible refine xs_nil ?_)
        | ((with_reducible apply xs_rd); (case hi => rfl); (case hr => rfl); (case h1 => intro H' hS'; (try simp only [Cells, and_true] at hS'); simp only [go_sem, Int.cast_ofNat_Int, Nat.reduceEqDiff, Nat.reduceAdd, Nat.reduceMul, Nat.reduceLeDiff, Nat.reduceLT, Int.reduceLT, Int.reduceLE, Int.reduceEq, Int.reduceNeg, Int.reduceToNat, Nat.reducePow, reduceIte, reduceCtorEq, i15, ew, hS']; rfl))
        | ((with_reducible apply xs_guard_yes); (case hi => rfl); (case hr => rfl); (case hy => rfl); (case h1 => intro H' hS'; (try simp only [Cells, and_true] at hS'); simp only [go_sem, Int.cast_ofNat_Int, Nat.reduceEqDiff, Nat.reduceAdd, Nat.reduceMul, Nat.reduceLeDiff, Nat.reduceLT, Int.reduceLT, Int.reduceLE, Int.reduceEq, Int.reduceNeg, Int.reduceToNat, Nat.reducePow, reduceIte, reduceCtorEq, i15, ew, hS']; rfl))
        | ((with_reducible refine xs_tail ?hz ?_); case hz => rfl)
        | ((with_reducible refine xs_keep ?hz ?_); case hz => first | assumption | (simp only [go_sem, Int.cast_ofNat_Int, Nat.reduceEqDiff, Nat.reduceAdd, Nat.reduceMul, Nat.reduceLeDiff, Nat.reduceLT, Int.reduceLT, Int.reduceLE, Int.reduceEq, Int.reduceNeg, Int.reduceToNat, Nat.reducePow, reduceIte, reduceCtorEq, Cells, and_true, i15, ew]))
        | ((with_reducible apply xs_guard_no); (case hi => rfl); (case hy => rfl); (case hS => assumption))
        | ((first | ((with_reducible apply xs_op); (case hi => rfl)) | ((with_reducible apply xs_op_yes); (case hi => rfl); (case hy => rfl))); (case hr => rfl); intro K hK; simp only [go_sem, Int.cast_ofNat_Int, Nat.reduceEqDiff, Nat.reduceAdd, Nat.reduceMul, Nat.reduceLeDiff, Nat.reduceLT, Int.reduceLT, Int.reduceLE, Int.reduceEq, Int.reduceNeg, Int.reduceToNat, Nat.reducePow, reduceIte, reduceCtorEq, i15, ew])
        | (with_reducible first | refine seq_normal ?_ | (refine hK _ _ ?_; clear hK K) | refine x_seq (fun K hK => ?_) | refine x_nil ?_ | refine x_block ?_ | refine x_skip ?_ | refine x_exit ?_ | refine x_ret ?_ | refine x_label ?_ | refine x_scope ?_ | (refine seq_ret ?_; clear hK K) | (refine seq_exit ?_; clear hK K) | refine block_normal ?_ | refine block_ret ?_ | refine block_exit ?_ | refine loop_exit ?_ | refine loop_ret ?_)
        | ((with_reducible refine x_reg_lit ?hq ?_); case hq => rfl)
        | ((first | (with_reducible first | refine x_op (fun K hK => ?_) | refine end_ret ?_ | refine end_normal ?_) | ((with_reducible refine x_guard_yes ?hy (fun K hK => ?_)); case hy => rfl)); simp only [go_sem, Int.cast_ofNat_Int, Nat.reduceEqDiff, Nat.reduceAdd, Nat.reduceMul, Nat.reduceLeDiff, Nat.reduceLT, Int.reduceLT, Int.reduceLE, Int.reduceEq, Int.reduceNeg, Int.reduceToNat, Nat.reducePow, reduceIte, reduceCtorEq, i15, ew])
        | ((with_reducible first | refine x_guard_no ?hy ?_ | refine x_cond_true ?hy ?_); case hy => rfl)
        | ((with_reducible first | refine x_guard_none ?hy ?_ | refine x_cond_false ?hy ?_); case hy => rfl)
        | ((with_reducible refine block_exit_ne ?hy ?_); case hy => decide))
      refine loop_normal (m' := 100 - (i + 1)) (by omega) ⟨i + 1, rfl, hA1.grow f2, hF1.trans f2, by omega, rfl⟩
    · have t2 : ((i : Int) < 100) = False := by simp; omega
      repeat' (first
        | (with_reducible first | refine seq_normal ?_ | (refine hK _ _ ?_; clear hK K) | refine x_seq (fun K hK => ?_) | refine x_nil ?_ | refine x_block ?_ | refine x_skip ?_ | refine x_exit ?_ | refine x_ret ?_ | refine x_label ?_ | refine x_scope ?_ | (refine seq_ret ?_; clear hK K) | (refine seq_exit ?_; clear hK K) | refine block_normal ?_ | refine block_ret ?_ | refine block_exit ?_ | refine loop_exit ?_ | refine loop_ret ?_)
        | ((with_reducible refine x_reg_lit ?hq ?_); case hq => rfl)
        | ((first | (with_reducible first | refine x_op (fun K hK => ?_) | refine end_ret ?_ | refine end_normal ?_) | ((with_reducible refine x_guard_yes ?hy (fun K hK => ?_)); case hy => rfl)); simp only [go_sem, Int.cast_ofNat_Int, Nat.reduceEqDiff, Nat.reduceAdd, Nat.reduceMul, Nat.reduceLeDiff, Nat.reduceLT, Int.reduceLT, Int.reduceLE, Int.reduceEq, Int.reduceNeg, Int.reduceToNat, Nat.reducePow, reduceIte, reduceCtorEq, i0, i15, t1, t2])
        | ((with_reducible first | refine x_guard_no ?hy ?_ | refine x_cond_true ?hy ?_); case hy => rfl)
        | ((with_reducible first | refine x_guard_none ?hy ?_ | refine x_cond_false ?hy ?_); case hy => rfl)
        | ((with_reducible refine block_exit_ne ?hy ?_); case hy => decide))
      exact hQ _ _ j5 j6 j7 j11 j12 j13 hA1 hF1
  · have t1 : (i < len) = False := by simp [hlt]
    repeat' (first
      | (with_reducible first | refine seq_normal ?_ | (refine hK _ _ ?_; clear hK K) | refine x_seq (fun K hK => ?_) | refine x_nil ?_ | refine x_block ?_ | refine x_skip ?_ | refine x_exit ?_ | refine x_ret ?_ | refine x_label ?_ | refine x_scope ?_ | (refine seq_ret ?_; clear hK K) | (refine seq_exit ?_; clear hK K) | refine block_normal ?_ | refine block_ret ?_ | refine block_exit ?_ | refine loop_exit ?_ | refine loop_ret ?_)
      | ((with_reducible refine x_reg_lit ?hq ?_); case hq => rfl)
      | ((first | (with_reducible first | refine x_op (fun K hK => ?_) | refine end_ret ?_ | refine end_normal ?_) | ((with_reducible refine x_guard_yes ?hy (fun K hK => ?_)); case hy => rfl)); simp only [go_sem, Int.cast_ofNat_Int, Nat.reduceEqDiff, Nat.reduceAdd, Nat.reduceMul, Nat.reduceLeDiff, Nat.reduceLT, Int.reduceLT, Int.reduceLE, Int.reduceEq, Int.reduceNeg, Int.reduceToNat, Nat.reducePow, reduceIte, reduceCtorEq, i0, i15, t1])
      | ((with_reducible first | refine x_guard_no ?hy ?_ | refine x_cond_true ?hy ?_); case hy => rfl)
      | ((with_reducible first | refine x_guard_none ?hy ?_ | refine x_cond_false ?hy ?_); case hy => rfl)
      | ((with_reducible refine block_exit_ne ?hy ?_); case hy => decide))
    exact hQ _ _ j5 j6 j7 j11 j12 j13 hA1 hF1
end Go.Proofs.YtdhepjcdlkahnaaDoor
