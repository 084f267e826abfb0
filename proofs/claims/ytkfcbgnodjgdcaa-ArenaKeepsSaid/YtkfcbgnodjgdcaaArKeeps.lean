/-
  ArenaKeeps: the loops.
-/
import Derived.Test.YtkfcbgnodjgdcaaArKeepsH
import Derived.Test.YtkfcbgnodjgdcaaHpS
namespace Go.Proofs.Ytkfcbgnodjgdcaa
open Go Go.Hp
set_option linter.all false
set_option maxRecDepth 100000
set_option maxHeartbeats 1600000

/-- What lies in memory in ArenaKeeps: the arena, the two lists. -/
structure KM (H0 H : Heap) (p g R : Nat) (A : Ar) (B1 B2 : Option Nat) (v1 v2 : Value) (hs ws : List Int) : Prop where
  ar : ArAt H p g 2 [.int .i64 0, .int .i64 0] A
  room : A.room = R
  i1 : IR H B1 v1 hs
  i2 : IR H B2 v2 ws
  fr : Fr (fun _ => False) H0 H
  gp : H0.size ≤ p
  gg : H0.size ≤ g
  d1 : ∀ b, B1 = some b → H0.size ≤ b ∧ b ≠ p ∧ b ≠ g ∧ B2 ≠ some b
  d2 : ∀ b, B2 = some b → H0.size ≤ b ∧ b ≠ p ∧ b ≠ g
section
variable {H0 H H' : Heap} {p g R : Nat} {A : Ar} {B1 B2 : Option Nat} {v1 v2 : Value} {hs ws : List Int}
theorem KM.lt (h : KM H0 H p g R A B1 B2 v1 v2 hs ws) : p < H.size ∧ g < H.size := by
  obtain ⟨c, rest, b1, b2, _⟩ := h.ar.at_
  exact ⟨b1.lt, b2.lt⟩
theorem KM.grow (h : KM H0 H p g R A B1 B2 v1 v2 hs ws) (hf : Fr (fun _ => False) H H') : KM H0 H' p g R A B1 B2 v1 v2 hs ws :=
  ⟨h.ar.frame hf (fun h => h) (fun h => h), h.room, h.i1.frame hf (fun _ _ h => h), h.i2.frame hf (fun _ _ h => h), h.fr.trans hf, h.gp, h.gg, h.d1, h.d2⟩
theorem KM.arena {g' : Nat} {A' : Ar} (h : KM H0 H p g R A B1 B2 v1 v2 hs ws) (hA : ArAt H' p g' 2 [.int .i64 0, .int .i64 0] A') (hr : A'.room = R) (hf : Fr (fun b => b = g ∨ b = p) H H') (hg : g' = g ∨ H.size ≤ g') : KM H0 H' p g' R A' B1 B2 v1 v2 hs ws := by
  have hl := h.lt
  have hs0 := h.fr.size
  refine ⟨hA, hr, h.i1.frame hf fun b hb e => ?_, h.i2.frame hf fun b hb e => ?_, h.fr.trans' hf fun b hb e => ?_, h.gp, ?_, fun b hb => ?_, fun b hb => ?_⟩
  · have := h.d1 b hb; omega
  · have := h.d2 b hb; omega
  · have := h.gp; have := h.gg; omega
  · have := h.gg; omega
  · have h1 := h.d1 b hb
    have := h.i1.lt hb
    exact ⟨h1.1, h1.2.1, by omega, h1.2.2.2⟩
  · have h2 := h.d2 b hb
    have := h.i2.lt hb
    exact ⟨h2.1, h2.2.1, by omega⟩
theorem KM.row1 {B1' : Option Nat} {v1' : Value} {hs' : List Int} (h : KM H0 H p g R A B1 B2 v1 v2 hs ws) (hi : IR H' B1' v1' hs') (hf : Fr (fun b => B1 = some b) H H') (hB : B1' = B1 ∨ ∃ g, B1' = some g ∧ H.size ≤ g) : KM H0 H' p g R A B1' B2 v1' v2 hs' ws := by
  have hl := h.lt
  have hs0 := h.fr.size
  refine ⟨h.ar.frame hf (fun e => ?_) (fun e => ?_), h.room, hi, h.i2.frame hf fun b hb e => (h.d1 b e).2.2.2 hb, h.fr.trans' hf fun b hb e => ?_, h.gp, h.gg, fun b hb => ?_, h.d2⟩
  · exact (h.d1 _ e).2.1 rfl
  · exact (h.d1 _ e).2.2.1 rfl
  · have := (h.d1 b e).1; omega
  · rcases hB with rfl | ⟨g', h1, h2⟩
    · exact h.d1 b hb
    · rw [h1] at hb
      obtain rfl := Option.some.inj hb
      refine ⟨by omega, by omega, by omega, fun e => ?_⟩
      have := h.i2.lt e
      omega
theorem KM.row2 {B2' : Option Nat} {v2' : Value} {ws' : List Int} (h : KM H0 H p g R A B1 B2 v1 v2 hs ws) (hi : IR H' B2' v2' ws') (hf : Fr (fun b => B2 = some b) H H') (hB : B2' = B2 ∨ ∃ g, B2' = some g ∧ H.size ≤ g) : KM H0 H' p g R A B1 B2' v1 v2' hs ws' := by
  have hl := h.lt
  have hs0 := h.fr.size
  refine ⟨h.ar.frame hf (fun e => ?_) (fun e => ?_), h.room, h.i1.frame hf fun b hb e => (h.d1 b hb).2.2.2 e, hi, h.fr.trans' hf fun b hb e => ?_, h.gp, h.gg, fun b hb => ?_, fun b hb => ?_⟩
  · exact (h.d2 _ e).2.1 rfl
  · exact (h.d2 _ e).2.2 rfl
  · have := (h.d2 b e).1; omega
  · obtain ⟨a1, a2, a3, a4⟩ := h.d1 b hb
    have := h.i1.lt hb
    refine ⟨a1, a2, a3, fun e => ?_⟩
    rcases hB with rfl | ⟨g', h1, h2⟩
    · exact a4 e
    · rw [h1] at e
      obtain rfl := Option.some.inj e
      omega
  · rcases hB with rfl | ⟨g', h1, h2⟩
    · exact h.d2 b hb
    · rw [h1] at hb
      obtain rfl := Option.some.inj hb
      exact ⟨by omega, by omega, by omega⟩
end
theorem put_two {H : Heap} {p g : Nat} {A : Ar} {v v' : Int} {K : Value → Heap → Prop} (hA : ArAt H p g 2 [.int .i64 0, .int .i64 0] A) (hm : A.many < A.room)
    (hk : ∀ H' g' A' (h : Nat), ArAt H' p g' 2 [.int .i64 0, .int .i64 0] A' → A'.room = A.room → 1 ≤ h → A.get h = none → (∀ i, A'.get i = if i = h then some [.int .i64 v, .int .i64 v'] else A.get i) → A'.many ≤ A.room →
      Fr (fun b => b = g ∨ b = p) H H' → (g' = g ∨ H.size ≤ g') → K (.tuple #[.int .i64 h, .int .i64 0]) H') :
    CallsH Try.prog 14 #[.pointer (some ⟨p, 0, none⟩), .agg #[.int .i64 v, .int .i64 v']] H K := by
  have hcf := Ar.count_free A hA.ok
  have hml := ArTwo.many_le' hA.ok
  cases hf : A.free with
  | nil =>
    refine ArTwo.put_new hA hm hf fun H' g' hA' hfr hg => hk H' g' _ A.vals.length hA' rfl ?_ ?_ (fun i => Ar.get_putNew i) ?_ hfr hg
    · omega
    · unfold Ar.get; rw [List.getElem?_eq_none (Nat.le_refl _)]; rfl
    · rw [Ar.many_putNew]; omega
  | cons h fs =>
    obtain ⟨h1, h2, h3⟩ := (hA.ok.mem h).1 (by rw [hf]; exact .head _)
    refine ArTwo.put_old hA hm hf fun H' hA' hfr => hk H' g _ h hA' rfl h1 h3 (fun i => Ar.get_putOld hA.ok hf i) ?_ hfr (.inl rfl)
    rw [Ar.many_putOld hA.ok (by rw [hf]; exact .head _)]; omega
def KI (H0 : Heap) (p R len : Nat) (zs : Nat → Int) (mm : Nat) (e : Env) (H : Heap) : Prop :=
  ∃ (i g : Nat) (A : Ar) (B1 B2 : Option Nat) (v1 v2 : Value) (hs ws : List Int), e 8 = v1 ∧ e 9 = v2 ∧ e 10 = .int .i64 (i : Nat) ∧ i ≤ 400 ∧ i ≤ len ∧ mm = 400 - i ∧ KM H0 H p g R A B1 B2 v1 v2 hs ws ∧ Keep A.get zs hs ws i
/-- The loop that puts and drops. -/
theorem keepsA {H0 H : Heap} {e : Env} {p g R len cap : Nat} {Q : HX → Env → Heap → Prop} {a : Option Addr} {zs : Nat → Int}
    (hin : InInts H0 a len zs) (hlen : len ≤ 9223372036854775807) (hR : R ≤ 4096) (e0 : e 0 = .int .i64 (R : Nat)) (e1 : e 1 = .slice a len cap) (e6 : e 6 = .pointer (some ⟨p, 0, none⟩)) (e8 : e 8 = .slice none 0 0) (e9 : e 9 = .slice none 0 0) (e10 : e 10 = .int .i64 0)
    (hM : KM H0 H p g R (Ar.new R) none none (.slice none 0 0) (.slice none 0 0) [] [])
    (hQ : ∀ (e' : Env) H' g' A' B1' B2' v1' v2' hs' ws' i, e' 0 = .int .i64 (R : Nat) → e' 1 = .slice a len cap → e' 6 = .pointer (some ⟨p, 0, none⟩) → e' 8 = v1' → e' 9 = v2' →
      KM H0 H' p g' R A' B1' B2' v1' v2' hs' ws' → Keep A'.get zs hs' ws' i → i ≤ len → i ≤ 400 → Q .normal e' H') :
    codeX Try.prog [31, 36] (loopAt Try.f4.body 0) (blockQ 0 Q) e H := by
  refine x_loop (KI H0 p R len zs) 400
    ⟨0, g, _, _, _, _, _, _, _, e8, e9, e10, by omega, by omega, rfl, hM, (show (Ar.new R).get = fun _ => none from by funext h; cases h <;> rfl) ▸ Keep.nil zs 0⟩ ?_
  rintro mm e' H1 ⟨i, g1, A, B1, B2, v1, v2, hs, ws, i8, i9, i10, hi4, hil, rfl, hM, kp⟩ hoff
  have e0' := (hoff 0 rfl).trans e0
  have e1' := (hoff 1 rfl).trans e1
  have e6' := (hoff 6 rfl).trans e6
  clear hoff e0 e1 e6 e8 e9 e10
  have hle := kp.le
  have hll := kp.len
  obtain ⟨a1, c1, s1⟩ := hM.i1.slice
  obtain ⟨a2, c2, s2⟩ := hM.i2.slice
  by_cases hi : i < len
  · by_cases hi2 : i < 400
    · have t2 : ((i : Int) < 400) = True := by simp; omega
      obtain ⟨q, rfl, hq, hq1, hq2⟩ := (hin.frame hM.fr) i hi
      have ew : IntKind.i64.wrap ((i : Int) + 1) = ((i + 1 : Nat) : Int) := by rw [wrap_i64] <;> omega
      by_cases hz : 0 ≤ zs i ∨ hs = []
      · rcases Nat.lt_or_ge A.many A.room with hm | hm
        · by_cases hz0 : 0 ≤ zs i
          · have t5 : (0 ≤ zs i) = True := by simp [hz0]
            repeat' (first
              | (with_reducible first | refine seq_normal ?_ | (refine hK _ _ ?_; clear hK K) | refine x_seq (fun K hK => ?_) | refine x_nil ?_ | refine x_block ?_ | refine x_skip ?_ | refine x_exit ?_ | refine x_ret ?_ | refine x_label ?_ | refine x_scope ?_ | (refine seq_ret ?_; clear hK K) | (refine seq_exit ?_; clear hK K) | refine block_normal ?_ | refine block_ret ?_ | refine block_exit ?_ | refine loop_exit ?_ | refine loop_ret ?_)
              | ((with_reducible refine x_reg_lit ?hq ?_); case hq => rfl)
              | ((first | (with_reducible first | refine x_op (fun K hK => ?_) | refine end_ret ?_ | refine end_normal ?_) | ((with_reducible refine x_guard_yes ?hy (fun K hK => ?_)); case hy => rfl)); simp only [go_sem, Nat.reduceEqDiff, Nat.reduceAdd, Nat.reduceMul, Nat.reduceLeDiff, Nat.reduceLT, Int.reduceLT, Int.reduceLE, Int.reduceEq, Int.reduceNeg, Int.reduceToNat, Nat.reducePow, reduceIte, reduceCtorEq, i10, i8, i9, e1', e6', e0', t2, hi, hq, t5])
              | ((with_reducible first | refine x_guard_no ?hy ?_ | refine x_cond_true ?hy ?_); case hy => rfl)
              | ((with_reducible first | refine x_guard_none ?hy ?_ | refine x_cond_false ?hy ?_); case hy => rfl)
              | ((with_reducible refine block_exit_ne ?hy ?_); case hy => decide))
            refine put_two hM.ar hm ?_
            intro H2 g2 A2 h hA2 hr2 h1 hg0 hg2 hm2 hf2 hgg
            have hM2 := hM.arena hA2 (by rw [hr2]; exact hM.room) hf2 hgg
            have kp2 := kp.put h1 hg0 hg2
            have t3 : (R < A2.many) = False := by have := hM.room; simp; omega
            have t4 : ((h : Int) != 0) = true := by simp; omega
            repeat' (first
              | (with_reducible first | refine seq_normal ?_ | (refine hK _ _ ?_; clear hK K) | refine x_seq (fun K hK => ?_) | refine x_nil ?_ | refine x_block ?_ | refine x_skip ?_ | refine x_exit ?_ | refine x_ret ?_ | refine x_label ?_ | refine x_scope ?_ | (refine seq_ret ?_; clear hK K) | (refine seq_exit ?_; clear hK K) | refine block_normal ?_ | refine block_ret ?_ | refine block_exit ?_ | refine loop_exit ?_ | refine loop_ret ?_)
              | ((with_reducible refine x_reg_lit ?hq ?_); case hq => rfl)
              | ((first | (with_reducible first | refine x_op (fun K hK => ?_) | refine end_ret ?_ | refine end_normal ?_) | ((with_reducible refine x_guard_yes ?hy (fun K hK => ?_)); case hy => rfl)); simp only [go_sem, Nat.reduceEqDiff, Nat.reduceAdd, Nat.reduceMul, Nat.reduceLeDiff, Nat.reduceLT, Int.reduceLT, Int.reduceLE, Int.reduceEq, Int.reduceNeg, Int.reduceToNat, Nat.reducePow, reduceIte, reduceCtorEq, i10, i8, i9, e1', e6', e0'])
              | ((with_reducible first | refine x_guard_no ?hy ?_ | refine x_cond_true ?hy ?_); case hy => rfl)
              | ((with_reducible first | refine x_guard_none ?hy ?_ | refine x_cond_false ?hy ?_); case hy => rfl)
              | ((with_reducible refine block_exit_ne ?hy ?_); case hy => decide))
            refine ArTwo.len_ok hM2.ar ?_
            repeat' (first
              | (with_reducible first | refine seq_normal ?_ | (refine hK _ _ ?_; clear hK K) | refine x_seq (fun K hK => ?_) | refine x_nil ?_ | refine x_block ?_ | refine x_skip ?_ | refine x_exit ?_ | refine x_ret ?_ | refine x_label ?_ | refine x_scope ?_ | (refine seq_ret ?_; clear hK K) | (refine seq_exit ?_; clear hK K) | refine block_normal ?_ | refine block_ret ?_ | refine block_exit ?_ | refine loop_exit ?_ | refine loop_ret ?_)
              | ((with_reducible refine x_reg_lit ?hq ?_); case hq => rfl)
              | ((first | (with_reducible first | refine x_op (fun K hK => ?_) | refine end_ret ?_ | refine end_normal ?_) | ((with_reducible refine x_guard_yes ?hy (fun K hK => ?_)); case hy => rfl)); simp only [go_sem, Nat.reduceEqDiff, Nat.reduceAdd, Nat.reduceMul, Nat.reduceLeDiff, Nat.reduceLT, Int.reduceLT, Int.reduceLE, Int.reduceEq, Int.reduceNeg, Int.reduceToNat, Nat.reducePow, reduceIte, reduceCtorEq, i10, i8, i9, e1', e6', e0', t3, t4])
              | ((with_reducible first | refine x_guard_no ?hy ?_ | refine x_cond_true ?hy ?_); case hy => rfl)
              | ((with_reducible first | refine x_guard_none ?hy ?_ | refine x_cond_false ?hy ?_); case hy => rfl)
              | ((with_reducible refine block_exit_ne ?hy ?_); case hy => decide))
            refine append_ir elems22 tl3 hM2.i1 rfl (by decide) (by simp only []; omega) rfl ?_
            intro v1' H3 B1' hi1 hf3 hB1
            have hM3 := hM2.row1 hi1 hf3 hB1
            repeat' (first
              | (with_reducible first | refine seq_normal ?_ | (refine hK _ _ ?_; clear hK K) | refine x_seq (fun K hK => ?_) | refine x_nil ?_ | refine x_block ?_ | refine x_skip ?_ | refine x_exit ?_ | refine x_ret ?_ | refine x_label ?_ | refine x_scope ?_ | (refine seq_ret ?_; clear hK K) | (refine seq_exit ?_; clear hK K) | refine block_normal ?_ | refine block_ret ?_ | refine block_exit ?_ | refine loop_exit ?_ | refine loop_ret ?_)
              | ((with_reducible refine x_reg_lit ?hq ?_); case hq => rfl)
              | ((first | (with_reducible first | refine x_op (fun K hK => ?_) | refine end_ret ?_ | refine end_normal ?_) | ((with_reducible refine x_guard_yes ?hy (fun K hK => ?_)); case hy => rfl)); simp only [go_sem, Nat.reduceEqDiff, Nat.reduceAdd, Nat.reduceMul, Nat.reduceLeDiff, Nat.reduceLT, Int.reduceLT, Int.reduceLE, Int.reduceEq, Int.reduceNeg, Int.reduceToNat, Nat.reducePow, reduceIte, reduceCtorEq, i10, i8, i9, e1', e6', e0'])
              | ((with_reducible first | refine x_guard_no ?hy ?_ | refine x_cond_true ?hy ?_); case hy => rfl)
              | ((with_reducible first | refine x_guard_none ?hy ?_ | refine x_cond_false ?hy ?_); case hy => rfl)
              | ((with_reducible refine block_exit_ne ?hy ?_); case hy => decide))
            refine append_ir elems22 tl3 hM3.i2 rfl (by decide) (by simp only []; omega) rfl ?_
            intro v2' H4 B2' hi2 hf4 hB2
            have hM4 := hM3.row2 hi2 hf4 hB2
            repeat' (first
              | (with_reducible first | refine seq_normal ?_ | (refine hK _ _ ?_; clear hK K) | refine x_seq (fun K hK => ?_) | refine x_nil ?_ | refine x_block ?_ | refine x_skip ?_ | refine x_exit ?_ | refine x_ret ?_ | refine x_label ?_ | refine x_scope ?_ | (refine seq_ret ?_; clear hK K) | (refine seq_exit ?_; clear hK K) | refine block_normal ?_ | refine block_ret ?_ | refine block_exit ?_ | refine loop_exit ?_ | refine loop_ret ?_)
              | ((with_reducible refine x_reg_lit ?hq ?_); case hq => rfl)
              | ((first | (with_reducible first | refine x_op (fun K hK => ?_) | refine end_ret ?_ | refine end_normal ?_) | ((with_reducible refine x_guard_yes ?hy (fun K hK => ?_)); case hy => rfl)); simp only [go_sem, Nat.reduceEqDiff, Nat.reduceAdd, Nat.reduceMul, Nat.reduceLeDiff, Nat.reduceLT, Int.reduceLT, Int.reduceLE, Int.reduceEq, Int.reduceNeg, Int.reduceToNat, Nat.reducePow, reduceIte, reduceCtorEq, i10, i8, i9, e1', e6', e0', ew])
              | ((with_reducible first | refine x_guard_no ?hy ?_ | refine x_cond_true ?hy ?_); case hy => rfl)
              | ((with_reducible first | refine x_guard_none ?hy ?_ | refine x_cond_false ?hy ?_); case hy => rfl)
              | ((with_reducible refine block_exit_ne ?hy ?_); case hy => decide))
            exact loop_normal (m' := 400 - (i + 1)) (by omega) ⟨i + 1, g2, A2, B1', B2', v1', v2', _, _, by rfl, by rfl, by rfl, by omega, by omega, rfl, hM4, kp2⟩
          · have t5 : (0 ≤ zs i) = False := by simp; omega
            obtain rfl : hs = [] := hz.resolve_left hz0
            have s1' : v1 = .slice a1 0 c1 := s1
            repeat' (first
              | (with_reducible first | refine seq_normal ?_ | (refine hK _ _ ?_; clear hK K) | refine x_seq (fun K hK => ?_) | refine x_nil ?_ | refine x_block ?_ | refine x_skip ?_ | refine x_exit ?_ | refine x_ret ?_ | refine x_label ?_ | refine x_scope ?_ | (refine seq_ret ?_; clear hK K) | (refine seq_exit ?_; clear hK K) | refine block_normal ?_ | refine block_ret ?_ | refine block_exit ?_ | refine loop_exit ?_ | refine loop_ret ?_)
              | ((with_reducible refine x_reg_lit ?hq ?_); case hq => rfl)
              | ((first | (with_reducible first | refine x_op (fun K hK => ?_) | refine end_ret ?_ | refine end_normal ?_) | ((with_reducible refine x_guard_yes ?hy (fun K hK => ?_)); case hy => rfl)); simp only [go_sem, Nat.reduceEqDiff, Nat.reduceAdd, Nat.reduceMul, Nat.reduceLeDiff, Nat.reduceLT, Int.reduceLT, Int.reduceLE, Int.reduceEq, Int.reduceNeg, Int.reduceToNat, Nat.reducePow, reduceIte, reduceCtorEq, i10, i8, s1', i9, e1', e6', e0', t2, hi, hq, t5])
              | ((with_reducible first | refine x_guard_no ?hy ?_ | refine x_cond_true ?hy ?_); case hy => rfl)
              | ((with_reducible first | refine x_guard_none ?hy ?_ | refine x_cond_false ?hy ?_); case hy => rfl)
              | ((with_reducible refine block_exit_ne ?hy ?_); case hy => decide))
            refine put_two hM.ar hm ?_
            intro H2 g2 A2 h hA2 hr2 h1 hg0 hg2 hm2 hf2 hgg
            have hM2 := hM.arena hA2 (by rw [hr2]; exact hM.room) hf2 hgg
            have kp2 := kp.put h1 hg0 hg2
            have t3 : (R < A2.many) = False := by have := hM.room; simp; omega
            have t4 : ((h : Int) != 0) = true := by simp; omega
            repeat' (first
              | (with_reducible first | refine seq_normal ?_ | (refine hK _ _ ?_; clear hK K) | refine x_seq (fun K hK => ?_) | refine x_nil ?_ | refine x_block ?_ | refine x_skip ?_ | refine x_exit ?_ | refine x_ret ?_ | refine x_label ?_ | refine x_scope ?_ | (refine seq_ret ?_; clear hK K) | (refine seq_exit ?_; clear hK K) | refine block_normal ?_ | refine block_ret ?_ | refine block_exit ?_ | refine loop_exit ?_ | refine loop_ret ?_)
              | ((with_reducible refine x_reg_lit ?hq ?_); case hq => rfl)
              | ((first | (with_reducible first | refine x_op (fun K hK => ?_) | refine end_ret ?_ | refine end_normal ?_) | ((with_reducible refine x_guard_yes ?hy (fun K hK => ?_)); case hy => rfl)); simp only [go_sem, Nat.reduceEqDiff, Nat.reduceAdd, Nat.reduceMul, Nat.reduceLeDiff, Nat.reduceLT, Int.reduceLT, Int.reduceLE, Int.reduceEq, Int.reduceNeg, Int.reduceToNat, Nat.reducePow, reduceIte, reduceCtorEq, i10, i8, i9, e1', e6', e0'])
              | ((with_reducible first | refine x_guard_no ?hy ?_ | refine x_cond_true ?hy ?_); case hy => rfl)
              | ((with_reducible first | refine x_guard_none ?hy ?_ | refine x_cond_false ?hy ?_); case hy => rfl)
              | ((with_reducible refine block_exit_ne ?hy ?_); case hy => decide))
            refine ArTwo.len_ok hM2.ar ?_
            repeat' (first
              | (with_reducible first | refine seq_normal ?_ | (refine hK _ _ ?_; clear hK K) | refine x_seq (fun K hK => ?_) | refine x_nil ?_ | refine x_block ?_ | refine x_skip ?_ | refine x_exit ?_ | refine x_ret ?_ | refine x_label ?_ | refine x_scope ?_ | (refine seq_ret ?_; clear hK K) | (refine seq_exit ?_; clear hK K) | refine block_normal ?_ | refine block_ret ?_ | refine block_exit ?_ | refine loop_exit ?_ | refine loop_ret ?_)
              | ((with_reducible refine x_reg_lit ?hq ?_); case hq => rfl)
              | ((first | (with_reducible first | refine x_op (fun K hK => ?_) | refine end_ret ?_ | refine end_normal ?_) | ((with_reducible refine x_guard_yes ?hy (fun K hK => ?_)); case hy => rfl)); simp only [go_sem, Nat.reduceEqDiff, Nat.reduceAdd, Nat.reduceMul, Nat.reduceLeDiff, Nat.reduceLT, Int.reduceLT, Int.reduceLE, Int.reduceEq, Int.reduceNeg, Int.reduceToNat, Nat.reducePow, reduceIte, reduceCtorEq, i10, i8, i9, e1', e6', e0', t3, t4])
              | ((with_reducible first | refine x_guard_no ?hy ?_ | refine x_cond_true ?hy ?_); case hy => rfl)
              | ((with_reducible first | refine x_guard_none ?hy ?_ | refine x_cond_false ?hy ?_); case hy => rfl)
              | ((with_reducible refine block_exit_ne ?hy ?_); case hy => decide))
            refine append_ir elems22 tl3 hM2.i1 rfl (by decide) (by simp only []; omega) rfl ?_
            intro v1' H3 B1' hi1 hf3 hB1
            have hM3 := hM2.row1 hi1 hf3 hB1
            repeat' (first
              | (with_reducible first | refine seq_normal ?_ | (refine hK _ _ ?_; clear hK K) | refine x_seq (fun K hK => ?_) | refine x_nil ?_ | refine x_block ?_ | refine x_skip ?_ | refine x_exit ?_ | refine x_ret ?_ | refine x_label ?_ | refine x_scope ?_ | (refine seq_ret ?_; clear hK K) | (refine seq_exit ?_; clear hK K) | refine block_normal ?_ | refine block_ret ?_ | refine block_exit ?_ | refine loop_exit ?_ | refine loop_ret ?_)
              | ((with_reducible refine x_reg_lit ?hq ?_); case hq => rfl)
              | ((first | (with_reducible first | refine x_op (fun K hK => ?_) | refine end_ret ?_ | refine end_normal ?_) | ((with_reducible refine x_guard_yes ?hy (fun K hK => ?_)); case hy => rfl)); simp only [go_sem, Nat.reduceEqDiff, Nat.reduceAdd, Nat.reduceMul, Nat.reduceLeDiff, Nat.reduceLT, Int.reduceLT, Int.reduceLE, Int.reduceEq, Int.reduceNeg, Int.reduceToNat, Nat.reducePow, reduceIte, reduceCtorEq, i10, i8, i9, e1', e6', e0'])
              | ((with_reducible first | refine x_guard_no ?hy ?_ | refine x_cond_true ?hy ?_); case hy => rfl)
              | ((with_reducible first | refine x_guard_none ?hy ?_ | refine x_cond_false ?hy ?_); case hy => rfl)
              | ((with_reducible refine block_exit_ne ?hy ?_); case hy => decide))
            refine append_ir elems22 tl3 hM3.i2 rfl (by decide) (by simp only []; omega) rfl ?_
            intro v2' H4 B2' hi2 hf4 hB2
            have hM4 := hM3.row2 hi2 hf4 hB2
            repeat' (first
              | (with_reducible first | refine seq_normal ?_ | (refine hK _ _ ?_; clear hK K) | refine x_seq (fun K hK => ?_) | refine x_nil ?_ | refine x_block ?_ | refine x_skip ?_ | refine x_exit ?_ | refine x_ret ?_ | refine x_label ?_ | refine x_scope ?_ | (refine seq_ret ?_; clear hK K) | (refine seq_exit ?_; clear hK K) | refine block_normal ?_ | refine block_ret ?_ | refine block_exit ?_ | refine loop_exit ?_ | refine loop_ret ?_)
              | ((with_reducible refine x_reg_lit ?hq ?_); case hq => rfl)
              | ((first | (with_reducible first | refine x_op (fun K hK => ?_) | refine end_ret ?_ | refine end_normal ?_) | ((with_reducible refine x_guard_yes ?hy (fun K hK => ?_)); case hy => rfl)); simp only [go_sem, Nat.reduceEqDiff, Nat.reduceAdd, Nat.reduceMul, Nat.reduceLeDiff, Nat.reduceLT, Int.reduceLT, Int.reduceLE, Int.reduceEq, Int.reduceNeg, Int.reduceToNat, Nat.reducePow, reduceIte, reduceCtorEq, i10, i8, i9, e1', e6', e0', ew])
              | ((with_reducible first | refine x_guard_no ?hy ?_ | refine x_cond_true ?hy ?_); case hy => rfl)
              | ((with_reducible first | refine x_guard_none ?hy ?_ | refine x_cond_false ?hy ?_); case hy => rfl)
              | ((with_reducible refine block_exit_ne ?hy ?_); case hy => decide))
            exact loop_normal (m' := 400 - (i + 1)) (by omega) ⟨i + 1, g2, A2, B1', B2', v1', v2', _, _, by rfl, by rfl, by rfl, by omega, by omega, rfl, hM4, kp2⟩
        · have hfull : A.many = A.room := Nat.le_antisymm hM.ar.ok.most hm
          have t3 : (R < A.many) = False := by have := hM.room; simp; omega
          have t4 : ((A.many : Int) != (R : Int)) = false := by have := hM.room; simp; omega
          have done : ∀ (e' : Env) H2, e' 8 = v1 → e' 9 = v2 → e' 10 = .int .i64 ((i + 1 : Nat) : Int) → Fr (fun _ => False) H1 H2 → KI H0 p R len zs (400 - (i + 1)) e' H2 :=
            fun e' H2 a1 a2 a3 hf => ⟨i + 1, g1, A, B1, B2, v1, v2, hs, ws, a1, a2, a3, by omega, by omega, rfl, hM.grow hf, kp.mono (by omega)⟩
          by_cases hz0 : 0 ≤ zs i
          · have t5 : (0 ≤ zs i) = True := by simp [hz0]
            repeat' (first
              | (with_reducible first | refine seq_normal ?_ | (refine hK _ _ ?_; clear hK K) | refine x_seq (fun K hK => ?_) | refine x_nil ?_ | refine x_block ?_ | refine x_skip ?_ | refine x_exit ?_ | refine x_ret ?_ | refine x_label ?_ | refine x_scope ?_ | (refine seq_ret ?_; clear hK K) | (refine seq_exit ?_; clear hK K) | refine block_normal ?_ | refine block_ret ?_ | refine block_exit ?_ | refine loop_exit ?_ | refine loop_ret ?_)
              | ((with_reducible refine x_reg_lit ?hq ?_); case hq => rfl)
              | ((first | (with_reducible first | refine x_op (fun K hK => ?_) | refine end_ret ?_ | refine end_normal ?_) | ((with_reducible refine x_guard_yes ?hy (fun K hK => ?_)); case hy => rfl)); simp only [go_sem, Nat.reduceEqDiff, Nat.reduceAdd, Nat.reduceMul, Nat.reduceLeDiff, Nat.reduceLT, Int.reduceLT, Int.reduceLE, Int.reduceEq, Int.reduceNeg, Int.reduceToNat, Nat.reducePow, reduceIte, reduceCtorEq, i10, i8, i9, e1', e6', e0', t2, hi, hq, t5])
              | ((with_reducible first | refine x_guard_no ?hy ?_ | refine x_cond_true ?hy ?_); case hy => rfl)
              | ((with_reducible first | refine x_guard_none ?hy ?_ | refine x_cond_false ?hy ?_); case hy => rfl)
              | ((with_reducible refine block_exit_ne ?hy ?_); case hy => decide))
            refine ArTwo.put_full hM.ar hfull ?_
            intro H2 hf2
            repeat' (first
              | (with_reducible first | refine seq_normal ?_ | (refine hK _ _ ?_; clear hK K) | refine x_seq (fun K hK => ?_) | refine x_nil ?_ | refine x_block ?_ | refine x_skip ?_ | refine x_exit ?_ | refine x_ret ?_ | refine x_label ?_ | refine x_scope ?_ | (refine seq_ret ?_; clear hK K) | (refine seq_exit ?_; clear hK K) | refine block_normal ?_ | refine block_ret ?_ | refine block_exit ?_ | refine loop_exit ?_ | refine loop_ret ?_)
              | ((with_reducible refine x_reg_lit ?hq ?_); case hq => rfl)
              | ((first | (with_reducible first | refine x_op (fun K hK => ?_) | refine end_ret ?_ | refine end_normal ?_) | ((with_reducible refine x_guard_yes ?hy (fun K hK => ?_)); case hy => rfl)); simp only [go_sem, Nat.reduceEqDiff, Nat.reduceAdd, Nat.reduceMul, Nat.reduceLeDiff, Nat.reduceLT, Int.reduceLT, Int.reduceLE, Int.reduceEq, Int.reduceNeg, Int.reduceToNat, Nat.reducePow, reduceIte, reduceCtorEq, i10, i8, i9, e1', e6', e0'])
              | ((with_reducible first | refine x_guard_no ?hy ?_ | refine x_cond_true ?hy ?_); case hy => rfl)
              | ((with_reducible first | refine x_guard_none ?hy ?_ | refine x_cond_false ?hy ?_); case hy => rfl)
              | ((with_reducible refine block_exit_ne ?hy ?_); case hy => decide))
            refine ArTwo.len_ok (hM.grow hf2).ar ?_
            repeat' (first
              | (with_reducible first | refine seq_normal ?_ | (refine hK _ _ ?_; clear hK K) | refine x_seq (fun K hK => ?_) | refine x_nil ?_ | refine x_block ?_ | refine x_skip ?_ | refine x_exit ?_ | refine x_ret ?_ | refine x_label ?_ | refine x_scope ?_ | (refine seq_ret ?_; clear hK K) | (refine seq_exit ?_; clear hK K) | refine block_normal ?_ | refine block_ret ?_ | refine block_exit ?_ | refine loop_exit ?_ | refine loop_ret ?_)
              | ((with_reducible refine x_reg_lit ?hq ?_); case hq => rfl)
              | ((first | (with_reducible first | refine x_op (fun K hK => ?_) | refine end_ret ?_ | refine end_normal ?_) | ((with_reducible refine x_guard_yes ?hy (fun K hK => ?_)); case hy => rfl)); simp only [go_sem, Nat.reduceEqDiff, Nat.reduceAdd, Nat.reduceMul, Nat.reduceLeDiff, Nat.reduceLT, Int.reduceLT, Int.reduceLE, Int.reduceEq, Int.reduceNeg, Int.reduceToNat, Nat.reducePow, reduceIte, reduceCtorEq, i10, i8, i9, e1', e6', e0', t3])
              | ((with_reducible first | refine x_guard_no ?hy ?_ | refine x_cond_true ?hy ?_); case hy => rfl)
              | ((with_reducible first | refine x_guard_none ?hy ?_ | refine x_cond_false ?hy ?_); case hy => rfl)
              | ((with_reducible refine block_exit_ne ?hy ?_); case hy => decide))
            refine ArTwo.len_ok (hM.grow hf2).ar ?_
            repeat' (first
              | (with_reducible first | refine seq_normal ?_ | (refine hK _ _ ?_; clear hK K) | refine x_seq (fun K hK => ?_) | refine x_nil ?_ | refine x_block ?_ | refine x_skip ?_ | refine x_exit ?_ | refine x_ret ?_ | refine x_label ?_ | refine x_scope ?_ | (refine seq_ret ?_; clear hK K) | (refine seq_exit ?_; clear hK K) | refine block_normal ?_ | refine block_ret ?_ | refine block_exit ?_ | refine loop_exit ?_ | refine loop_ret ?_)
              | ((with_reducible refine x_reg_lit ?hq ?_); case hq => rfl)
              | ((first | (with_reducible first | refine x_op (fun K hK => ?_) | refine end_ret ?_ | refine end_normal ?_) | ((with_reducible refine x_guard_yes ?hy (fun K hK => ?_)); case hy => rfl)); simp only [go_sem, Nat.reduceEqDiff, Nat.reduceAdd, Nat.reduceMul, Nat.reduceLeDiff, Nat.reduceLT, Int.reduceLT, Int.reduceLE, Int.reduceEq, Int.reduceNeg, Int.reduceToNat, Nat.reducePow, reduceIte, reduceCtorEq, i10, i8, i9, e1', e6', e0', t3, t4, ew])
              | ((with_reducible first | refine x_guard_no ?hy ?_ | refine x_cond_true ?hy ?_); case hy => rfl)
              | ((with_reducible first | refine x_guard_none ?hy ?_ | refine x_cond_false ?hy ?_); case hy => rfl)
              | ((with_reducible refine block_exit_ne ?hy ?_); case hy => decide))
            exact loop_normal (m' := 400 - (i + 1)) (by omega) (done _ _ (by exact i8) (by exact i9) (by rfl) hf2)
          · have t5 : (0 ≤ zs i) = False := by simp; omega
            have hs0 : hs = [] := hz.resolve_left hz0
            have s1' : v1 = .slice a1 0 c1 := by rw [s1, hs0]; rfl
            repeat' (first
              | (with_reducible first | refine seq_normal ?_ | (refine hK _ _ ?_; clear hK K) | refine x_seq (fun K hK => ?_) | refine x_nil ?_ | refine x_block ?_ | refine x_skip ?_ | refine x_exit ?_ | refine x_ret ?_ | refine x_label ?_ | refine x_scope ?_ | (refine seq_ret ?_; clear hK K) | (refine seq_exit ?_; clear hK K) | refine block_normal ?_ | refine block_ret ?_ | refine block_exit ?_ | refine loop_exit ?_ | refine loop_ret ?_)
              | ((with_reducible refine x_reg_lit ?hq ?_); case hq => rfl)
              | ((first | (with_reducible first | refine x_op (fun K hK => ?_) | refine end_ret ?_ | refine end_normal ?_) | ((with_reducible refine x_guard_yes ?hy (fun K hK => ?_)); case hy => rfl)); simp only [go_sem, Nat.reduceEqDiff, Nat.reduceAdd, Nat.reduceMul, Nat.reduceLeDiff, Nat.reduceLT, Int.reduceLT, Int.reduceLE, Int.reduceEq, Int.reduceNeg, Int.reduceToNat, Nat.reducePow, reduceIte, reduceCtorEq, i10, i8, s1', i9, e1', e6', e0', t2, hi, hq, t5])
              | ((with_reducible first | refine x_guard_no ?hy ?_ | refine x_cond_true ?hy ?_); case hy => rfl)
              | ((with_reducible first | refine x_guard_none ?hy ?_ | refine x_cond_false ?hy ?_); case hy => rfl)
              | ((with_reducible refine block_exit_ne ?hy ?_); case hy => decide))
            refine ArTwo.put_full hM.ar hfull ?_
            intro H2 hf2
            repeat' (first
              | (with_reducible first | refine seq_normal ?_ | (refine hK _ _ ?_; clear hK K) | refine x_seq (fun K hK => ?_) | refine x_nil ?_ | refine x_block ?_ | refine x_skip ?_ | refine x_exit ?_ | refine x_ret ?_ | refine x_label ?_ | refine x_scope ?_ | (refine seq_ret ?_; clear hK K) | (refine seq_exit ?_; clear hK K) | refine block_normal ?_ | refine block_ret ?_ | refine block_exit ?_ | refine loop_exit ?_ | refine loop_ret ?_)
              | ((with_reducible refine x_reg_lit ?hq ?_); case hq => rfl)
              | ((first | (with_reducible first | refine x_op (fun K hK => ?_) | refine end_ret ?_ | refine end_normal ?_) | ((with_reducible refine x_guard_yes ?hy (fun K hK => ?_)); case hy => rfl)); simp only [go_sem, Nat.reduceEqDiff, Nat.reduceAdd, Nat.reduceMul, Nat.reduceLeDiff, Nat.reduceLT, Int.reduceLT, Int.reduceLE, Int.reduceEq, Int.reduceNeg, Int.reduceToNat, Nat.reducePow, reduceIte, reduceCtorEq, i10, i8, i9, e1', e6', e0'])
              | ((with_reducible first | refine x_guard_no ?hy ?_ | refine x_cond_true ?hy ?_); case hy => rfl)
              | ((with_reducible first | refine x_guard_none ?hy ?_ | refine x_cond_false ?hy ?_); case hy => rfl)
              | ((with_reducible refine block_exit_ne ?hy ?_); case hy => decide))
            refine ArTwo.len_ok (hM.grow hf2).ar ?_
            repeat' (first
              | (with_reducible first | refine seq_normal ?_ | (refine hK _ _ ?_; clear hK K) | refine x_seq (fun K hK => ?_) | refine x_nil ?_ | refine x_block ?_ | refine x_skip ?_ | refine x_exit ?_ | refine x_ret ?_ | refine x_label ?_ | refine x_scope ?_ | (refine seq_ret ?_; clear hK K) | (refine seq_exit ?_; clear hK K) | refine block_normal ?_ | refine block_ret ?_ | refine block_exit ?_ | refine loop_exit ?_ | refine loop_ret ?_)
              | ((with_reducible refine x_reg_lit ?hq ?_); case hq => rfl)
              | ((first | (with_reducible first | refine x_op (fun K hK => ?_) | refine end_ret ?_ | refine end_normal ?_) | ((with_reducible refine x_guard_yes ?hy (fun K hK => ?_)); case hy => rfl)); simp only [go_sem, Nat.reduceEqDiff, Nat.reduceAdd, Nat.reduceMul, Nat.reduceLeDiff, Nat.reduceLT, Int.reduceLT, Int.reduceLE, Int.reduceEq, Int.reduceNeg, Int.reduceToNat, Nat.reducePow, reduceIte, reduceCtorEq, i10, i8, i9, e1', e6', e0', t3])
              | ((with_reducible first | refine x_guard_no ?hy ?_ | refine x_cond_true ?hy ?_); case hy => rfl)
              | ((with_reducible first | refine x_guard_none ?hy ?_ | refine x_cond_false ?hy ?_); case hy => rfl)
              | ((with_reducible refine block_exit_ne ?hy ?_); case hy => decide))
            refine ArTwo.len_ok (hM.grow hf2).ar ?_
            repeat' (first
              | (with_reducible first | refine seq_normal ?_ | (refine hK _ _ ?_; clear hK K) | refine x_seq (fun K hK => ?_) | refine x_nil ?_ | refine x_block ?_ | refine x_skip ?_ | refine x_exit ?_ | refine x_ret ?_ | refine x_label ?_ | refine x_scope ?_ | (refine seq_ret ?_; clear hK K) | (refine seq_exit ?_; clear hK K) | refine block_normal ?_ | refine block_ret ?_ | refine block_exit ?_ | refine loop_exit ?_ | refine loop_ret ?_)
              | ((with_reducible refine x_reg_lit ?hq ?_); case hq => rfl)
              | ((first | (with_reducible first | refine x_op (fun K hK => ?_) | refine end_ret ?_ | refine end_normal ?_) | ((with_reducible refine x_guard_yes ?hy (fun K hK => ?_)); case hy => rfl)); simp only [go_sem, Nat.reduceEqDiff, Nat.reduceAdd, Nat.reduceMul, Nat.reduceLeDiff, Nat.reduceLT, Int.reduceLT, Int.reduceLE, Int.reduceEq, Int.reduceNeg, Int.reduceToNat, Nat.reducePow, reduceIte, reduceCtorEq, i10, i8, i9, e1', e6', e0', t3, t4, ew])
              | ((with_reducible first | refine x_guard_no ?hy ?_ | refine x_cond_true ?hy ?_); case hy => rfl)
              | ((with_reducible first | refine x_guard_none ?hy ?_ | refine x_cond_false ?hy ?_); case hy => rfl)
              | ((with_reducible refine block_exit_ne ?hy ?_); case hy => decide))
            exact loop_normal (m' := 400 - (i + 1)) (by omega) (done _ _ (by exact i8) (by exact i9) (by rfl) hf2)
      · have hz0 : zs i < 0 := by omega
        have hne : hs ≠ [] := fun e => hz (.inr e)
        have hlen0 : 0 < hs.length := List.length_pos_iff.2 hne
        have t5 : (0 ≤ zs i) = False := by simp; omega
        have t6 : ((hs.length : Int) == 0) = false := by simp [hne]
        obtain ⟨r0, r1⟩ := pickN_range (zs i) (n := (hs.length : Int)) (by omega)
        obtain ⟨k, ek⟩ := Int.eq_ofNat_of_zero_le r0
        have hkl : k < hs.length := by omega
        obtain ⟨x, hx⟩ : ∃ x, hs[k]? = some x := ⟨_, List.getElem?_eq_getElem hkl⟩
        obtain ⟨w, hw⟩ : ∃ w, ws[k]? = some w := ⟨_, List.getElem?_eq_getElem (by omega)⟩
        obtain ⟨b1, d1, hB1, hv1, rx⟩ := hM.i1.read hx
        obtain ⟨b2, d2, hB2, hv2, rw_⟩ := hM.i2.read hw
        have hx1 := kp.hand k x hx
        obtain ⟨h, rfl⟩ := Int.eq_ofNat_of_zero_le (show 0 ≤ x by omega)
        have t7 : (k < ws.length) = True := by simp; omega
        repeat' (first
          | (with_reducible first | refine seq_normal ?_ | (refine hK _ _ ?_; clear hK K) | refine x_seq (fun K hK => ?_) | refine x_nil ?_ | refine x_block ?_ | refine x_skip ?_ | refine x_exit ?_ | refine x_ret ?_ | refine x_label ?_ | refine x_scope ?_ | (refine seq_ret ?_; clear hK K) | (refine seq_exit ?_; clear hK K) | refine block_normal ?_ | refine block_ret ?_ | refine block_exit ?_ | refine loop_exit ?_ | refine loop_ret ?_)
          | ((with_reducible refine x_reg_lit ?hq ?_); case hq => rfl)
          | ((first | (with_reducible first | refine x_op (fun K hK => ?_) | refine end_ret ?_ | refine end_normal ?_) | ((with_reducible refine x_guard_yes ?hy (fun K hK => ?_)); case hy => rfl)); simp only [go_sem, Nat.reduceEqDiff, Nat.reduceAdd, Nat.reduceMul, Nat.reduceLeDiff, Nat.reduceLT, Int.reduceLT, Int.reduceLE, Int.reduceEq, Int.reduceNeg, Int.reduceToNat, Nat.reducePow, reduceIte, reduceCtorEq, i10, i8, i9, hv1, e1', e6', e0', t2, hi, hq, t5, t6])
          | ((with_reducible first | refine x_guard_no ?hy ?_ | refine x_cond_true ?hy ?_); case hy => rfl)
          | ((with_reducible first | refine x_guard_none ?hy ?_ | refine x_cond_false ?hy ?_); case hy => rfl)
          | ((with_reducible refine block_exit_ne ?hy ?_); case hy => decide))
        refine pick_ok hq1 hq2 (by omega) ?_
        rw [ek]
        repeat' (first
          | (with_reducible first | refine seq_normal ?_ | (refine hK _ _ ?_; clear hK K) | refine x_seq (fun K hK => ?_) | refine x_nil ?_ | refine x_block ?_ | refine x_skip ?_ | refine x_exit ?_ | refine x_ret ?_ | refine x_label ?_ | refine x_scope ?_ | (refine seq_ret ?_; clear hK K) | (refine seq_exit ?_; clear hK K) | refine block_normal ?_ | refine block_ret ?_ | refine block_exit ?_ | refine loop_exit ?_ | refine loop_ret ?_)
          | ((with_reducible refine x_reg_lit ?hq ?_); case hq => rfl)
          | ((first | (with_reducible first | refine x_op (fun K hK => ?_) | refine end_ret ?_ | refine end_normal ?_) | ((with_reducible refine x_guard_yes ?hy (fun K hK => ?_)); case hy => rfl)); simp only [go_sem, Nat.reduceEqDiff, Nat.reduceAdd, Nat.reduceMul, Nat.reduceLeDiff, Nat.reduceLT, Int.reduceLT, Int.reduceLE, Int.reduceEq, Int.reduceNeg, Int.reduceToNat, Nat.reducePow, reduceIte, reduceCtorEq, i10, i8, i9, hv1, e1', e6', e0', hkl, rx])
          | ((with_reducible first | refine x_guard_no ?hy ?_ | refine x_cond_true ?hy ?_); case hy => rfl)
          | ((with_reducible first | refine x_guard_none ?hy ?_ | refine x_cond_false ?hy ?_); case hy => rfl)
          | ((with_reducible refine block_exit_ne ?hy ?_); case hy => decide))
        cases hg : A.get h with
        | none =>
          have hw0 : ¬ 0 ≤ w := fun h0 => by
            have := (kp.live k _ w hx hw h0).2
            rw [Int.toNat_natCast, hg] at this
            cases this
          have t8 : (0 ≤ w) = False := by simp; omega
          refine ArTwo.drop_none hM.ar (.inr hg) ?_
          repeat' (first
            | (with_reducible first | refine seq_normal ?_ | (refine hK _ _ ?_; clear hK K) | refine x_seq (fun K hK => ?_) | refine x_nil ?_ | refine x_block ?_ | refine x_skip ?_ | refine x_exit ?_ | refine x_ret ?_ | refine x_label ?_ | refine x_scope ?_ | (refine seq_ret ?_; clear hK K) | (refine seq_exit ?_; clear hK K) | refine block_normal ?_ | refine block_ret ?_ | refine block_exit ?_ | refine loop_exit ?_ | refine loop_ret ?_)
            | ((with_reducible refine x_reg_lit ?hq ?_); case hq => rfl)
            | ((first | (with_reducible first | refine x_op (fun K hK => ?_) | refine end_ret ?_ | refine end_normal ?_) | ((with_reducible refine x_guard_yes ?hy (fun K hK => ?_)); case hy => rfl)); simp only [go_sem, Nat.reduceEqDiff, Nat.reduceAdd, Nat.reduceMul, Nat.reduceLeDiff, Nat.reduceLT, Int.reduceLT, Int.reduceLE, Int.reduceEq, Int.reduceNeg, Int.reduceToNat, Nat.reducePow, reduceIte, reduceCtorEq, i10, i8, i9, hv1, hv2, t7, rw_, t8, ew])
            | ((with_reducible first | refine x_guard_no ?hy ?_ | refine x_cond_true ?hy ?_); case hy => rfl)
            | ((with_reducible first | refine x_guard_none ?hy ?_ | refine x_cond_false ?hy ?_); case hy => rfl)
            | ((with_reducible refine block_exit_ne ?hy ?_); case hy => decide))
          exact loop_normal (m' := 400 - (i + 1)) (by omega) ⟨i + 1, g1, A, B1, B2, v1, v2, _, _, by exact i8, by exact i9, by rfl, by omega, by omega, rfl, hM, kp.mono (by omega)⟩
        | some u =>
          refine ArTwo.drop_some hM.ar hg ?_
          intro H2 hA2 hf2
          have hM2 := hM.arena hA2 (by exact hM.room) hf2 (.inl rfl)
          have r2 := hM2.i2
          have hd12 : ∀ b, B1 = some b → B2 ≠ some b := fun b hb => (hM.d1 b hb).2.2.2
          rw [hB2, hv2] at r2
          have rw2 := r2.cell hw
          have r1 := hM2.i1
          rw [hB1, hv1] at r1
          have rx2 := r1.cell hx
          have fin : ∀ (e' : Env) H4 ws', e' 8 = v1 → e' 9 = v2 → e' 10 = .int .i64 ((i + 1 : Nat) : Int) → IR H4 B2 v2 ws' → ws'.length = ws.length →
              (∀ (k : Nat) (a w : Int), hs[k]? = some a → ws[k]? = some w → ws'[k]? = some (if a = (h : Int) then -1 else w)) → Fr (fun b => B2 = some b) H2 H4 → KI H0 p R len zs (400 - (i + 1)) e' H4 :=
            fun e' H4 ws' q8 q9 q10 hi4' hl4 hw4 hf4 => ⟨i + 1, g1, _, B1, B2, v1, v2, hs, ws', q8, q9, q10, by omega, by omega, rfl, hM2.row2 hi4' hf4 (.inl rfl), (kp.drop hl4 hw4 (Ar.get_drop hg)).mono (by omega)⟩
          by_cases hw0 : 0 ≤ w
          · have t8 : (0 ≤ w) = True := by simp [hw0]
            repeat' (first
              | (with_reducible first | refine seq_normal ?_ | (refine hK _ _ ?_; clear hK K) | refine x_seq (fun K hK => ?_) | refine x_nil ?_ | refine x_block ?_ | refine x_skip ?_ | refine x_exit ?_ | refine x_ret ?_ | refine x_label ?_ | refine x_scope ?_ | (refine seq_ret ?_; clear hK K) | (refine seq_exit ?_; clear hK K) | refine block_normal ?_ | refine block_ret ?_ | refine block_exit ?_ | refine loop_exit ?_ | refine loop_ret ?_)
              | ((with_reducible refine x_reg_lit ?hq ?_); case hq => rfl)
              | ((first | (with_reducible first | refine x_op (fun K hK => ?_) | refine end_ret ?_ | refine end_normal ?_) | ((with_reducible refine x_guard_yes ?hy (fun K hK => ?_)); case hy => rfl)); simp only [go_sem, Nat.reduceEqDiff, Nat.reduceAdd, Nat.reduceMul, Nat.reduceLeDiff, Nat.reduceLT, Int.reduceLT, Int.reduceLE, Int.reduceEq, Int.reduceNeg, Int.reduceToNat, Nat.reducePow, reduceIte, reduceCtorEq, i10, i8, i9, hv1, hv2, t7, rw2, t8, hkl, rx2])
              | ((with_reducible first | refine x_guard_no ?hy ?_ | refine x_cond_true ?hy ?_); case hy => rfl)
              | ((with_reducible first | refine x_guard_none ?hy ?_ | refine x_cond_false ?hy ?_); case hy => rfl)
              | ((with_reducible refine block_exit_ne ?hy ?_); case hy => decide))
            rw [← hv1, ← hv2]
            refine gone_ok hM2.i1 hM2.i2 (by omega) hll hd12 ?_
            intro H4 ws' q1 q2 q3 q4
            repeat' (first
              | (with_reducible first | refine seq_normal ?_ | (refine hK _ _ ?_; clear hK K) | refine x_seq (fun K hK => ?_) | refine x_nil ?_ | refine x_block ?_ | refine x_skip ?_ | refine x_exit ?_ | refine x_ret ?_ | refine x_label ?_ | refine x_scope ?_ | (refine seq_ret ?_; clear hK K) | (refine seq_exit ?_; clear hK K) | refine block_normal ?_ | refine block_ret ?_ | refine block_exit ?_ | refine loop_exit ?_ | refine loop_ret ?_)
              | ((with_reducible refine x_reg_lit ?hq ?_); case hq => rfl)
              | ((first | (with_reducible first | refine x_op (fun K hK => ?_) | refine end_ret ?_ | refine end_normal ?_) | ((with_reducible refine x_guard_yes ?hy (fun K hK => ?_)); case hy => rfl)); simp only [go_sem, Nat.reduceEqDiff, Nat.reduceAdd, Nat.reduceMul, Nat.reduceLeDiff, Nat.reduceLT, Int.reduceLT, Int.reduceLE, Int.reduceEq, Int.reduceNeg, Int.reduceToNat, Nat.reducePow, reduceIte, reduceCtorEq, i10, ew])
              | ((with_reducible first | refine x_guard_no ?hy ?_ | refine x_cond_true ?hy ?_); case hy => rfl)
              | ((with_reducible first | refine x_guard_none ?hy ?_ | refine x_cond_false ?hy ?_); case hy => rfl)
              | ((with_reducible refine block_exit_ne ?hy ?_); case hy => decide))
            exact loop_normal (m' := 400 - (i + 1)) (by omega) (fin _ _ ws' (by exact i8) (by exact i9) (by rfl) q1 q2 q3 q4)
          · have t8 : (0 ≤ w) = False := by simp; omega
            obtain ⟨j, w', hj, hwj, h0j⟩ := kp.all h u hg
            have hkj : k < j := by
              have := kp.last j k _ w' hj hwj h0j hx
              rcases Nat.lt_or_ge k j with h | h
              · exact h
              · obtain rfl : j = k := by omega
                rw [hw] at hwj
                cases hwj
                exact absurd h0j hw0
            repeat' (first
              | (with_reducible first | refine seq_normal ?_ | (refine hK _ _ ?_; clear hK K) | refine x_seq (fun K hK => ?_) | refine x_nil ?_ | refine x_block ?_ | refine x_skip ?_ | refine x_exit ?_ | refine x_ret ?_ | refine x_label ?_ | refine x_scope ?_ | (refine seq_ret ?_; clear hK K) | (refine seq_exit ?_; clear hK K) | refine block_normal ?_ | refine block_ret ?_ | refine block_exit ?_ | refine loop_exit ?_ | refine loop_ret ?_)
              | ((with_reducible refine x_reg_lit ?hq ?_); case hq => rfl)
              | ((first | (with_reducible first | refine x_op (fun K hK => ?_) | refine end_ret ?_ | refine end_normal ?_) | ((with_reducible refine x_guard_yes ?hy (fun K hK => ?_)); case hy => rfl)); simp only [go_sem, Nat.reduceEqDiff, Nat.reduceAdd, Nat.reduceMul, Nat.reduceLeDiff, Nat.reduceLT, Int.reduceLT, Int.reduceLE, Int.reduceEq, Int.reduceNeg, Int.reduceToNat, Nat.reducePow, reduceIte, reduceCtorEq, i10, i8, i9, hv1, hv2, t7, rw2, t8, hkl, rx2])
              | ((with_reducible first | refine x_guard_no ?hy ?_ | refine x_cond_true ?hy ?_); case hy => rfl)
              | ((with_reducible first | refine x_guard_none ?hy ?_ | refine x_cond_false ?hy ?_); case hy => rfl)
              | ((with_reducible refine block_exit_ne ?hy ?_); case hy => decide))
            rw [← hv1, ← hv2]
            refine again_ok hM2.i1 hM2.i2 (by omega) hx hj hwj h0j hkj hll ?_
            repeat' (first
              | (with_reducible first | refine seq_normal ?_ | (refine hK _ _ ?_; clear hK K) | refine x_seq (fun K hK => ?_) | refine x_nil ?_ | refine x_block ?_ | refine x_skip ?_ | refine x_exit ?_ | refine x_ret ?_ | refine x_label ?_ | refine x_scope ?_ | (refine seq_ret ?_; clear hK K) | (refine seq_exit ?_; clear hK K) | refine block_normal ?_ | refine block_ret ?_ | refine block_exit ?_ | refine loop_exit ?_ | refine loop_ret ?_)
              | ((with_reducible refine x_reg_lit ?hq ?_); case hq => rfl)
              | ((first | (with_reducible first | refine x_op (fun K hK => ?_) | refine end_ret ?_ | refine end_normal ?_) | ((with_reducible refine x_guard_yes ?hy (fun K hK => ?_)); case hy => rfl)); simp only [go_sem, Nat.reduceEqDiff, Nat.reduceAdd, Nat.reduceMul, Nat.reduceLeDiff, Nat.reduceLT, Int.reduceLT, Int.reduceLE, Int.reduceEq, Int.reduceNeg, Int.reduceToNat, Nat.reducePow, reduceIte, reduceCtorEq, i10, i8, i9, hv1, hv2, hkl, rx2])
              | ((with_reducible first | refine x_guard_no ?hy ?_ | refine x_cond_true ?hy ?_); case hy => rfl)
              | ((with_reducible first | refine x_guard_none ?hy ?_ | refine x_cond_false ?hy ?_); case hy => rfl)
              | ((with_reducible refine block_exit_ne ?hy ?_); case hy => decide))
            rw [← hv1, ← hv2]
            refine gone_ok hM2.i1 hM2.i2 (by omega) hll hd12 ?_
            intro H4 ws' q1 q2 q3 q4
            repeat' (first
              | (with_reducible first | refine seq_normal ?_ | (refine hK _ _ ?_; clear hK K) | refine x_seq (fun K hK => ?_) | refine x_nil ?_ | refine x_block ?_ | refine x_skip ?_ | refine x_exit ?_ | refine x_ret ?_ | refine x_label ?_ | refine x_scope ?_ | (refine seq_ret ?_; clear hK K) | (refine seq_exit ?_; clear hK K) | refine block_normal ?_ | refine block_ret ?_ | refine block_exit ?_ | refine loop_exit ?_ | refine loop_ret ?_)
              | ((with_reducible refine x_reg_lit ?hq ?_); case hq => rfl)
              | ((first | (with_reducible first | refine x_op (fun K hK => ?_) | refine end_ret ?_ | refine end_normal ?_) | ((with_reducible refine x_guard_yes ?hy (fun K hK => ?_)); case hy => rfl)); simp only [go_sem, Nat.reduceEqDiff, Nat.reduceAdd, Nat.reduceMul, Nat.reduceLeDiff, Nat.reduceLT, Int.reduceLT, Int.reduceLE, Int.reduceEq, Int.reduceNeg, Int.reduceToNat, Nat.reducePow, reduceIte, reduceCtorEq, i10, ew])
              | ((with_reducible first | refine x_guard_no ?hy ?_ | refine x_cond_true ?hy ?_); case hy => rfl)
              | ((with_reducible first | refine x_guard_none ?hy ?_ | refine x_cond_false ?hy ?_); case hy => rfl)
              | ((with_reducible refine block_exit_ne ?hy ?_); case hy => decide))
            exact loop_normal (m' := 400 - (i + 1)) (by omega) (fin _ _ ws' (by exact i8) (by exact i9) (by rfl) q1 q2 q3 q4)
    · have t2 : ((i : Int) < 400) = False := by simp; omega
      repeat' (first
        | (with_reducible first | refine seq_normal ?_ | (refine hK _ _ ?_; clear hK K) | refine x_seq (fun K hK => ?_) | refine x_nil ?_ | refine x_block ?_ | refine x_skip ?_ | refine x_exit ?_ | refine x_ret ?_ | refine x_label ?_ | refine x_scope ?_ | (refine seq_ret ?_; clear hK K) | (refine seq_exit ?_; clear hK K) | refine block_normal ?_ | refine block_ret ?_ | refine block_exit ?_ | refine loop_exit ?_ | refine loop_ret ?_)
        | ((with_reducible refine x_reg_lit ?hq ?_); case hq => rfl)
        | ((first | (with_reducible first | refine x_op (fun K hK => ?_) | refine end_ret ?_ | refine end_normal ?_) | ((with_reducible refine x_guard_yes ?hy (fun K hK => ?_)); case hy => rfl)); simp only [go_sem, Nat.reduceEqDiff, Nat.reduceAdd, Nat.reduceMul, Nat.reduceLeDiff, Nat.reduceLT, Int.reduceLT, Int.reduceLE, Int.reduceEq, Int.reduceNeg, Int.reduceToNat, Nat.reducePow, reduceIte, reduceCtorEq, i10, e1', t2, hi])
        | ((with_reducible first | refine x_guard_no ?hy ?_ | refine x_cond_true ?hy ?_); case hy => rfl)
        | ((with_reducible first | refine x_guard_none ?hy ?_ | refine x_cond_false ?hy ?_); case hy => rfl)
        | ((with_reducible refine block_exit_ne ?hy ?_); case hy => decide))
      exact hQ _ _ _ _ _ _ _ _ _ _ i e0' e1' e6' i8 i9 hM kp (by omega) hi4
  · have t1 : (i < len) = False := by simp; omega
    repeat' (first
      | (with_reducible first | refine seq_normal ?_ | (refine hK _ _ ?_; clear hK K) | refine x_seq (fun K hK => ?_) | refine x_nil ?_ | refine x_block ?_ | refine x_skip ?_ | refine x_exit ?_ | refine x_ret ?_ | refine x_label ?_ | refine x_scope ?_ | (refine seq_ret ?_; clear hK K) | (refine seq_exit ?_; clear hK K) | refine block_normal ?_ | refine block_ret ?_ | refine block_exit ?_ | refine loop_exit ?_ | refine loop_ret ?_)
      | ((with_reducible refine x_reg_lit ?hq ?_); case hq => rfl)
      | ((first | (with_reducible first | refine x_op (fun K hK => ?_) | refine end_ret ?_ | refine end_normal ?_) | ((with_reducible refine x_guard_yes ?hy (fun K hK => ?_)); case hy => rfl)); simp only [go_sem, Nat.reduceEqDiff, Nat.reduceAdd, Nat.reduceMul, Nat.reduceLeDiff, Nat.reduceLT, Int.reduceLT, Int.reduceLE, Int.reduceEq, Int.reduceNeg, Int.reduceToNat, Nat.reducePow, reduceIte, reduceCtorEq, i10, e1', t1])
      | ((with_reducible first | refine x_guard_no ?hy ?_ | refine x_cond_true ?hy ?_); case hy => rfl)
      | ((with_reducible first | refine x_guard_none ?hy ?_ | refine x_cond_false ?hy ?_); case hy => rfl)
      | ((with_reducible refine block_exit_ne ?hy ?_); case hy => decide))
    exact hQ _ _ _ _ _ _ _ _ _ _ i e0' e1' e6' i8 i9 hM kp (by omega) hi4
end Go.Proofs.Ytkfcbgnodjgdcaa
