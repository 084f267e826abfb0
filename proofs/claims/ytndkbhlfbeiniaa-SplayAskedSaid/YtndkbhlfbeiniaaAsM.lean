/-
  SplayAsked: what is told of a call.
-/
import Derived.Test.YtndkbhlfbeiniaaQaM
import Derived.Test.YtndkbhlfbeiniaaM7
namespace Go.Sp
open Go Go.Hp
set_option linter.unusedVariables false
/-- What is only asked. -/
def firstQ (S : Sq) (kind a b : Int) : Int × Int :=
  if kind = 3 then ((S.getQ a).1.value, (S.getQ a).2) else if kind = 7 then (if (S.sameQ a b).1 then 1 else 0, (S.sameQ a b).2) else if kind = 8 then S.rankQ a else if kind = 9 then S.atQ a b
  else if kind = 10 then ((S.sumQ a).1.sum, (S.sumQ a).2) else if kind = 11 then S.flaggedQ a b else (0, 0)
end Go.Sp
namespace Go.Proofs.Ytndkbhlfbeiniaa
open Go Go.Hp Go.Sp
set_option linter.all false
set_option maxRecDepth 100000
set_option maxHeartbeats 1600000

/-- What changes. -/
def Sq.secondQ (S : Sq) (kind a b : Int) (x : Sp.Item) : (Int × Int) × Sq :=
  if kind = 1 then Sq.makeQ S x else if kind = 2 then ((0, (Sq.freeQ S a).1), (Sq.freeQ S a).2) else if kind = 4 then ((0, (Sq.setQ S a x).1), (Sq.setQ S a x).2) else if kind = 5 then ((0, (Sq.joinQ S a b).1), (Sq.joinQ S a b).2)
  else if kind = 6 then ((0, (Sq.splitQ S a).1), (Sq.splitQ S a).2) else (firstQ S kind a b, S)
def Sq.toldQ (S : Sq) (kind a b : Int) (x : Sp.Item) (ch : Bool) : (Int × Int) × Sq := if ch then Sq.secondQ S kind a b x else (firstQ S kind a b, S)
/-- A call as a value. -/
structure OpR where
  kind : Int
  a : Int
  b : Int
  x : Sp.Item
  other : Bool
def OpR.val (o : OpR) : Value := .agg #[.int .i64 o.kind, .int .i64 o.a, .int .i64 o.b, .int .i64 o.x.value, .bool o.x.counts, .int .i64 o.x.flags, .bool o.other]
def OpR.cells (o : OpR) : List Value := [.int .i64 o.kind, .int .i64 o.a, .int .i64 o.b, .int .i64 o.x.value, .bool o.x.counts, .int .i64 o.x.flags, .bool o.other]
structure OpR.Fit (o : OpR) : Prop where
  x : Fits o.x
  b0 : -9223372036854775808 ≤ o.b
  b1 : o.b ≤ 9223372036854775807
section
variable {H : Heap} {f : Nat} {T : Nat → Prop} {S : Sq} {K : Value → Heap → Prop}
/-- The end of told. -/
theorem two_new {H : Heap} {b : Nat} {n e : Int} (hb : Blk H b [.int .i64 0, .int .i64 0]) : okW H ⟨b, 0, none⟩ ∧ okW H ⟨b, 1, none⟩ := ⟨hb.okW (by simp), hb.okW (by simp)⟩

theorem told_3_ask {o : OpR} (hM : FoM H f T S) (ho : o.Fit) (hk : o.kind = 3) (fin : ∀ H' T', FoM H' f T' (Sq.toldQ S o.kind o.a o.b o.x false).2 → Fr T H H' → (∀ b, T' b → T b ∨ H.size ≤ b) → K (.agg #[.int .i64 (Sq.toldQ S o.kind o.a o.b o.x false).1.1, .int .i64 (Sq.toldQ S o.kind o.a o.b o.x false).1.2]) H') :
    CallsH Try.prog 34 #[.pointer (some ⟨f, 0, none⟩), o.val, .bool false] H K := by
  have g1 : (o.kind == 1) = false := by rw [hk]; rfl
  have g2 : (o.kind == 2) = false := by rw [hk]; rfl
  have g3 : (o.kind == 3) = true := by simp [hk]
  have g4 : (o.kind == 4) = false := by rw [hk]; rfl
  have g5 : (o.kind == 5) = false := by rw [hk]; rfl
  have g6 : (o.kind == 6) = false := by rw [hk]; rfl
  have g7 : (o.kind == 7) = false := by rw [hk]; rfl
  have g8 : (o.kind == 8) = false := by rw [hk]; rfl
  have g9 : (o.kind == 9) = false := by rw [hk]; rfl
  have g10 : (o.kind == 10) = false := by rw [hk]; rfl
  have g11 : (o.kind == 11) = false := by rw [hk]; rfl
  obtain ⟨H1, hH1⟩ : ∃ H1, H1 = (H.push (.cells #[.int .i64 o.kind, .int .i64 o.a, .int .i64 o.b, .int .i64 o.x.value, .bool o.x.counts, .int .i64 o.x.flags, .bool o.other] 68)).push (.cells #[.int .i64 0, .int .i64 0] 71) := ⟨_, rfl⟩
  have hf1 : Fr (fun _ => False) H H1 := by rw [hH1]; exact (by ((repeat (first | refine Fr.set ?_ (by simp) _ | refine Fr.push ?_ _)); exact Fr.refl _ _))
  have hM0 := hM.grow hf1
  have hs1 : H1.size = H.size + 2 := by rw [hH1]; simp
  have hb4 : Blk H1 H.size o.cells := by rw [hH1]; exact (Blk.new H o.cells _).push _
  have hb6 : Blk H1 (H.size + 1) [.int .i64 0, .int .i64 0] := by rw [hH1]; have := Blk.new (H.push (.cells #[.int .i64 o.kind, .int .i64 o.a, .int .i64 o.b, .int .i64 o.x.value, .bool o.x.counts, .int .i64 o.x.flags, .bool o.other] 68)) [.int .i64 0, .int .i64 0] 71; simpa using this
  have hT : ∀ i, ¬ T (H.size + i) := fun i h => by have := hM.lt h; omega
  have eq : Sq.toldQ S o.kind o.a o.b o.x false = (((S.getQ o.a).1.value, (S.getQ o.a).2), S) := by unfold Sq.toldQ firstQ; simp [hk]
  rw [eq] at fin
  refine call34 (by simp) ?_
  simp only [Try.f34, Option.getD_some]
  repeat' (first
    | (with_reducible first | refine seq_normal ?_ | (refine hK _ _ ?_; clear hK K) | refine x_seq (fun K hK => ?_) | refine x_nil ?_ | refine x_block ?_ | refine x_skip ?_ | refine x_exit ?_ | refine x_ret ?_ | refine x_label ?_ | refine x_scope ?_ | (refine seq_ret ?_; clear hK K) | (refine seq_exit ?_; clear hK K) | refine block_normal ?_ | refine block_ret ?_ | refine block_exit ?_ | refine loop_exit ?_ | refine loop_ret ?_)
    | ((with_reducible refine x_reg_lit ?hq ?_); case hq => rfl)
    | ((first | (with_reducible first | refine x_op (fun K hK => ?_) | refine end_ret ?_ | refine end_normal ?_) | ((with_reducible refine x_guard_yes ?hy (fun K hK => ?_)); case hy => rfl)); simp only [go_sem, Int.cast_ofNat_Int, Nat.reduceEqDiff, Nat.reduceAdd, Nat.reduceMul, Nat.reduceLeDiff, Nat.reduceLT, Int.reduceLT, Int.reduceLE, Int.reduceEq, Int.reduceNeg, Int.reduceToNat, Nat.reducePow, reduceIte, reduceCtorEq, OpR.val, g1, g2, g3, g4, g5, g6, g7, g8, g9, g10, g11, hcell_push, hcell_top, okW_push, okW_top, hcell_hset_ne, hcell_hset_off, hcell_hset_eq, okW_hset, hset_size, Array.size_push, Nat.lt_add_one, ne_add_one, add_one_ne, Nat.add_assoc, add_same, add_lt_same, Nat.reduceEqDiff, lt_add_k, add_k_ne, ne_add_k])
    | ((with_reducible first | refine x_guard_no ?hy ?_ | refine x_cond_true ?hy ?_); case hy => rfl)
    | ((with_reducible first | refine x_guard_none ?hy ?_ | refine x_cond_false ?hy ?_); case hy => rfl)
    | ((with_reducible refine block_exit_ne ?hy ?_); case hy => decide))
  rw [← hH1]
  refine q_get hM0 ?_
  intro H2 hF2 hf2
  have hb42 := hb4.frame hf2 (hT 0)
  have hb62 := hb6.frame hf2 (hT 1)
  have hf02 : Fr T H H2 := (hf1.mono fun _ _ h => h.elim).trans hf2
  have hs2 := hf2.size
  have l62 := hb62.lt
  have n62 : ¬ H.size + 1 = H2.size := by omega
  have n62' : ¬ H2.size = H.size + 1 := by omega
  have n42 : ¬ H.size = H2.size := by omega
  have l42 := hb42.lt
  have q0 := hb42.cellOf (i := 0) rfl
  obtain ⟨w0, w1⟩ := two_new hb62 (n := 0) (e := 0)
  repeat' (first
    | (with_reducible first | refine seq_normal ?_ | (refine hK _ _ ?_; clear hK K) | refine x_seq (fun K hK => ?_) | refine x_nil ?_ | refine x_block ?_ | refine x_skip ?_ | refine x_exit ?_ | refine x_ret ?_ | refine x_label ?_ | refine x_scope ?_ | (refine seq_ret ?_; clear hK K) | (refine seq_exit ?_; clear hK K) | refine block_normal ?_ | refine block_ret ?_ | refine block_exit ?_ | refine loop_exit ?_ | refine loop_ret ?_)
    | ((with_reducible refine x_reg_lit ?hq ?_); case hq => rfl)
    | ((first | (with_reducible first | refine x_op (fun K hK => ?_) | refine end_ret ?_ | refine end_normal ?_) | ((with_reducible refine x_guard_yes ?hy (fun K hK => ?_)); case hy => rfl)); simp only [go_sem, Int.cast_ofNat_Int, Nat.reduceEqDiff, Nat.reduceAdd, Nat.reduceMul, Nat.reduceLeDiff, Nat.reduceLT, Int.reduceLT, Int.reduceLE, Int.reduceEq, Int.reduceNeg, Int.reduceToNat, Nat.reducePow, reduceIte, reduceCtorEq, Sp.Item.val, Agg.val, g1, g2, g3, g4, g5, g6, g7, g8, g9, g10, g11, q0, w0, w1, l62, n62, n62', n42, l42, hcell_hset_eq, hcell_push, hcell_top, okW_push, okW_top, hcell_hset_ne, hcell_hset_off, hcell_hset_eq, okW_hset, hset_size, Array.size_push, Nat.lt_add_one, ne_add_one, add_one_ne, Nat.add_assoc, add_same, add_lt_same, Nat.reduceEqDiff, lt_add_k, add_k_ne, ne_add_k])
    | ((with_reducible first | refine x_guard_no ?hy ?_ | refine x_cond_true ?hy ?_); case hy => rfl)
    | ((with_reducible first | refine x_guard_none ?hy ?_ | refine x_cond_false ?hy ?_); case hy => rfl)
    | ((with_reducible refine block_exit_ne ?hy ?_); case hy => decide))
  refine fin _ T (hF2.frame (T0 := fun b => b = H.size + 1 ∨ H2.size ≤ b) ?_ fun b hb e => ?_) (hf02.trans' (S' := fun b => b = H.size + 1 ∨ H2.size ≤ b) ?_ fun b hb e => by omega) fun b hb => .inl hb
  · (repeat (first | refine Fr.set ?_ (by simp) _ | refine Fr.push ?_ _)); exact Fr.refl _ _
  · rcases e with rfl | e
    · exact hT 1 hb
    · have := hF2.lt hb; omega
  · (repeat (first | refine Fr.set ?_ (by simp) _ | refine Fr.push ?_ _)); exact Fr.refl _ _
theorem told_7_ask_true {o : OpR} (hM : FoM H f T S) (ho : o.Fit) (hk : o.kind = 7) (hs : (S.sameQ o.a o.b).1 = true) (fin : ∀ H' T', FoM H' f T' (Sq.toldQ S o.kind o.a o.b o.x false).2 → Fr T H H' → (∀ b, T' b → T b ∨ H.size ≤ b) → K (.agg #[.int .i64 (Sq.toldQ S o.kind o.a o.b o.x false).1.1, .int .i64 (Sq.toldQ S o.kind o.a o.b o.x false).1.2]) H') :
    CallsH Try.prog 34 #[.pointer (some ⟨f, 0, none⟩), o.val, .bool false] H K := by
  have g1 : (o.kind == 1) = false := by rw [hk]; rfl
  have g2 : (o.kind == 2) = false := by rw [hk]; rfl
  have g3 : (o.kind == 3) = false := by rw [hk]; rfl
  have g4 : (o.kind == 4) = false := by rw [hk]; rfl
  have g5 : (o.kind == 5) = false := by rw [hk]; rfl
  have g6 : (o.kind == 6) = false := by rw [hk]; rfl
  have g7 : (o.kind == 7) = true := by simp [hk]
  have g8 : (o.kind == 8) = false := by rw [hk]; rfl
  have g9 : (o.kind == 9) = false := by rw [hk]; rfl
  have g10 : (o.kind == 10) = false := by rw [hk]; rfl
  have g11 : (o.kind == 11) = false := by rw [hk]; rfl
  obtain ⟨H1, hH1⟩ : ∃ H1, H1 = (H.push (.cells #[.int .i64 o.kind, .int .i64 o.a, .int .i64 o.b, .int .i64 o.x.value, .bool o.x.counts, .int .i64 o.x.flags, .bool o.other] 68)).push (.cells #[.int .i64 0, .int .i64 0] 71) := ⟨_, rfl⟩
  have hf1 : Fr (fun _ => False) H H1 := by rw [hH1]; exact (by ((repeat (first | refine Fr.set ?_ (by simp) _ | refine Fr.push ?_ _)); exact Fr.refl _ _))
  have hM0 := hM.grow hf1
  have hs1 : H1.size = H.size + 2 := by rw [hH1]; simp
  have hb4 : Blk H1 H.size o.cells := by rw [hH1]; exact (Blk.new H o.cells _).push _
  have hb6 : Blk H1 (H.size + 1) [.int .i64 0, .int .i64 0] := by rw [hH1]; have := Blk.new (H.push (.cells #[.int .i64 o.kind, .int .i64 o.a, .int .i64 o.b, .int .i64 o.x.value, .bool o.x.counts, .int .i64 o.x.flags, .bool o.other] 68)) [.int .i64 0, .int .i64 0] 71; simpa using this
  have hT : ∀ i, ¬ T (H.size + i) := fun i h => by have := hM.lt h; omega
  have eq : Sq.toldQ S o.kind o.a o.b o.x false = ((1, (S.sameQ o.a o.b).2), S) := by unfold Sq.toldQ firstQ; simp [hk, hs]
  rw [eq] at fin
  refine call34 (by simp) ?_
  simp only [Try.f34, Option.getD_some]
  repeat' (first
    | (with_reducible first | refine seq_normal ?_ | (refine hK _ _ ?_; clear hK K) | refine x_seq (fun K hK => ?_) | refine x_nil ?_ | refine x_block ?_ | refine x_skip ?_ | refine x_exit ?_ | refine x_ret ?_ | refine x_label ?_ | refine x_scope ?_ | (refine seq_ret ?_; clear hK K) | (refine seq_exit ?_; clear hK K) | refine block_normal ?_ | refine block_ret ?_ | refine block_exit ?_ | refine loop_exit ?_ | refine loop_ret ?_)
    | ((with_reducible refine x_reg_lit ?hq ?_); case hq => rfl)
    | ((first | (with_reducible first | refine x_op (fun K hK => ?_) | refine end_ret ?_ | refine end_normal ?_) | ((with_reducible refine x_guard_yes ?hy (fun K hK => ?_)); case hy => rfl)); simp only [go_sem, Int.cast_ofNat_Int, Nat.reduceEqDiff, Nat.reduceAdd, Nat.reduceMul, Nat.reduceLeDiff, Nat.reduceLT, Int.reduceLT, Int.reduceLE, Int.reduceEq, Int.reduceNeg, Int.reduceToNat, Nat.reducePow, reduceIte, reduceCtorEq, OpR.val, g1, g2, g3, g4, g5, g6, g7, g8, g9, g10, g11, hcell_push, hcell_top, okW_push, okW_top, hcell_hset_ne, hcell_hset_off, hcell_hset_eq, okW_hset, hset_size, Array.size_push, Nat.lt_add_one, ne_add_one, add_one_ne, Nat.add_assoc, add_same, add_lt_same, Nat.reduceEqDiff, lt_add_k, add_k_ne, ne_add_k])
    | ((with_reducible first | refine x_guard_no ?hy ?_ | refine x_cond_true ?hy ?_); case hy => rfl)
    | ((with_reducible first | refine x_guard_none ?hy ?_ | refine x_cond_false ?hy ?_); case hy => rfl)
    | ((with_reducible refine block_exit_ne ?hy ?_); case hy => decide))
  rw [← hH1]
  refine q_same hM0 ?_
  intro H2 hF2 hf2
  rw [hs]
  have hb42 := hb4.frame hf2 (hT 0)
  have hb62 := hb6.frame hf2 (hT 1)
  have hf02 : Fr T H H2 := (hf1.mono fun _ _ h => h.elim).trans hf2
  have hs2 := hf2.size
  have l62 := hb62.lt
  have n62 : ¬ H.size + 1 = H2.size := by omega
  have n62' : ¬ H2.size = H.size + 1 := by omega
  have n42 : ¬ H.size = H2.size := by omega
  have l42 := hb42.lt
  have q0 := hb42.cellOf (i := 0) rfl
  obtain ⟨w0, w1⟩ := two_new hb62 (n := 0) (e := 0)
  repeat' (first
    | (with_reducible first | refine seq_normal ?_ | (refine hK _ _ ?_; clear hK K) | refine x_seq (fun K hK => ?_) | refine x_nil ?_ | refine x_block ?_ | refine x_skip ?_ | refine x_exit ?_ | refine x_ret ?_ | refine x_label ?_ | refine x_scope ?_ | (refine seq_ret ?_; clear hK K) | (refine seq_exit ?_; clear hK K) | refine block_normal ?_ | refine block_ret ?_ | refine block_exit ?_ | refine loop_exit ?_ | refine loop_ret ?_)
    | ((with_reducible refine x_reg_lit ?hq ?_); case hq => rfl)
    | ((first | (with_reducible first | refine x_op (fun K hK => ?_) | refine end_ret ?_ | refine end_normal ?_) | ((with_reducible refine x_guard_yes ?hy (fun K hK => ?_)); case hy => rfl)); simp only [go_sem, Int.cast_ofNat_Int, Nat.reduceEqDiff, Nat.reduceAdd, Nat.reduceMul, Nat.reduceLeDiff, Nat.reduceLT, Int.reduceLT, Int.reduceLE, Int.reduceEq, Int.reduceNeg, Int.reduceToNat, Nat.reducePow, reduceIte, reduceCtorEq, Sp.Item.val, Agg.val, g1, g2, g3, g4, g5, g6, g7, g8, g9, g10, g11, q0, w0, w1, l62, n62, n62', n42, l42, hcell_hset_eq, hcell_push, hcell_top, okW_push, okW_top, hcell_hset_ne, hcell_hset_off, hcell_hset_eq, okW_hset, hset_size, Array.size_push, Nat.lt_add_one, ne_add_one, add_one_ne, Nat.add_assoc, add_same, add_lt_same, Nat.reduceEqDiff, lt_add_k, add_k_ne, ne_add_k])
    | ((with_reducible first | refine x_guard_no ?hy ?_ | refine x_cond_true ?hy ?_); case hy => rfl)
    | ((with_reducible first | refine x_guard_none ?hy ?_ | refine x_cond_false ?hy ?_); case hy => rfl)
    | ((with_reducible refine block_exit_ne ?hy ?_); case hy => decide))
  refine fin _ T (hF2.frame (T0 := fun b => b = H.size + 1 ∨ H2.size ≤ b) ?_ fun b hb e => ?_) (hf02.trans' (S' := fun b => b = H.size + 1 ∨ H2.size ≤ b) ?_ fun b hb e => by omega) fun b hb => .inl hb
  · (repeat (first | refine Fr.set ?_ (by simp) _ | refine Fr.push ?_ _)); exact Fr.refl _ _
  · rcases e with rfl | e
    · exact hT 1 hb
    · have := hF2.lt hb; omega
  · (repeat (first | refine Fr.set ?_ (by simp) _ | refine Fr.push ?_ _)); exact Fr.refl _ _
theorem told_7_ask_false {o : OpR} (hM : FoM H f T S) (ho : o.Fit) (hk : o.kind = 7) (hs : (S.sameQ o.a o.b).1 = false) (fin : ∀ H' T', FoM H' f T' (Sq.toldQ S o.kind o.a o.b o.x false).2 → Fr T H H' → (∀ b, T' b → T b ∨ H.size ≤ b) → K (.agg #[.int .i64 (Sq.toldQ S o.kind o.a o.b o.x false).1.1, .int .i64 (Sq.toldQ S o.kind o.a o.b o.x false).1.2]) H') :
    CallsH Try.prog 34 #[.pointer (some ⟨f, 0, none⟩), o.val, .bool false] H K := by
  have g1 : (o.kind == 1) = false := by rw [hk]; rfl
  have g2 : (o.kind == 2) = false := by rw [hk]; rfl
  have g3 : (o.kind == 3) = false := by rw [hk]; rfl
  have g4 : (o.kind == 4) = false := by rw [hk]; rfl
  have g5 : (o.kind == 5) = false := by rw [hk]; rfl
  have g6 : (o.kind == 6) = false := by rw [hk]; rfl
  have g7 : (o.kind == 7) = true := by simp [hk]
  have g8 : (o.kind == 8) = false := by rw [hk]; rfl
  have g9 : (o.kind == 9) = false := by rw [hk]; rfl
  have g10 : (o.kind == 10) = false := by rw [hk]; rfl
  have g11 : (o.kind == 11) = false := by rw [hk]; rfl
  obtain ⟨H1, hH1⟩ : ∃ H1, H1 = (H.push (.cells #[.int .i64 o.kind, .int .i64 o.a, .int .i64 o.b, .int .i64 o.x.value, .bool o.x.counts, .int .i64 o.x.flags, .bool o.other] 68)).push (.cells #[.int .i64 0, .int .i64 0] 71) := ⟨_, rfl⟩
  have hf1 : Fr (fun _ => False) H H1 := by rw [hH1]; exact (by ((repeat (first | refine Fr.set ?_ (by simp) _ | refine Fr.push ?_ _)); exact Fr.refl _ _))
  have hM0 := hM.grow hf1
  have hs1 : H1.size = H.size + 2 := by rw [hH1]; simp
  have hb4 : Blk H1 H.size o.cells := by rw [hH1]; exact (Blk.new H o.cells _).push _
  have hb6 : Blk H1 (H.size + 1) [.int .i64 0, .int .i64 0] := by rw [hH1]; have := Blk.new (H.push (.cells #[.int .i64 o.kind, .int .i64 o.a, .int .i64 o.b, .int .i64 o.x.value, .bool o.x.counts, .int .i64 o.x.flags, .bool o.other] 68)) [.int .i64 0, .int .i64 0] 71; simpa using this
  have hT : ∀ i, ¬ T (H.size + i) := fun i h => by have := hM.lt h; omega
  have eq : Sq.toldQ S o.kind o.a o.b o.x false = ((0, (S.sameQ o.a o.b).2), S) := by unfold Sq.toldQ firstQ; simp [hk, hs]
  rw [eq] at fin
  refine call34 (by simp) ?_
  simp only [Try.f34, Option.getD_some]
  repeat' (first
    | (with_reducible first | refine seq_normal ?_ | (refine hK _ _ ?_; clear hK K) | refine x_seq (fun K hK => ?_) | refine x_nil ?_ | refine x_block ?_ | refine x_skip ?_ | refine x_exit ?_ | refine x_ret ?_ | refine x_label ?_ | refine x_scope ?_ | (refine seq_ret ?_; clear hK K) | (refine seq_exit ?_; clear hK K) | refine block_normal ?_ | refine block_ret ?_ | refine block_exit ?_ | refine loop_exit ?_ | refine loop_ret ?_)
    | ((with_reducible refine x_reg_lit ?hq ?_); case hq => rfl)
    | ((first | (with_reducible first | refine x_op (fun K hK => ?_) | refine end_ret ?_ | refine end_normal ?_) | ((with_reducible refine x_guard_yes ?hy (fun K hK => ?_)); case hy => rfl)); simp only [go_sem, Int.cast_ofNat_Int, Nat.reduceEqDiff, Nat.reduceAdd, Nat.reduceMul, Nat.reduceLeDiff, Nat.reduceLT, Int.reduceLT, Int.reduceLE, Int.reduceEq, Int.reduceNeg, Int.reduceToNat, Nat.reducePow, reduceIte, reduceCtorEq, OpR.val, g1, g2, g3, g4, g5, g6, g7, g8, g9, g10, g11, hcell_push, hcell_top, okW_push, okW_top, hcell_hset_ne, hcell_hset_off, hcell_hset_eq, okW_hset, hset_size, Array.size_push, Nat.lt_add_one, ne_add_one, add_one_ne, Nat.add_assoc, add_same, add_lt_same, Nat.reduceEqDiff, lt_add_k, add_k_ne, ne_add_k])
    | ((with_reducible first | refine x_guard_no ?hy ?_ | refine x_cond_true ?hy ?_); case hy => rfl)
    | ((with_reducible first | refine x_guard_none ?hy ?_ | refine x_cond_false ?hy ?_); case hy => rfl)
    | ((with_reducible refine block_exit_ne ?hy ?_); case hy => decide))
  rw [← hH1]
  refine q_same hM0 ?_
  intro H2 hF2 hf2
  rw [hs]
  have hb42 := hb4.frame hf2 (hT 0)
  have hb62 := hb6.frame hf2 (hT 1)
  have hf02 : Fr T H H2 := (hf1.mono fun _ _ h => h.elim).trans hf2
  have hs2 := hf2.size
  have l62 := hb62.lt
  have n62 : ¬ H.size + 1 = H2.size := by omega
  have n62' : ¬ H2.size = H.size + 1 := by omega
  have n42 : ¬ H.size = H2.size := by omega
  have l42 := hb42.lt
  have q0 := hb42.cellOf (i := 0) rfl
  obtain ⟨w0, w1⟩ := two_new hb62 (n := 0) (e := 0)
  repeat' (first
    | (with_reducible first | refine seq_normal ?_ | (refine hK _ _ ?_; clear hK K) | refine x_seq (fun K hK => ?_) | refine x_nil ?_ | refine x_block ?_ | refine x_skip ?_ | refine x_exit ?_ | refine x_ret ?_ | refine x_label ?_ | refine x_scope ?_ | (refine seq_ret ?_; clear hK K) | (refine seq_exit ?_; clear hK K) | refine block_normal ?_ | refine block_ret ?_ | refine block_exit ?_ | refine loop_exit ?_ | refine loop_ret ?_)
    | ((with_reducible refine x_reg_lit ?hq ?_); case hq => rfl)
    | ((first | (with_reducible first | refine x_op (fun K hK => ?_) | refine end_ret ?_ | refine end_normal ?_) | ((with_reducible refine x_guard_yes ?hy (fun K hK => ?_)); case hy => rfl)); simp only [go_sem, Int.cast_ofNat_Int, Nat.reduceEqDiff, Nat.reduceAdd, Nat.reduceMul, Nat.reduceLeDiff, Nat.reduceLT, Int.reduceLT, Int.reduceLE, Int.reduceEq, Int.reduceNeg, Int.reduceToNat, Nat.reducePow, reduceIte, reduceCtorEq, Sp.Item.val, Agg.val, g1, g2, g3, g4, g5, g6, g7, g8, g9, g10, g11, q0, w0, w1, l62, n62, n62', n42, l42, hcell_hset_eq, hcell_push, hcell_top, okW_push, okW_top, hcell_hset_ne, hcell_hset_off, hcell_hset_eq, okW_hset, hset_size, Array.size_push, Nat.lt_add_one, ne_add_one, add_one_ne, Nat.add_assoc, add_same, add_lt_same, Nat.reduceEqDiff, lt_add_k, add_k_ne, ne_add_k])
    | ((with_reducible first | refine x_guard_no ?hy ?_ | refine x_cond_true ?hy ?_); case hy => rfl)
    | ((with_reducible first | refine x_guard_none ?hy ?_ | refine x_cond_false ?hy ?_); case hy => rfl)
    | ((with_reducible refine block_exit_ne ?hy ?_); case hy => decide))
  refine fin _ T (hF2.frame (T0 := fun b => b = H.size + 1 ∨ H2.size ≤ b) ?_ fun b hb e => ?_) (hf02.trans' (S' := fun b => b = H.size + 1 ∨ H2.size ≤ b) ?_ fun b hb e => by omega) fun b hb => .inl hb
  · (repeat (first | refine Fr.set ?_ (by simp) _ | refine Fr.push ?_ _)); exact Fr.refl _ _
  · rcases e with rfl | e
    · exact hT 1 hb
    · have := hF2.lt hb; omega
  · (repeat (first | refine Fr.set ?_ (by simp) _ | refine Fr.push ?_ _)); exact Fr.refl _ _
theorem told_8_ask {o : OpR} (hM : FoM H f T S) (ho : o.Fit) (hk : o.kind = 8) (fin : ∀ H' T', FoM H' f T' (Sq.toldQ S o.kind o.a o.b o.x false).2 → Fr T H H' → (∀ b, T' b → T b ∨ H.size ≤ b) → K (.agg #[.int .i64 (Sq.toldQ S o.kind o.a o.b o.x false).1.1, .int .i64 (Sq.toldQ S o.kind o.a o.b o.x false).1.2]) H') :
    CallsH Try.prog 34 #[.pointer (some ⟨f, 0, none⟩), o.val, .bool false] H K := by
  have g1 : (o.kind == 1) = false := by rw [hk]; rfl
  have g2 : (o.kind == 2) = false := by rw [hk]; rfl
  have g3 : (o.kind == 3) = false := by rw [hk]; rfl
  have g4 : (o.kind == 4) = false := by rw [hk]; rfl
  have g5 : (o.kind == 5) = false := by rw [hk]; rfl
  have g6 : (o.kind == 6) = false := by rw [hk]; rfl
  have g7 : (o.kind == 7) = false := by rw [hk]; rfl
  have g8 : (o.kind == 8) = true := by simp [hk]
  have g9 : (o.kind == 9) = false := by rw [hk]; rfl
  have g10 : (o.kind == 10) = false := by rw [hk]; rfl
  have g11 : (o.kind == 11) = false := by rw [hk]; rfl
  obtain ⟨H1, hH1⟩ : ∃ H1, H1 = (H.push (.cells #[.int .i64 o.kind, .int .i64 o.a, .int .i64 o.b, .int .i64 o.x.value, .bool o.x.counts, .int .i64 o.x.flags, .bool o.other] 68)).push (.cells #[.int .i64 0, .int .i64 0] 71) := ⟨_, rfl⟩
  have hf1 : Fr (fun _ => False) H H1 := by rw [hH1]; exact (by ((repeat (first | refine Fr.set ?_ (by simp) _ | refine Fr.push ?_ _)); exact Fr.refl _ _))
  have hM0 := hM.grow hf1
  have hs1 : H1.size = H.size + 2 := by rw [hH1]; simp
  have hb4 : Blk H1 H.size o.cells := by rw [hH1]; exact (Blk.new H o.cells _).push _
  have hb6 : Blk H1 (H.size + 1) [.int .i64 0, .int .i64 0] := by rw [hH1]; have := Blk.new (H.push (.cells #[.int .i64 o.kind, .int .i64 o.a, .int .i64 o.b, .int .i64 o.x.value, .bool o.x.counts, .int .i64 o.x.flags, .bool o.other] 68)) [.int .i64 0, .int .i64 0] 71; simpa using this
  have hT : ∀ i, ¬ T (H.size + i) := fun i h => by have := hM.lt h; omega
  have eq : Sq.toldQ S o.kind o.a o.b o.x false = (S.rankQ o.a, S) := by unfold Sq.toldQ firstQ; simp [hk]
  rw [eq] at fin
  refine call34 (by simp) ?_
  simp only [Try.f34, Option.getD_some]
  repeat' (first
    | (with_reducible first | refine seq_normal ?_ | (refine hK _ _ ?_; clear hK K) | refine x_seq (fun K hK => ?_) | refine x_nil ?_ | refine x_block ?_ | refine x_skip ?_ | refine x_exit ?_ | refine x_ret ?_ | refine x_label ?_ | refine x_scope ?_ | (refine seq_ret ?_; clear hK K) | (refine seq_exit ?_; clear hK K) | refine block_normal ?_ | refine block_ret ?_ | refine block_exit ?_ | refine loop_exit ?_ | refine loop_ret ?_)
    | ((with_reducible refine x_reg_lit ?hq ?_); case hq => rfl)
    | ((first | (with_reducible first | refine x_op (fun K hK => ?_) | refine end_ret ?_ | refine end_normal ?_) | ((with_reducible refine x_guard_yes ?hy (fun K hK => ?_)); case hy => rfl)); simp only [go_sem, Int.cast_ofNat_Int, Nat.reduceEqDiff, Nat.reduceAdd, Nat.reduceMul, Nat.reduceLeDiff, Nat.reduceLT, Int.reduceLT, Int.reduceLE, Int.reduceEq, Int.reduceNeg, Int.reduceToNat, Nat.reducePow, reduceIte, reduceCtorEq, OpR.val, g1, g2, g3, g4, g5, g6, g7, g8, g9, g10, g11, hcell_push, hcell_top, okW_push, okW_top, hcell_hset_ne, hcell_hset_off, hcell_hset_eq, okW_hset, hset_size, Array.size_push, Nat.lt_add_one, ne_add_one, add_one_ne, Nat.add_assoc, add_same, add_lt_same, Nat.reduceEqDiff, lt_add_k, add_k_ne, ne_add_k])
    | ((with_reducible first | refine x_guard_no ?hy ?_ | refine x_cond_true ?hy ?_); case hy => rfl)
    | ((with_reducible first | refine x_guard_none ?hy ?_ | refine x_cond_false ?hy ?_); case hy => rfl)
    | ((with_reducible refine block_exit_ne ?hy ?_); case hy => decide))
  rw [← hH1]
  refine q_rank hM0 ?_
  intro H2 hF2 hf2
  have hb42 := hb4.frame hf2 (hT 0)
  have hb62 := hb6.frame hf2 (hT 1)
  have hf02 : Fr T H H2 := (hf1.mono fun _ _ h => h.elim).trans hf2
  have hs2 := hf2.size
  have l62 := hb62.lt
  have n62 : ¬ H.size + 1 = H2.size := by omega
  have n62' : ¬ H2.size = H.size + 1 := by omega
  have n42 : ¬ H.size = H2.size := by omega
  have l42 := hb42.lt
  have q0 := hb42.cellOf (i := 0) rfl
  obtain ⟨w0, w1⟩ := two_new hb62 (n := 0) (e := 0)
  repeat' (first
    | (with_reducible first | refine seq_normal ?_ | (refine hK _ _ ?_; clear hK K) | refine x_seq (fun K hK => ?_) | refine x_nil ?_ | refine x_block ?_ | refine x_skip ?_ | refine x_exit ?_ | refine x_ret ?_ | refine x_label ?_ | refine x_scope ?_ | (refine seq_ret ?_; clear hK K) | (refine seq_exit ?_; clear hK K) | refine block_normal ?_ | refine block_ret ?_ | refine block_exit ?_ | refine loop_exit ?_ | refine loop_ret ?_)
    | ((with_reducible refine x_reg_lit ?hq ?_); case hq => rfl)
    | ((first | (with_reducible first | refine x_op (fun K hK => ?_) | refine end_ret ?_ | refine end_normal ?_) | ((with_reducible refine x_guard_yes ?hy (fun K hK => ?_)); case hy => rfl)); simp only [go_sem, Int.cast_ofNat_Int, Nat.reduceEqDiff, Nat.reduceAdd, Nat.reduceMul, Nat.reduceLeDiff, Nat.reduceLT, Int.reduceLT, Int.reduceLE, Int.reduceEq, Int.reduceNeg, Int.reduceToNat, Nat.reducePow, reduceIte, reduceCtorEq, Sp.Item.val, Agg.val, g1, g2, g3, g4, g5, g6, g7, g8, g9, g10, g11, q0, w0, w1, l62, n62, n62', n42, l42, hcell_hset_eq, hcell_push, hcell_top, okW_push, okW_top, hcell_hset_ne, hcell_hset_off, hcell_hset_eq, okW_hset, hset_size, Array.size_push, Nat.lt_add_one, ne_add_one, add_one_ne, Nat.add_assoc, add_same, add_lt_same, Nat.reduceEqDiff, lt_add_k, add_k_ne, ne_add_k])
    | ((with_reducible first | refine x_guard_no ?hy ?_ | refine x_cond_true ?hy ?_); case hy => rfl)
    | ((with_reducible first | refine x_guard_none ?hy ?_ | refine x_cond_false ?hy ?_); case hy => rfl)
    | ((with_reducible refine block_exit_ne ?hy ?_); case hy => decide))
  refine fin _ T (hF2.frame (T0 := fun b => b = H.size + 1 ∨ H2.size ≤ b) ?_ fun b hb e => ?_) (hf02.trans' (S' := fun b => b = H.size + 1 ∨ H2.size ≤ b) ?_ fun b hb e => by omega) fun b hb => .inl hb
  · (repeat (first | refine Fr.set ?_ (by simp) _ | refine Fr.push ?_ _)); exact Fr.refl _ _
  · rcases e with rfl | e
    · exact hT 1 hb
    · have := hF2.lt hb; omega
  · (repeat (first | refine Fr.set ?_ (by simp) _ | refine Fr.push ?_ _)); exact Fr.refl _ _
theorem told_9_ask {o : OpR} (hM : FoM H f T S) (ho : o.Fit) (hk : o.kind = 9) (fin : ∀ H' T', FoM H' f T' (Sq.toldQ S o.kind o.a o.b o.x false).2 → Fr T H H' → (∀ b, T' b → T b ∨ H.size ≤ b) → K (.agg #[.int .i64 (Sq.toldQ S o.kind o.a o.b o.x false).1.1, .int .i64 (Sq.toldQ S o.kind o.a o.b o.x false).1.2]) H') :
    CallsH Try.prog 34 #[.pointer (some ⟨f, 0, none⟩), o.val, .bool false] H K := by
  have g1 : (o.kind == 1) = false := by rw [hk]; rfl
  have g2 : (o.kind == 2) = false := by rw [hk]; rfl
  have g3 : (o.kind == 3) = false := by rw [hk]; rfl
  have g4 : (o.kind == 4) = false := by rw [hk]; rfl
  have g5 : (o.kind == 5) = false := by rw [hk]; rfl
  have g6 : (o.kind == 6) = false := by rw [hk]; rfl
  have g7 : (o.kind == 7) = false := by rw [hk]; rfl
  have g8 : (o.kind == 8) = false := by rw [hk]; rfl
  have g9 : (o.kind == 9) = true := by simp [hk]
  have g10 : (o.kind == 10) = false := by rw [hk]; rfl
  have g11 : (o.kind == 11) = false := by rw [hk]; rfl
  obtain ⟨H1, hH1⟩ : ∃ H1, H1 = (H.push (.cells #[.int .i64 o.kind, .int .i64 o.a, .int .i64 o.b, .int .i64 o.x.value, .bool o.x.counts, .int .i64 o.x.flags, .bool o.other] 68)).push (.cells #[.int .i64 0, .int .i64 0] 71) := ⟨_, rfl⟩
  have hf1 : Fr (fun _ => False) H H1 := by rw [hH1]; exact (by ((repeat (first | refine Fr.set ?_ (by simp) _ | refine Fr.push ?_ _)); exact Fr.refl _ _))
  have hM0 := hM.grow hf1
  have hs1 : H1.size = H.size + 2 := by rw [hH1]; simp
  have hb4 : Blk H1 H.size o.cells := by rw [hH1]; exact (Blk.new H o.cells _).push _
  have hb6 : Blk H1 (H.size + 1) [.int .i64 0, .int .i64 0] := by rw [hH1]; have := Blk.new (H.push (.cells #[.int .i64 o.kind, .int .i64 o.a, .int .i64 o.b, .int .i64 o.x.value, .bool o.x.counts, .int .i64 o.x.flags, .bool o.other] 68)) [.int .i64 0, .int .i64 0] 71; simpa using this
  have hT : ∀ i, ¬ T (H.size + i) := fun i h => by have := hM.lt h; omega
  have eq : Sq.toldQ S o.kind o.a o.b o.x false = (S.atQ o.a o.b, S) := by unfold Sq.toldQ firstQ; simp [hk]
  rw [eq] at fin
  refine call34 (by simp) ?_
  simp only [Try.f34, Option.getD_some]
  repeat' (first
    | (with_reducible first | refine seq_normal ?_ | (refine hK _ _ ?_; clear hK K) | refine x_seq (fun K hK => ?_) | refine x_nil ?_ | refine x_block ?_ | refine x_skip ?_ | refine x_exit ?_ | refine x_ret ?_ | refine x_label ?_ | refine x_scope ?_ | (refine seq_ret ?_; clear hK K) | (refine seq_exit ?_; clear hK K) | refine block_normal ?_ | refine block_ret ?_ | refine block_exit ?_ | refine loop_exit ?_ | refine loop_ret ?_)
    | ((with_reducible refine x_reg_lit ?hq ?_); case hq => rfl)
    | ((first | (with_reducible first | refine x_op (fun K hK => ?_) | refine end_ret ?_ | refine end_normal ?_) | ((with_reducible refine x_guard_yes ?hy (fun K hK => ?_)); case hy => rfl)); simp only [go_sem, Int.cast_ofNat_Int, Nat.reduceEqDiff, Nat.reduceAdd, Nat.reduceMul, Nat.reduceLeDiff, Nat.reduceLT, Int.reduceLT, Int.reduceLE, Int.reduceEq, Int.reduceNeg, Int.reduceToNat, Nat.reducePow, reduceIte, reduceCtorEq, OpR.val, g1, g2, g3, g4, g5, g6, g7, g8, g9, g10, g11, hcell_push, hcell_top, okW_push, okW_top, hcell_hset_ne, hcell_hset_off, hcell_hset_eq, okW_hset, hset_size, Array.size_push, Nat.lt_add_one, ne_add_one, add_one_ne, Nat.add_assoc, add_same, add_lt_same, Nat.reduceEqDiff, lt_add_k, add_k_ne, ne_add_k])
    | ((with_reducible first | refine x_guard_no ?hy ?_ | refine x_cond_true ?hy ?_); case hy => rfl)
    | ((with_reducible first | refine x_guard_none ?hy ?_ | refine x_cond_false ?hy ?_); case hy => rfl)
    | ((with_reducible refine block_exit_ne ?hy ?_); case hy => decide))
  rw [← hH1]
  refine q_at hM0 ?_
  intro H2 hF2 hf2
  have hb42 := hb4.frame hf2 (hT 0)
  have hb62 := hb6.frame hf2 (hT 1)
  have hf02 : Fr T H H2 := (hf1.mono fun _ _ h => h.elim).trans hf2
  have hs2 := hf2.size
  have l62 := hb62.lt
  have n62 : ¬ H.size + 1 = H2.size := by omega
  have n62' : ¬ H2.size = H.size + 1 := by omega
  have n42 : ¬ H.size = H2.size := by omega
  have l42 := hb42.lt
  have q0 := hb42.cellOf (i := 0) rfl
  obtain ⟨w0, w1⟩ := two_new hb62 (n := 0) (e := 0)
  repeat' (first
    | (with_reducible first | refine seq_normal ?_ | (refine hK _ _ ?_; clear hK K) | refine x_seq (fun K hK => ?_) | refine x_nil ?_ | refine x_block ?_ | refine x_skip ?_ | refine x_exit ?_ | refine x_ret ?_ | refine x_label ?_ | refine x_scope ?_ | (refine seq_ret ?_; clear hK K) | (refine seq_exit ?_; clear hK K) | refine block_normal ?_ | refine block_ret ?_ | refine block_exit ?_ | refine loop_exit ?_ | refine loop_ret ?_)
    | ((with_reducible refine x_reg_lit ?hq ?_); case hq => rfl)
    | ((first | (with_reducible first | refine x_op (fun K hK => ?_) | refine end_ret ?_ | refine end_normal ?_) | ((with_reducible refine x_guard_yes ?hy (fun K hK => ?_)); case hy => rfl)); simp only [go_sem, Int.cast_ofNat_Int, Nat.reduceEqDiff, Nat.reduceAdd, Nat.reduceMul, Nat.reduceLeDiff, Nat.reduceLT, Int.reduceLT, Int.reduceLE, Int.reduceEq, Int.reduceNeg, Int.reduceToNat, Nat.reducePow, reduceIte, reduceCtorEq, Sp.Item.val, Agg.val, g1, g2, g3, g4, g5, g6, g7, g8, g9, g10, g11, q0, w0, w1, l62, n62, n62', n42, l42, hcell_hset_eq, hcell_push, hcell_top, okW_push, okW_top, hcell_hset_ne, hcell_hset_off, hcell_hset_eq, okW_hset, hset_size, Array.size_push, Nat.lt_add_one, ne_add_one, add_one_ne, Nat.add_assoc, add_same, add_lt_same, Nat.reduceEqDiff, lt_add_k, add_k_ne, ne_add_k])
    | ((with_reducible first | refine x_guard_no ?hy ?_ | refine x_cond_true ?hy ?_); case hy => rfl)
    | ((with_reducible first | refine x_guard_none ?hy ?_ | refine x_cond_false ?hy ?_); case hy => rfl)
    | ((with_reducible refine block_exit_ne ?hy ?_); case hy => decide))
  refine fin _ T (hF2.frame (T0 := fun b => b = H.size + 1 ∨ H2.size ≤ b) ?_ fun b hb e => ?_) (hf02.trans' (S' := fun b => b = H.size + 1 ∨ H2.size ≤ b) ?_ fun b hb e => by omega) fun b hb => .inl hb
  · (repeat (first | refine Fr.set ?_ (by simp) _ | refine Fr.push ?_ _)); exact Fr.refl _ _
  · rcases e with rfl | e
    · exact hT 1 hb
    · have := hF2.lt hb; omega
  · (repeat (first | refine Fr.set ?_ (by simp) _ | refine Fr.push ?_ _)); exact Fr.refl _ _
theorem told_10_ask {o : OpR} (hM : FoM H f T S) (ho : o.Fit) (hk : o.kind = 10) (fin : ∀ H' T', FoM H' f T' (Sq.toldQ S o.kind o.a o.b o.x false).2 → Fr T H H' → (∀ b, T' b → T b ∨ H.size ≤ b) → K (.agg #[.int .i64 (Sq.toldQ S o.kind o.a o.b o.x false).1.1, .int .i64 (Sq.toldQ S o.kind o.a o.b o.x false).1.2]) H') :
    CallsH Try.prog 34 #[.pointer (some ⟨f, 0, none⟩), o.val, .bool false] H K := by
  have g1 : (o.kind == 1) = false := by rw [hk]; rfl
  have g2 : (o.kind == 2) = false := by rw [hk]; rfl
  have g3 : (o.kind == 3) = false := by rw [hk]; rfl
  have g4 : (o.kind == 4) = false := by rw [hk]; rfl
  have g5 : (o.kind == 5) = false := by rw [hk]; rfl
  have g6 : (o.kind == 6) = false := by rw [hk]; rfl
  have g7 : (o.kind == 7) = false := by rw [hk]; rfl
  have g8 : (o.kind == 8) = false := by rw [hk]; rfl
  have g9 : (o.kind == 9) = false := by rw [hk]; rfl
  have g10 : (o.kind == 10) = true := by simp [hk]
  have g11 : (o.kind == 11) = false := by rw [hk]; rfl
  obtain ⟨H1, hH1⟩ : ∃ H1, H1 = (H.push (.cells #[.int .i64 o.kind, .int .i64 o.a, .int .i64 o.b, .int .i64 o.x.value, .bool o.x.counts, .int .i64 o.x.flags, .bool o.other] 68)).push (.cells #[.int .i64 0, .int .i64 0] 71) := ⟨_, rfl⟩
  have hf1 : Fr (fun _ => False) H H1 := by rw [hH1]; exact (by ((repeat (first | refine Fr.set ?_ (by simp) _ | refine Fr.push ?_ _)); exact Fr.refl _ _))
  have hM0 := hM.grow hf1
  have hs1 : H1.size = H.size + 2 := by rw [hH1]; simp
  have hb4 : Blk H1 H.size o.cells := by rw [hH1]; exact (Blk.new H o.cells _).push _
  have hb6 : Blk H1 (H.size + 1) [.int .i64 0, .int .i64 0] := by rw [hH1]; have := Blk.new (H.push (.cells #[.int .i64 o.kind, .int .i64 o.a, .int .i64 o.b, .int .i64 o.x.value, .bool o.x.counts, .int .i64 o.x.flags, .bool o.other] 68)) [.int .i64 0, .int .i64 0] 71; simpa using this
  have hT : ∀ i, ¬ T (H.size + i) := fun i h => by have := hM.lt h; omega
  have eq : Sq.toldQ S o.kind o.a o.b o.x false = (((S.sumQ o.a).1.sum, (S.sumQ o.a).2), S) := by unfold Sq.toldQ firstQ; simp [hk]
  rw [eq] at fin
  refine call34 (by simp) ?_
  simp only [Try.f34, Option.getD_some]
  repeat' (first
    | (with_reducible first | refine seq_normal ?_ | (refine hK _ _ ?_; clear hK K) | refine x_seq (fun K hK => ?_) | refine x_nil ?_ | refine x_block ?_ | refine x_skip ?_ | refine x_exit ?_ | refine x_ret ?_ | refine x_label ?_ | refine x_scope ?_ | (refine seq_ret ?_; clear hK K) | (refine seq_exit ?_; clear hK K) | refine block_normal ?_ | refine block_ret ?_ | refine block_exit ?_ | refine loop_exit ?_ | refine loop_ret ?_)
    | ((with_reducible refine x_reg_lit ?hq ?_); case hq => rfl)
    | ((first | (with_reducible first | refine x_op (fun K hK => ?_) | refine end_ret ?_ | refine end_normal ?_) | ((with_reducible refine x_guard_yes ?hy (fun K hK => ?_)); case hy => rfl)); simp only [go_sem, Int.cast_ofNat_Int, Nat.reduceEqDiff, Nat.reduceAdd, Nat.reduceMul, Nat.reduceLeDiff, Nat.reduceLT, Int.reduceLT, Int.reduceLE, Int.reduceEq, Int.reduceNeg, Int.reduceToNat, Nat.reducePow, reduceIte, reduceCtorEq, OpR.val, g1, g2, g3, g4, g5, g6, g7, g8, g9, g10, g11, hcell_push, hcell_top, okW_push, okW_top, hcell_hset_ne, hcell_hset_off, hcell_hset_eq, okW_hset, hset_size, Array.size_push, Nat.lt_add_one, ne_add_one, add_one_ne, Nat.add_assoc, add_same, add_lt_same, Nat.reduceEqDiff, lt_add_k, add_k_ne, ne_add_k])
    | ((with_reducible first | refine x_guard_no ?hy ?_ | refine x_cond_true ?hy ?_); case hy => rfl)
    | ((with_reducible first | refine x_guard_none ?hy ?_ | refine x_cond_false ?hy ?_); case hy => rfl)
    | ((with_reducible refine block_exit_ne ?hy ?_); case hy => decide))
  rw [← hH1]
  refine q_sum hM0 ?_
  intro H2 hF2 hf2
  have hb42 := hb4.frame hf2 (hT 0)
  have hb62 := hb6.frame hf2 (hT 1)
  have hf02 : Fr T H H2 := (hf1.mono fun _ _ h => h.elim).trans hf2
  have hs2 := hf2.size
  have l62 := hb62.lt
  have n62 : ¬ H.size + 1 = H2.size := by omega
  have n62' : ¬ H2.size = H.size + 1 := by omega
  have n42 : ¬ H.size = H2.size := by omega
  have l42 := hb42.lt
  have q0 := hb42.cellOf (i := 0) rfl
  obtain ⟨w0, w1⟩ := two_new hb62 (n := 0) (e := 0)
  repeat' (first
    | (with_reducible first | refine seq_normal ?_ | (refine hK _ _ ?_; clear hK K) | refine x_seq (fun K hK => ?_) | refine x_nil ?_ | refine x_block ?_ | refine x_skip ?_ | refine x_exit ?_ | refine x_ret ?_ | refine x_label ?_ | refine x_scope ?_ | (refine seq_ret ?_; clear hK K) | (refine seq_exit ?_; clear hK K) | refine block_normal ?_ | refine block_ret ?_ | refine block_exit ?_ | refine loop_exit ?_ | refine loop_ret ?_)
    | ((with_reducible refine x_reg_lit ?hq ?_); case hq => rfl)
    | ((first | (with_reducible first | refine x_op (fun K hK => ?_) | refine end_ret ?_ | refine end_normal ?_) | ((with_reducible refine x_guard_yes ?hy (fun K hK => ?_)); case hy => rfl)); simp only [go_sem, Int.cast_ofNat_Int, Nat.reduceEqDiff, Nat.reduceAdd, Nat.reduceMul, Nat.reduceLeDiff, Nat.reduceLT, Int.reduceLT, Int.reduceLE, Int.reduceEq, Int.reduceNeg, Int.reduceToNat, Nat.reducePow, reduceIte, reduceCtorEq, Sp.Item.val, Agg.val, g1, g2, g3, g4, g5, g6, g7, g8, g9, g10, g11, q0, w0, w1, l62, n62, n62', n42, l42, hcell_hset_eq, hcell_push, hcell_top, okW_push, okW_top, hcell_hset_ne, hcell_hset_off, hcell_hset_eq, okW_hset, hset_size, Array.size_push, Nat.lt_add_one, ne_add_one, add_one_ne, Nat.add_assoc, add_same, add_lt_same, Nat.reduceEqDiff, lt_add_k, add_k_ne, ne_add_k])
    | ((with_reducible first | refine x_guard_no ?hy ?_ | refine x_cond_true ?hy ?_); case hy => rfl)
    | ((with_reducible first | refine x_guard_none ?hy ?_ | refine x_cond_false ?hy ?_); case hy => rfl)
    | ((with_reducible refine block_exit_ne ?hy ?_); case hy => decide))
  refine fin _ T (hF2.frame (T0 := fun b => b = H.size + 1 ∨ H2.size ≤ b) ?_ fun b hb e => ?_) (hf02.trans' (S' := fun b => b = H.size + 1 ∨ H2.size ≤ b) ?_ fun b hb e => by omega) fun b hb => .inl hb
  · (repeat (first | refine Fr.set ?_ (by simp) _ | refine Fr.push ?_ _)); exact Fr.refl _ _
  · rcases e with rfl | e
    · exact hT 1 hb
    · have := hF2.lt hb; omega
  · (repeat (first | refine Fr.set ?_ (by simp) _ | refine Fr.push ?_ _)); exact Fr.refl _ _
theorem told_11_ask {o : OpR} (hM : FoM H f T S) (ho : o.Fit) (hk : o.kind = 11) (fin : ∀ H' T', FoM H' f T' (Sq.toldQ S o.kind o.a o.b o.x false).2 → Fr T H H' → (∀ b, T' b → T b ∨ H.size ≤ b) → K (.agg #[.int .i64 (Sq.toldQ S o.kind o.a o.b o.x false).1.1, .int .i64 (Sq.toldQ S o.kind o.a o.b o.x false).1.2]) H') :
    CallsH Try.prog 34 #[.pointer (some ⟨f, 0, none⟩), o.val, .bool false] H K := by
  have g1 : (o.kind == 1) = false := by rw [hk]; rfl
  have g2 : (o.kind == 2) = false := by rw [hk]; rfl
  have g3 : (o.kind == 3) = false := by rw [hk]; rfl
  have g4 : (o.kind == 4) = false := by rw [hk]; rfl
  have g5 : (o.kind == 5) = false := by rw [hk]; rfl
  have g6 : (o.kind == 6) = false := by rw [hk]; rfl
  have g7 : (o.kind == 7) = false := by rw [hk]; rfl
  have g8 : (o.kind == 8) = false := by rw [hk]; rfl
  have g9 : (o.kind == 9) = false := by rw [hk]; rfl
  have g10 : (o.kind == 10) = false := by rw [hk]; rfl
  have g11 : (o.kind == 11) = true := by simp [hk]
  obtain ⟨H1, hH1⟩ : ∃ H1, H1 = (H.push (.cells #[.int .i64 o.kind, .int .i64 o.a, .int .i64 o.b, .int .i64 o.x.value, .bool o.x.counts, .int .i64 o.x.flags, .bool o.other] 68)).push (.cells #[.int .i64 0, .int .i64 0] 71) := ⟨_, rfl⟩
  have hf1 : Fr (fun _ => False) H H1 := by rw [hH1]; exact (by ((repeat (first | refine Fr.set ?_ (by simp) _ | refine Fr.push ?_ _)); exact Fr.refl _ _))
  have hM0 := hM.grow hf1
  have hs1 : H1.size = H.size + 2 := by rw [hH1]; simp
  have hb4 : Blk H1 H.size o.cells := by rw [hH1]; exact (Blk.new H o.cells _).push _
  have hb6 : Blk H1 (H.size + 1) [.int .i64 0, .int .i64 0] := by rw [hH1]; have := Blk.new (H.push (.cells #[.int .i64 o.kind, .int .i64 o.a, .int .i64 o.b, .int .i64 o.x.value, .bool o.x.counts, .int .i64 o.x.flags, .bool o.other] 68)) [.int .i64 0, .int .i64 0] 71; simpa using this
  have hT : ∀ i, ¬ T (H.size + i) := fun i h => by have := hM.lt h; omega
  have eq : Sq.toldQ S o.kind o.a o.b o.x false = (S.flaggedQ o.a o.b, S) := by unfold Sq.toldQ firstQ; simp [hk]
  rw [eq] at fin
  refine call34 (by simp) ?_
  simp only [Try.f34, Option.getD_some]
  repeat' (first
    | (with_reducible first | refine seq_normal ?_ | (refine hK _ _ ?_; clear hK K) | refine x_seq (fun K hK => ?_) | refine x_nil ?_ | refine x_block ?_ | refine x_skip ?_ | refine x_exit ?_ | refine x_ret ?_ | refine x_label ?_ | refine x_scope ?_ | (refine seq_ret ?_; clear hK K) | (refine seq_exit ?_; clear hK K) | refine block_normal ?_ | refine block_ret ?_ | refine block_exit ?_ | refine loop_exit ?_ | refine loop_ret ?_)
    | ((with_reducible refine x_reg_lit ?hq ?_); case hq => rfl)
    | ((first | (with_reducible first | refine x_op (fun K hK => ?_) | refine end_ret ?_ | refine end_normal ?_) | ((with_reducible refine x_guard_yes ?hy (fun K hK => ?_)); case hy => rfl)); simp only [go_sem, Int.cast_ofNat_Int, Nat.reduceEqDiff, Nat.reduceAdd, Nat.reduceMul, Nat.reduceLeDiff, Nat.reduceLT, Int.reduceLT, Int.reduceLE, Int.reduceEq, Int.reduceNeg, Int.reduceToNat, Nat.reducePow, reduceIte, reduceCtorEq, OpR.val, g1, g2, g3, g4, g5, g6, g7, g8, g9, g10, g11, hcell_push, hcell_top, okW_push, okW_top, hcell_hset_ne, hcell_hset_off, hcell_hset_eq, okW_hset, hset_size, Array.size_push, Nat.lt_add_one, ne_add_one, add_one_ne, Nat.add_assoc, add_same, add_lt_same, Nat.reduceEqDiff, lt_add_k, add_k_ne, ne_add_k])
    | ((with_reducible first | refine x_guard_no ?hy ?_ | refine x_cond_true ?hy ?_); case hy => rfl)
    | ((with_reducible first | refine x_guard_none ?hy ?_ | refine x_cond_false ?hy ?_); case hy => rfl)
    | ((with_reducible refine block_exit_ne ?hy ?_); case hy => decide))
  rw [← hH1]
  refine q_flagged hM0 ho.b0 ho.b1 ?_
  intro H2 hF2 hf2
  have hb42 := hb4.frame hf2 (hT 0)
  have hb62 := hb6.frame hf2 (hT 1)
  have hf02 : Fr T H H2 := (hf1.mono fun _ _ h => h.elim).trans hf2
  have hs2 := hf2.size
  have l62 := hb62.lt
  have n62 : ¬ H.size + 1 = H2.size := by omega
  have n62' : ¬ H2.size = H.size + 1 := by omega
  have n42 : ¬ H.size = H2.size := by omega
  have l42 := hb42.lt
  have q0 := hb42.cellOf (i := 0) rfl
  obtain ⟨w0, w1⟩ := two_new hb62 (n := 0) (e := 0)
  repeat' (first
    | (with_reducible first | refine seq_normal ?_ | (refine hK _ _ ?_; clear hK K) | refine x_seq (fun K hK => ?_) | refine x_nil ?_ | refine x_block ?_ | refine x_skip ?_ | refine x_exit ?_ | refine x_ret ?_ | refine x_label ?_ | refine x_scope ?_ | (refine seq_ret ?_; clear hK K) | (refine seq_exit ?_; clear hK K) | refine block_normal ?_ | refine block_ret ?_ | refine block_exit ?_ | refine loop_exit ?_ | refine loop_ret ?_)
    | ((with_reducible refine x_reg_lit ?hq ?_); case hq => rfl)
    | ((first | (with_reducible first | refine x_op (fun K hK => ?_) | refine end_ret ?_ | refine end_normal ?_) | ((with_reducible refine x_guard_yes ?hy (fun K hK => ?_)); case hy => rfl)); simp only [go_sem, Int.cast_ofNat_Int, Nat.reduceEqDiff, Nat.reduceAdd, Nat.reduceMul, Nat.reduceLeDiff, Nat.reduceLT, Int.reduceLT, Int.reduceLE, Int.reduceEq, Int.reduceNeg, Int.reduceToNat, Nat.reducePow, reduceIte, reduceCtorEq, Sp.Item.val, Agg.val, g1, g2, g3, g4, g5, g6, g7, g8, g9, g10, g11, q0, w0, w1, l62, n62, n62', n42, l42, hcell_hset_eq, hcell_push, hcell_top, okW_push, okW_top, hcell_hset_ne, hcell_hset_off, hcell_hset_eq, okW_hset, hset_size, Array.size_push, Nat.lt_add_one, ne_add_one, add_one_ne, Nat.add_assoc, add_same, add_lt_same, Nat.reduceEqDiff, lt_add_k, add_k_ne, ne_add_k])
    | ((with_reducible first | refine x_guard_no ?hy ?_ | refine x_cond_true ?hy ?_); case hy => rfl)
    | ((with_reducible first | refine x_guard_none ?hy ?_ | refine x_cond_false ?hy ?_); case hy => rfl)
    | ((with_reducible refine block_exit_ne ?hy ?_); case hy => decide))
  refine fin _ T (hF2.frame (T0 := fun b => b = H.size + 1 ∨ H2.size ≤ b) ?_ fun b hb e => ?_) (hf02.trans' (S' := fun b => b = H.size + 1 ∨ H2.size ≤ b) ?_ fun b hb e => by omega) fun b hb => .inl hb
  · (repeat (first | refine Fr.set ?_ (by simp) _ | refine Fr.push ?_ _)); exact Fr.refl _ _
  · rcases e with rfl | e
    · exact hT 1 hb
    · have := hF2.lt hb; omega
  · (repeat (first | refine Fr.set ?_ (by simp) _ | refine Fr.push ?_ _)); exact Fr.refl _ _
theorem told_3_yes {o : OpR} (hM : FoM H f T S) (ho : o.Fit) (hk : o.kind = 3) (fin : ∀ H' T', FoM H' f T' (Sq.toldQ S o.kind o.a o.b o.x true).2 → Fr T H H' → (∀ b, T' b → T b ∨ H.size ≤ b) → K (.agg #[.int .i64 (Sq.toldQ S o.kind o.a o.b o.x true).1.1, .int .i64 (Sq.toldQ S o.kind o.a o.b o.x true).1.2]) H') :
    CallsH Try.prog 34 #[.pointer (some ⟨f, 0, none⟩), o.val, .bool true] H K := by
  have g1 : (o.kind == 1) = false := by rw [hk]; rfl
  have g2 : (o.kind == 2) = false := by rw [hk]; rfl
  have g3 : (o.kind == 3) = true := by simp [hk]
  have g4 : (o.kind == 4) = false := by rw [hk]; rfl
  have g5 : (o.kind == 5) = false := by rw [hk]; rfl
  have g6 : (o.kind == 6) = false := by rw [hk]; rfl
  have g7 : (o.kind == 7) = false := by rw [hk]; rfl
  have g8 : (o.kind == 8) = false := by rw [hk]; rfl
  have g9 : (o.kind == 9) = false := by rw [hk]; rfl
  have g10 : (o.kind == 10) = false := by rw [hk]; rfl
  have g11 : (o.kind == 11) = false := by rw [hk]; rfl
  obtain ⟨H1, hH1⟩ : ∃ H1, H1 = (H.push (.cells #[.int .i64 o.kind, .int .i64 o.a, .int .i64 o.b, .int .i64 o.x.value, .bool o.x.counts, .int .i64 o.x.flags, .bool o.other] 68)).push (.cells #[.int .i64 0, .int .i64 0] 71) := ⟨_, rfl⟩
  have hf1 : Fr (fun _ => False) H H1 := by rw [hH1]; exact (by ((repeat (first | refine Fr.set ?_ (by simp) _ | refine Fr.push ?_ _)); exact Fr.refl _ _))
  have hM0 := hM.grow hf1
  have hs1 : H1.size = H.size + 2 := by rw [hH1]; simp
  have hb4 : Blk H1 H.size o.cells := by rw [hH1]; exact (Blk.new H o.cells _).push _
  have hb6 : Blk H1 (H.size + 1) [.int .i64 0, .int .i64 0] := by rw [hH1]; have := Blk.new (H.push (.cells #[.int .i64 o.kind, .int .i64 o.a, .int .i64 o.b, .int .i64 o.x.value, .bool o.x.counts, .int .i64 o.x.flags, .bool o.other] 68)) [.int .i64 0, .int .i64 0] 71; simpa using this
  have hT : ∀ i, ¬ T (H.size + i) := fun i h => by have := hM.lt h; omega
  have eq : Sq.toldQ S o.kind o.a o.b o.x true = (((S.getQ o.a).1.value, (S.getQ o.a).2), S) := by unfold Sq.toldQ Sq.secondQ firstQ; simp [hk]
  rw [eq] at fin
  refine call34 (by simp) ?_
  simp only [Try.f34, Option.getD_some]
  repeat' (first
    | (with_reducible first | refine seq_normal ?_ | (refine hK _ _ ?_; clear hK K) | refine x_seq (fun K hK => ?_) | refine x_nil ?_ | refine x_block ?_ | refine x_skip ?_ | refine x_exit ?_ | refine x_ret ?_ | refine x_label ?_ | refine x_scope ?_ | (refine seq_ret ?_; clear hK K) | (refine seq_exit ?_; clear hK K) | refine block_normal ?_ | refine block_ret ?_ | refine block_exit ?_ | refine loop_exit ?_ | refine loop_ret ?_)
    | ((with_reducible refine x_reg_lit ?hq ?_); case hq => rfl)
    | ((first | (with_reducible first | refine x_op (fun K hK => ?_) | refine end_ret ?_ | refine end_normal ?_) | ((with_reducible refine x_guard_yes ?hy (fun K hK => ?_)); case hy => rfl)); simp only [go_sem, Int.cast_ofNat_Int, Nat.reduceEqDiff, Nat.reduceAdd, Nat.reduceMul, Nat.reduceLeDiff, Nat.reduceLT, Int.reduceLT, Int.reduceLE, Int.reduceEq, Int.reduceNeg, Int.reduceToNat, Nat.reducePow, reduceIte, reduceCtorEq, OpR.val, g1, g2, g3, g4, g5, g6, g7, g8, g9, g10, g11, hcell_push, hcell_top, okW_push, okW_top, hcell_hset_ne, hcell_hset_off, hcell_hset_eq, okW_hset, hset_size, Array.size_push, Nat.lt_add_one, ne_add_one, add_one_ne, Nat.add_assoc, add_same, add_lt_same, Nat.reduceEqDiff, lt_add_k, add_k_ne, ne_add_k])
    | ((with_reducible first | refine x_guard_no ?hy ?_ | refine x_cond_true ?hy ?_); case hy => rfl)
    | ((with_reducible first | refine x_guard_none ?hy ?_ | refine x_cond_false ?hy ?_); case hy => rfl)
    | ((with_reducible refine block_exit_ne ?hy ?_); case hy => decide))
  rw [← hH1]
  refine q_get hM0 ?_
  intro H2 hF2 hf2
  have hb42 := hb4.frame hf2 (hT 0)
  have hb62 := hb6.frame hf2 (hT 1)
  have hf02 : Fr T H H2 := (hf1.mono fun _ _ h => h.elim).trans hf2
  have hs2 := hf2.size
  have l62 := hb62.lt
  have n62 : ¬ H.size + 1 = H2.size := by omega
  have n62' : ¬ H2.size = H.size + 1 := by omega
  have n42 : ¬ H.size = H2.size := by omega
  have l42 := hb42.lt
  have q0 := hb42.cellOf (i := 0) rfl
  obtain ⟨w0, w1⟩ := two_new hb62 (n := 0) (e := 0)
  repeat' (first
    | (with_reducible first | refine seq_normal ?_ | (refine hK _ _ ?_; clear hK K) | refine x_seq (fun K hK => ?_) | refine x_nil ?_ | refine x_block ?_ | refine x_skip ?_ | refine x_exit ?_ | refine x_ret ?_ | refine x_label ?_ | refine x_scope ?_ | (refine seq_ret ?_; clear hK K) | (refine seq_exit ?_; clear hK K) | refine block_normal ?_ | refine block_ret ?_ | refine block_exit ?_ | refine loop_exit ?_ | refine loop_ret ?_)
    | ((with_reducible refine x_reg_lit ?hq ?_); case hq => rfl)
    | ((first | (with_reducible first | refine x_op (fun K hK => ?_) | refine end_ret ?_ | refine end_normal ?_) | ((with_reducible refine x_guard_yes ?hy (fun K hK => ?_)); case hy => rfl)); simp only [go_sem, Int.cast_ofNat_Int, Nat.reduceEqDiff, Nat.reduceAdd, Nat.reduceMul, Nat.reduceLeDiff, Nat.reduceLT, Int.reduceLT, Int.reduceLE, Int.reduceEq, Int.reduceNeg, Int.reduceToNat, Nat.reducePow, reduceIte, reduceCtorEq, Sp.Item.val, Agg.val, g1, g2, g3, g4, g5, g6, g7, g8, g9, g10, g11, q0, w0, w1, l62, n62, n62', n42, l42, hcell_hset_eq, hcell_push, hcell_top, okW_push, okW_top, hcell_hset_ne, hcell_hset_off, hcell_hset_eq, okW_hset, hset_size, Array.size_push, Nat.lt_add_one, ne_add_one, add_one_ne, Nat.add_assoc, add_same, add_lt_same, Nat.reduceEqDiff, lt_add_k, add_k_ne, ne_add_k])
    | ((with_reducible first | refine x_guard_no ?hy ?_ | refine x_cond_true ?hy ?_); case hy => rfl)
    | ((with_reducible first | refine x_guard_none ?hy ?_ | refine x_cond_false ?hy ?_); case hy => rfl)
    | ((with_reducible refine block_exit_ne ?hy ?_); case hy => decide))
  refine fin _ T (hF2.frame (T0 := fun b => b = H.size + 1 ∨ H2.size ≤ b) ?_ fun b hb e => ?_) (hf02.trans' (S' := fun b => b = H.size + 1 ∨ H2.size ≤ b) ?_ fun b hb e => by omega) fun b hb => .inl hb
  · (repeat (first | refine Fr.set ?_ (by simp) _ | refine Fr.push ?_ _)); exact Fr.refl _ _
  · rcases e with rfl | e
    · exact hT 1 hb
    · have := hF2.lt hb; omega
  · (repeat (first | refine Fr.set ?_ (by simp) _ | refine Fr.push ?_ _)); exact Fr.refl _ _
theorem told_7_yes_true {o : OpR} (hM : FoM H f T S) (ho : o.Fit) (hk : o.kind = 7) (hs : (S.sameQ o.a o.b).1 = true) (fin : ∀ H' T', FoM H' f T' (Sq.toldQ S o.kind o.a o.b o.x true).2 → Fr T H H' → (∀ b, T' b → T b ∨ H.size ≤ b) → K (.agg #[.int .i64 (Sq.toldQ S o.kind o.a o.b o.x true).1.1, .int .i64 (Sq.toldQ S o.kind o.a o.b o.x true).1.2]) H') :
    CallsH Try.prog 34 #[.pointer (some ⟨f, 0, none⟩), o.val, .bool true] H K := by
  have g1 : (o.kind == 1) = false := by rw [hk]; rfl
  have g2 : (o.kind == 2) = false := by rw [hk]; rfl
  have g3 : (o.kind == 3) = false := by rw [hk]; rfl
  have g4 : (o.kind == 4) = false := by rw [hk]; rfl
  have g5 : (o.kind == 5) = false := by rw [hk]; rfl
  have g6 : (o.kind == 6) = false := by rw [hk]; rfl
  have g7 : (o.kind == 7) = true := by simp [hk]
  have g8 : (o.kind == 8) = false := by rw [hk]; rfl
  have g9 : (o.kind == 9) = false := by rw [hk]; rfl
  have g10 : (o.kind == 10) = false := by rw [hk]; rfl
  have g11 : (o.kind == 11) = false := by rw [hk]; rfl
  obtain ⟨H1, hH1⟩ : ∃ H1, H1 = (H.push (.cells #[.int .i64 o.kind, .int .i64 o.a, .int .i64 o.b, .int .i64 o.x.value, .bool o.x.counts, .int .i64 o.x.flags, .bool o.other] 68)).push (.cells #[.int .i64 0, .int .i64 0] 71) := ⟨_, rfl⟩
  have hf1 : Fr (fun _ => False) H H1 := by rw [hH1]; exact (by ((repeat (first | refine Fr.set ?_ (by simp) _ | refine Fr.push ?_ _)); exact Fr.refl _ _))
  have hM0 := hM.grow hf1
  have hs1 : H1.size = H.size + 2 := by rw [hH1]; simp
  have hb4 : Blk H1 H.size o.cells := by rw [hH1]; exact (Blk.new H o.cells _).push _
  have hb6 : Blk H1 (H.size + 1) [.int .i64 0, .int .i64 0] := by rw [hH1]; have := Blk.new (H.push (.cells #[.int .i64 o.kind, .int .i64 o.a, .int .i64 o.b, .int .i64 o.x.value, .bool o.x.counts, .int .i64 o.x.flags, .bool o.other] 68)) [.int .i64 0, .int .i64 0] 71; simpa using this
  have hT : ∀ i, ¬ T (H.size + i) := fun i h => by have := hM.lt h; omega
  have eq : Sq.toldQ S o.kind o.a o.b o.x true = ((1, (S.sameQ o.a o.b).2), S) := by unfold Sq.toldQ Sq.secondQ firstQ; simp [hk, hs]
  rw [eq] at fin
  refine call34 (by simp) ?_
  simp only [Try.f34, Option.getD_some]
  repeat' (first
    | (with_reducible first | refine seq_normal ?_ | (refine hK _ _ ?_; clear hK K) | refine x_seq (fun K hK => ?_) | refine x_nil ?_ | refine x_block ?_ | refine x_skip ?_ | refine x_exit ?_ | refine x_ret ?_ | refine x_label ?_ | refine x_scope ?_ | (refine seq_ret ?_; clear hK K) | (refine seq_exit ?_; clear hK K) | refine block_normal ?_ | refine block_ret ?_ | refine block_exit ?_ | refine loop_exit ?_ | refine loop_ret ?_)
    | ((with_reducible refine x_reg_lit ?hq ?_); case hq => rfl)
    | ((first | (with_reducible first | refine x_op (fun K hK => ?_) | refine end_ret ?_ | refine end_normal ?_) | ((with_reducible refine x_guard_yes ?hy (fun K hK => ?_)); case hy => rfl)); simp only [go_sem, Int.cast_ofNat_Int, Nat.reduceEqDiff, Nat.reduceAdd, Nat.reduceMul, Nat.reduceLeDiff, Nat.reduceLT, Int.reduceLT, Int.reduceLE, Int.reduceEq, Int.reduceNeg, Int.reduceToNat, Nat.reducePow, reduceIte, reduceCtorEq, OpR.val, g1, g2, g3, g4, g5, g6, g7, g8, g9, g10, g11, hcell_push, hcell_top, okW_push, okW_top, hcell_hset_ne, hcell_hset_off, hcell_hset_eq, okW_hset, hset_size, Array.size_push, Nat.lt_add_one, ne_add_one, add_one_ne, Nat.add_assoc, add_same, add_lt_same, Nat.reduceEqDiff, lt_add_k, add_k_ne, ne_add_k])
    | ((with_reducible first | refine x_guard_no ?hy ?_ | refine x_cond_true ?hy ?_); case hy => rfl)
    | ((with_reducible first | refine x_guard_none ?hy ?_ | refine x_cond_false ?hy ?_); case hy => rfl)
    | ((with_reducible refine block_exit_ne ?hy ?_); case hy => decide))
  rw [← hH1]
  refine q_same hM0 ?_
  intro H2 hF2 hf2
  rw [hs]
  have hb42 := hb4.frame hf2 (hT 0)
  have hb62 := hb6.frame hf2 (hT 1)
  have hf02 : Fr T H H2 := (hf1.mono fun _ _ h => h.elim).trans hf2
  have hs2 := hf2.size
  have l62 := hb62.lt
  have n62 : ¬ H.size + 1 = H2.size := by omega
  have n62' : ¬ H2.size = H.size + 1 := by omega
  have n42 : ¬ H.size = H2.size := by omega
  have l42 := hb42.lt
  have q0 := hb42.cellOf (i := 0) rfl
  obtain ⟨w0, w1⟩ := two_new hb62 (n := 0) (e := 0)
  repeat' (first
    | (with_reducible first | refine seq_normal ?_ | (refine hK _ _ ?_; clear hK K) | refine x_seq (fun K hK => ?_) | refine x_nil ?_ | refine x_block ?_ | refine x_skip ?_ | refine x_exit ?_ | refine x_ret ?_ | refine x_label ?_ | refine x_scope ?_ | (refine seq_ret ?_; clear hK K) | (refine seq_exit ?_; clear hK K) | refine block_normal ?_ | refine block_ret ?_ | refine block_exit ?_ | refine loop_exit ?_ | refine loop_ret ?_)
    | ((with_reducible refine x_reg_lit ?hq ?_); case hq => rfl)
    | ((first | (with_reducible first | refine x_op (fun K hK => ?_) | refine end_ret ?_ | refine end_normal ?_) | ((with_reducible refine x_guard_yes ?hy (fun K hK => ?_)); case hy => rfl)); simp only [go_sem, Int.cast_ofNat_Int, Nat.reduceEqDiff, Nat.reduceAdd, Nat.reduceMul, Nat.reduceLeDiff, Nat.reduceLT, Int.reduceLT, Int.reduceLE, Int.reduceEq, Int.reduceNeg, Int.reduceToNat, Nat.reducePow, reduceIte, reduceCtorEq, Sp.Item.val, Agg.val, g1, g2, g3, g4, g5, g6, g7, g8, g9, g10, g11, q0, w0, w1, l62, n62, n62', n42, l42, hcell_hset_eq, hcell_push, hcell_top, okW_push, okW_top, hcell_hset_ne, hcell_hset_off, hcell_hset_eq, okW_hset, hset_size, Array.size_push, Nat.lt_add_one, ne_add_one, add_one_ne, Nat.add_assoc, add_same, add_lt_same, Nat.reduceEqDiff, lt_add_k, add_k_ne, ne_add_k])
    | ((with_reducible first | refine x_guard_no ?hy ?_ | refine x_cond_true ?hy ?_); case hy => rfl)
    | ((with_reducible first | refine x_guard_none ?hy ?_ | refine x_cond_false ?hy ?_); case hy => rfl)
    | ((with_reducible refine block_exit_ne ?hy ?_); case hy => decide))
  refine fin _ T (hF2.frame (T0 := fun b => b = H.size + 1 ∨ H2.size ≤ b) ?_ fun b hb e => ?_) (hf02.trans' (S' := fun b => b = H.size + 1 ∨ H2.size ≤ b) ?_ fun b hb e => by omega) fun b hb => .inl hb
  · (repeat (first | refine Fr.set ?_ (by simp) _ | refine Fr.push ?_ _)); exact Fr.refl _ _
  · rcases e with rfl | e
    · exact hT 1 hb
    · have := hF2.lt hb; omega
  · (repeat (first | refine Fr.set ?_ (by simp) _ | refine Fr.push ?_ _)); exact Fr.refl _ _
theorem told_7_yes_false {o : OpR} (hM : FoM H f T S) (ho : o.Fit) (hk : o.kind = 7) (hs : (S.sameQ o.a o.b).1 = false) (fin : ∀ H' T', FoM H' f T' (Sq.toldQ S o.kind o.a o.b o.x true).2 → Fr T H H' → (∀ b, T' b → T b ∨ H.size ≤ b) → K (.agg #[.int .i64 (Sq.toldQ S o.kind o.a o.b o.x true).1.1, .int .i64 (Sq.toldQ S o.kind o.a o.b o.x true).1.2]) H') :
    CallsH Try.prog 34 #[.pointer (some ⟨f, 0, none⟩), o.val, .bool true] H K := by
  have g1 : (o.kind == 1) = false := by rw [hk]; rfl
  have g2 : (o.kind == 2) = false := by rw [hk]; rfl
  have g3 : (o.kind == 3) = false := by rw [hk]; rfl
  have g4 : (o.kind == 4) = false := by rw [hk]; rfl
  have g5 : (o.kind == 5) = false := by rw [hk]; rfl
  have g6 : (o.kind == 6) = false := by rw [hk]; rfl
  have g7 : (o.kind == 7) = true := by simp [hk]
  have g8 : (o.kind == 8) = false := by rw [hk]; rfl
  have g9 : (o.kind == 9) = false := by rw [hk]; rfl
  have g10 : (o.kind == 10) = false := by rw [hk]; rfl
  have g11 : (o.kind == 11) = false := by rw [hk]; rfl
  obtain ⟨H1, hH1⟩ : ∃ H1, H1 = (H.push (.cells #[.int .i64 o.kind, .int .i64 o.a, .int .i64 o.b, .int .i64 o.x.value, .bool o.x.counts, .int .i64 o.x.flags, .bool o.other] 68)).push (.cells #[.int .i64 0, .int .i64 0] 71) := ⟨_, rfl⟩
  have hf1 : Fr (fun _ => False) H H1 := by rw [hH1]; exact (by ((repeat (first | refine Fr.set ?_ (by simp) _ | refine Fr.push ?_ _)); exact Fr.refl _ _))
  have hM0 := hM.grow hf1
  have hs1 : H1.size = H.size + 2 := by rw [hH1]; simp
  have hb4 : Blk H1 H.size o.cells := by rw [hH1]; exact (Blk.new H o.cells _).push _
  have hb6 : Blk H1 (H.size + 1) [.int .i64 0, .int .i64 0] := by rw [hH1]; have := Blk.new (H.push (.cells #[.int .i64 o.kind, .int .i64 o.a, .int .i64 o.b, .int .i64 o.x.value, .bool o.x.counts, .int .i64 o.x.flags, .bool o.other] 68)) [.int .i64 0, .int .i64 0] 71; simpa using this
  have hT : ∀ i, ¬ T (H.size + i) := fun i h => by have := hM.lt h; omega
  have eq : Sq.toldQ S o.kind o.a o.b o.x true = ((0, (S.sameQ o.a o.b).2), S) := by unfold Sq.toldQ Sq.secondQ firstQ; simp [hk, hs]
  rw [eq] at fin
  refine call34 (by simp) ?_
  simp only [Try.f34, Option.getD_some]
  repeat' (first
    | (with_reducible first | refine seq_normal ?_ | (refine hK _ _ ?_; clear hK K) | refine x_seq (fun K hK => ?_) | refine x_nil ?_ | refine x_block ?_ | refine x_skip ?_ | refine x_exit ?_ | refine x_ret ?_ | refine x_label ?_ | refine x_scope ?_ | (refine seq_ret ?_; clear hK K) | (refine seq_exit ?_; clear hK K) | refine block_normal ?_ | refine block_ret ?_ | refine block_exit ?_ | refine loop_exit ?_ | refine loop_ret ?_)
    | ((with_reducible refine x_reg_lit ?hq ?_); case hq => rfl)
    | ((first | (with_reducible first | refine x_op (fun K hK => ?_) | refine end_ret ?_ | refine end_normal ?_) | ((with_reducible refine x_guard_yes ?hy (fun K hK => ?_)); case hy => rfl)); simp only [go_sem, Int.cast_ofNat_Int, Nat.reduceEqDiff, Nat.reduceAdd, Nat.reduceMul, Nat.reduceLeDiff, Nat.reduceLT, Int.reduceLT, Int.reduceLE, Int.reduceEq, Int.reduceNeg, Int.reduceToNat, Nat.reducePow, reduceIte, reduceCtorEq, OpR.val, g1, g2, g3, g4, g5, g6, g7, g8, g9, g10, g11, hcell_push, hcell_top, okW_push, okW_top, hcell_hset_ne, hcell_hset_off, hcell_hset_eq, okW_hset, hset_size, Array.size_push, Nat.lt_add_one, ne_add_one, add_one_ne, Nat.add_assoc, add_same, add_lt_same, Nat.reduceEqDiff, lt_add_k, add_k_ne, ne_add_k])
    | ((with_reducible first | refine x_guard_no ?hy ?_ | refine x_cond_true ?hy ?_); case hy => rfl)
    | ((with_reducible first | refine x_guard_none ?hy ?_ | refine x_cond_false ?hy ?_); case hy => rfl)
    | ((with_reducible refine block_exit_ne ?hy ?_); case hy => decide))
  rw [← hH1]
  refine q_same hM0 ?_
  intro H2 hF2 hf2
  rw [hs]
  have hb42 := hb4.frame hf2 (hT 0)
  have hb62 := hb6.frame hf2 (hT 1)
  have hf02 : Fr T H H2 := (hf1.mono fun _ _ h => h.elim).trans hf2
  have hs2 := hf2.size
  have l62 := hb62.lt
  have n62 : ¬ H.size + 1 = H2.size := by omega
  have n62' : ¬ H2.size = H.size + 1 := by omega
  have n42 : ¬ H.size = H2.size := by omega
  have l42 := hb42.lt
  have q0 := hb42.cellOf (i := 0) rfl
  obtain ⟨w0, w1⟩ := two_new hb62 (n := 0) (e := 0)
  repeat' (first
    | (with_reducible first | refine seq_normal ?_ | (refine hK _ _ ?_; clear hK K) | refine x_seq (fun K hK => ?_) | refine x_nil ?_ | refine x_block ?_ | refine x_skip ?_ | refine x_exit ?_ | refine x_ret ?_ | refine x_label ?_ | refine x_scope ?_ | (refine seq_ret ?_; clear hK K) | (refine seq_exit ?_; clear hK K) | refine block_normal ?_ | refine block_ret ?_ | refine block_exit ?_ | refine loop_exit ?_ | refine loop_ret ?_)
    | ((with_reducible refine x_reg_lit ?hq ?_); case hq => rfl)
    | ((first | (with_reducible first | refine x_op (fun K hK => ?_) | refine end_ret ?_ | refine end_normal ?_) | ((with_reducible refine x_guard_yes ?hy (fun K hK => ?_)); case hy => rfl)); simp only [go_sem, Int.cast_ofNat_Int, Nat.reduceEqDiff, Nat.reduceAdd, Nat.reduceMul, Nat.reduceLeDiff, Nat.reduceLT, Int.reduceLT, Int.reduceLE, Int.reduceEq, Int.reduceNeg, Int.reduceToNat, Nat.reducePow, reduceIte, reduceCtorEq, Sp.Item.val, Agg.val, g1, g2, g3, g4, g5, g6, g7, g8, g9, g10, g11, q0, w0, w1, l62, n62, n62', n42, l42, hcell_hset_eq, hcell_push, hcell_top, okW_push, okW_top, hcell_hset_ne, hcell_hset_off, hcell_hset_eq, okW_hset, hset_size, Array.size_push, Nat.lt_add_one, ne_add_one, add_one_ne, Nat.add_assoc, add_same, add_lt_same, Nat.reduceEqDiff, lt_add_k, add_k_ne, ne_add_k])
    | ((with_reducible first | refine x_guard_no ?hy ?_ | refine x_cond_true ?hy ?_); case hy => rfl)
    | ((with_reducible first | refine x_guard_none ?hy ?_ | refine x_cond_false ?hy ?_); case hy => rfl)
    | ((with_reducible refine block_exit_ne ?hy ?_); case hy => decide))
  refine fin _ T (hF2.frame (T0 := fun b => b = H.size + 1 ∨ H2.size ≤ b) ?_ fun b hb e => ?_) (hf02.trans' (S' := fun b => b = H.size + 1 ∨ H2.size ≤ b) ?_ fun b hb e => by omega) fun b hb => .inl hb
  · (repeat (first | refine Fr.set ?_ (by simp) _ | refine Fr.push ?_ _)); exact Fr.refl _ _
  · rcases e with rfl | e
    · exact hT 1 hb
    · have := hF2.lt hb; omega
  · (repeat (first | refine Fr.set ?_ (by simp) _ | refine Fr.push ?_ _)); exact Fr.refl _ _
theorem told_8_yes {o : OpR} (hM : FoM H f T S) (ho : o.Fit) (hk : o.kind = 8) (fin : ∀ H' T', FoM H' f T' (Sq.toldQ S o.kind o.a o.b o.x true).2 → Fr T H H' → (∀ b, T' b → T b ∨ H.size ≤ b) → K (.agg #[.int .i64 (Sq.toldQ S o.kind o.a o.b o.x true).1.1, .int .i64 (Sq.toldQ S o.kind o.a o.b o.x true).1.2]) H') :
    CallsH Try.prog 34 #[.pointer (some ⟨f, 0, none⟩), o.val, .bool true] H K := by
  have g1 : (o.kind == 1) = false := by rw [hk]; rfl
  have g2 : (o.kind == 2) = false := by rw [hk]; rfl
  have g3 : (o.kind == 3) = false := by rw [hk]; rfl
  have g4 : (o.kind == 4) = false := by rw [hk]; rfl
  have g5 : (o.kind == 5) = false := by rw [hk]; rfl
  have g6 : (o.kind == 6) = false := by rw [hk]; rfl
  have g7 : (o.kind == 7) = false := by rw [hk]; rfl
  have g8 : (o.kind == 8) = true := by simp [hk]
  have g9 : (o.kind == 9) = false := by rw [hk]; rfl
  have g10 : (o.kind == 10) = false := by rw [hk]; rfl
  have g11 : (o.kind == 11) = false := by rw [hk]; rfl
  obtain ⟨H1, hH1⟩ : ∃ H1, H1 = (H.push (.cells #[.int .i64 o.kind, .int .i64 o.a, .int .i64 o.b, .int .i64 o.x.value, .bool o.x.counts, .int .i64 o.x.flags, .bool o.other] 68)).push (.cells #[.int .i64 0, .int .i64 0] 71) := ⟨_, rfl⟩
  have hf1 : Fr (fun _ => False) H H1 := by rw [hH1]; exact (by ((repeat (first | refine Fr.set ?_ (by simp) _ | refine Fr.push ?_ _)); exact Fr.refl _ _))
  have hM0 := hM.grow hf1
  have hs1 : H1.size = H.size + 2 := by rw [hH1]; simp
  have hb4 : Blk H1 H.size o.cells := by rw [hH1]; exact (Blk.new H o.cells _).push _
  have hb6 : Blk H1 (H.size + 1) [.int .i64 0, .int .i64 0] := by rw [hH1]; have := Blk.new (H.push (.cells #[.int .i64 o.kind, .int .i64 o.a, .int .i64 o.b, .int .i64 o.x.value, .bool o.x.counts, .int .i64 o.x.flags, .bool o.other] 68)) [.int .i64 0, .int .i64 0] 71; simpa using this
  have hT : ∀ i, ¬ T (H.size + i) := fun i h => by have := hM.lt h; omega
  have eq : Sq.toldQ S o.kind o.a o.b o.x true = (S.rankQ o.a, S) := by unfold Sq.toldQ Sq.secondQ firstQ; simp [hk]
  rw [eq] at fin
  refine call34 (by simp) ?_
  simp only [Try.f34, Option.getD_some]
  repeat' (first
    | (with_reducible first | refine seq_normal ?_ | (refine hK _ _ ?_; clear hK K) | refine x_seq (fun K hK => ?_) | refine x_nil ?_ | refine x_block ?_ | refine x_skip ?_ | refine x_exit ?_ | refine x_ret ?_ | refine x_label ?_ | refine x_scope ?_ | (refine seq_ret ?_; clear hK K) | (refine seq_exit ?_; clear hK K) | refine block_normal ?_ | refine block_ret ?_ | refine block_exit ?_ | refine loop_exit ?_ | refine loop_ret ?_)
    | ((with_reducible refine x_reg_lit ?hq ?_); case hq => rfl)
    | ((first | (with_reducible first | refine x_op (fun K hK => ?_) | refine end_ret ?_ | refine end_normal ?_) | ((with_reducible refine x_guard_yes ?hy (fun K hK => ?_)); case hy => rfl)); simp only [go_sem, Int.cast_ofNat_Int, Nat.reduceEqDiff, Nat.reduceAdd, Nat.reduceMul, Nat.reduceLeDiff, Nat.reduceLT, Int.reduceLT, Int.reduceLE, Int.reduceEq, Int.reduceNeg, Int.reduceToNat, Nat.reducePow, reduceIte, reduceCtorEq, OpR.val, g1, g2, g3, g4, g5, g6, g7, g8, g9, g10, g11, hcell_push, hcell_top, okW_push, okW_top, hcell_hset_ne, hcell_hset_off, hcell_hset_eq, okW_hset, hset_size, Array.size_push, Nat.lt_add_one, ne_add_one, add_one_ne, Nat.add_assoc, add_same, add_lt_same, Nat.reduceEqDiff, lt_add_k, add_k_ne, ne_add_k])
    | ((with_reducible first | refine x_guard_no ?hy ?_ | refine x_cond_true ?hy ?_); case hy => rfl)
    | ((with_reducible first | refine x_guard_none ?hy ?_ | refine x_cond_false ?hy ?_); case hy => rfl)
    | ((with_reducible refine block_exit_ne ?hy ?_); case hy => decide))
  rw [← hH1]
  refine q_rank hM0 ?_
  intro H2 hF2 hf2
  have hb42 := hb4.frame hf2 (hT 0)
  have hb62 := hb6.frame hf2 (hT 1)
  have hf02 : Fr T H H2 := (hf1.mono fun _ _ h => h.elim).trans hf2
  have hs2 := hf2.size
  have l62 := hb62.lt
  have n62 : ¬ H.size + 1 = H2.size := by omega
  have n62' : ¬ H2.size = H.size + 1 := by omega
  have n42 : ¬ H.size = H2.size := by omega
  have l42 := hb42.lt
  have q0 := hb42.cellOf (i := 0) rfl
  obtain ⟨w0, w1⟩ := two_new hb62 (n := 0) (e := 0)
  repeat' (first
    | (with_reducible first | refine seq_normal ?_ | (refine hK _ _ ?_; clear hK K) | refine x_seq (fun K hK => ?_) | refine x_nil ?_ | refine x_block ?_ | refine x_skip ?_ | refine x_exit ?_ | refine x_ret ?_ | refine x_label ?_ | refine x_scope ?_ | (refine seq_ret ?_; clear hK K) | (refine seq_exit ?_; clear hK K) | refine block_normal ?_ | refine block_ret ?_ | refine block_exit ?_ | refine loop_exit ?_ | refine loop_ret ?_)
    | ((with_reducible refine x_reg_lit ?hq ?_); case hq => rfl)
    | ((first | (with_reducible first | refine x_op (fun K hK => ?_) | refine end_ret ?_ | refine end_normal ?_) | ((with_reducible refine x_guard_yes ?hy (fun K hK => ?_)); case hy => rfl)); simp only [go_sem, Int.cast_ofNat_Int, Nat.reduceEqDiff, Nat.reduceAdd, Nat.reduceMul, Nat.reduceLeDiff, Nat.reduceLT, Int.reduceLT, Int.reduceLE, Int.reduceEq, Int.reduceNeg, Int.reduceToNat, Nat.reducePow, reduceIte, reduceCtorEq, Sp.Item.val, Agg.val, g1, g2, g3, g4, g5, g6, g7, g8, g9, g10, g11, q0, w0, w1, l62, n62, n62', n42, l42, hcell_hset_eq, hcell_push, hcell_top, okW_push, okW_top, hcell_hset_ne, hcell_hset_off, hcell_hset_eq, okW_hset, hset_size, Array.size_push, Nat.lt_add_one, ne_add_one, add_one_ne, Nat.add_assoc, add_same, add_lt_same, Nat.reduceEqDiff, lt_add_k, add_k_ne, ne_add_k])
    | ((with_reducible first | refine x_guard_no ?hy ?_ | refine x_cond_true ?hy ?_); case hy => rfl)
    | ((with_reducible first | refine x_guard_none ?hy ?_ | refine x_cond_false ?hy ?_); case hy => rfl)
    | ((with_reducible refine block_exit_ne ?hy ?_); case hy => decide))
  refine fin _ T (hF2.frame (T0 := fun b => b = H.size + 1 ∨ H2.size ≤ b) ?_ fun b hb e => ?_) (hf02.trans' (S' := fun b => b = H.size + 1 ∨ H2.size ≤ b) ?_ fun b hb e => by omega) fun b hb => .inl hb
  · (repeat (first | refine Fr.set ?_ (by simp) _ | refine Fr.push ?_ _)); exact Fr.refl _ _
  · rcases e with rfl | e
    · exact hT 1 hb
    · have := hF2.lt hb; omega
  · (repeat (first | refine Fr.set ?_ (by simp) _ | refine Fr.push ?_ _)); exact Fr.refl _ _
theorem told_9_yes {o : OpR} (hM : FoM H f T S) (ho : o.Fit) (hk : o.kind = 9) (fin : ∀ H' T', FoM H' f T' (Sq.toldQ S o.kind o.a o.b o.x true).2 → Fr T H H' → (∀ b, T' b → T b ∨ H.size ≤ b) → K (.agg #[.int .i64 (Sq.toldQ S o.kind o.a o.b o.x true).1.1, .int .i64 (Sq.toldQ S o.kind o.a o.b o.x true).1.2]) H') :
    CallsH Try.prog 34 #[.pointer (some ⟨f, 0, none⟩), o.val, .bool true] H K := by
  have g1 : (o.kind == 1) = false := by rw [hk]; rfl
  have g2 : (o.kind == 2) = false := by rw [hk]; rfl
  have g3 : (o.kind == 3) = false := by rw [hk]; rfl
  have g4 : (o.kind == 4) = false := by rw [hk]; rfl
  have g5 : (o.kind == 5) = false := by rw [hk]; rfl
  have g6 : (o.kind == 6) = false := by rw [hk]; rfl
  have g7 : (o.kind == 7) = false := by rw [hk]; rfl
  have g8 : (o.kind == 8) = false := by rw [hk]; rfl
  have g9 : (o.kind == 9) = true := by simp [hk]
  have g10 : (o.kind == 10) = false := by rw [hk]; rfl
  have g11 : (o.kind == 11) = false := by rw [hk]; rfl
  obtain ⟨H1, hH1⟩ : ∃ H1, H1 = (H.push (.cells #[.int .i64 o.kind, .int .i64 o.a, .int .i64 o.b, .int .i64 o.x.value, .bool o.x.counts, .int .i64 o.x.flags, .bool o.other] 68)).push (.cells #[.int .i64 0, .int .i64 0] 71) := ⟨_, rfl⟩
  have hf1 : Fr (fun _ => False) H H1 := by rw [hH1]; exact (by ((repeat (first | refine Fr.set ?_ (by simp) _ | refine Fr.push ?_ _)); exact Fr.refl _ _))
  have hM0 := hM.grow hf1
  have hs1 : H1.size = H.size + 2 := by rw [hH1]; simp
  have hb4 : Blk H1 H.size o.cells := by rw [hH1]; exact (Blk.new H o.cells _).push _
  have hb6 : Blk H1 (H.size + 1) [.int .i64 0, .int .i64 0] := by rw [hH1]; have := Blk.new (H.push (.cells #[.int .i64 o.kind, .int .i64 o.a, .int .i64 o.b, .int .i64 o.x.value, .bool o.x.counts, .int .i64 o.x.flags, .bool o.other] 68)) [.int .i64 0, .int .i64 0] 71; simpa using this
  have hT : ∀ i, ¬ T (H.size + i) := fun i h => by have := hM.lt h; omega
  have eq : Sq.toldQ S o.kind o.a o.b o.x true = (S.atQ o.a o.b, S) := by unfold Sq.toldQ Sq.secondQ firstQ; simp [hk]
  rw [eq] at fin
  refine call34 (by simp) ?_
  simp only [Try.f34, Option.getD_some]
  repeat' (first
    | (with_reducible first | refine seq_normal ?_ | (refine hK _ _ ?_; clear hK K) | refine x_seq (fun K hK => ?_) | refine x_nil ?_ | refine x_block ?_ | refine x_skip ?_ | refine x_exit ?_ | refine x_ret ?_ | refine x_label ?_ | refine x_scope ?_ | (refine seq_ret ?_; clear hK K) | (refine seq_exit ?_; clear hK K) | refine block_normal ?_ | refine block_ret ?_ | refine block_exit ?_ | refine loop_exit ?_ | refine loop_ret ?_)
    | ((with_reducible refine x_reg_lit ?hq ?_); case hq => rfl)
    | ((first | (with_reducible first | refine x_op (fun K hK => ?_) | refine end_ret ?_ | refine end_normal ?_) | ((with_reducible refine x_guard_yes ?hy (fun K hK => ?_)); case hy => rfl)); simp only [go_sem, Int.cast_ofNat_Int, Nat.reduceEqDiff, Nat.reduceAdd, Nat.reduceMul, Nat.reduceLeDiff, Nat.reduceLT, Int.reduceLT, Int.reduceLE, Int.reduceEq, Int.reduceNeg, Int.reduceToNat, Nat.reducePow, reduceIte, reduceCtorEq, OpR.val, g1, g2, g3, g4, g5, g6, g7, g8, g9, g10, g11, hcell_push, hcell_top, okW_push, okW_top, hcell_hset_ne, hcell_hset_off, hcell_hset_eq, okW_hset, hset_size, Array.size_push, Nat.lt_add_one, ne_add_one, add_one_ne, Nat.add_assoc, add_same, add_lt_same, Nat.reduceEqDiff, lt_add_k, add_k_ne, ne_add_k])
    | ((with_reducible first | refine x_guard_no ?hy ?_ | refine x_cond_true ?hy ?_); case hy => rfl)
    | ((with_reducible first | refine x_guard_none ?hy ?_ | refine x_cond_false ?hy ?_); case hy => rfl)
    | ((with_reducible refine block_exit_ne ?hy ?_); case hy => decide))
  rw [← hH1]
  refine q_at hM0 ?_
  intro H2 hF2 hf2
  have hb42 := hb4.frame hf2 (hT 0)
  have hb62 := hb6.frame hf2 (hT 1)
  have hf02 : Fr T H H2 := (hf1.mono fun _ _ h => h.elim).trans hf2
  have hs2 := hf2.size
  have l62 := hb62.lt
  have n62 : ¬ H.size + 1 = H2.size := by omega
  have n62' : ¬ H2.size = H.size + 1 := by omega
  have n42 : ¬ H.size = H2.size := by omega
  have l42 := hb42.lt
  have q0 := hb42.cellOf (i := 0) rfl
  obtain ⟨w0, w1⟩ := two_new hb62 (n := 0) (e := 0)
  repeat' (first
    | (with_reducible first | refine seq_normal ?_ | (refine hK _ _ ?_; clear hK K) | refine x_seq (fun K hK => ?_) | refine x_nil ?_ | refine x_block ?_ | refine x_skip ?_ | refine x_exit ?_ | refine x_ret ?_ | refine x_label ?_ | refine x_scope ?_ | (refine seq_ret ?_; clear hK K) | (refine seq_exit ?_; clear hK K) | refine block_normal ?_ | refine block_ret ?_ | refine block_exit ?_ | refine loop_exit ?_ | refine loop_ret ?_)
    | ((with_reducible refine x_reg_lit ?hq ?_); case hq => rfl)
    | ((first | (with_reducible first | refine x_op (fun K hK => ?_) | refine end_ret ?_ | refine end_normal ?_) | ((with_reducible refine x_guard_yes ?hy (fun K hK => ?_)); case hy => rfl)); simp only [go_sem, Int.cast_ofNat_Int, Nat.reduceEqDiff, Nat.reduceAdd, Nat.reduceMul, Nat.reduceLeDiff, Nat.reduceLT, Int.reduceLT, Int.reduceLE, Int.reduceEq, Int.reduceNeg, Int.reduceToNat, Nat.reducePow, reduceIte, reduceCtorEq, Sp.Item.val, Agg.val, g1, g2, g3, g4, g5, g6, g7, g8, g9, g10, g11, q0, w0, w1, l62, n62, n62', n42, l42, hcell_hset_eq, hcell_push, hcell_top, okW_push, okW_top, hcell_hset_ne, hcell_hset_off, hcell_hset_eq, okW_hset, hset_size, Array.size_push, Nat.lt_add_one, ne_add_one, add_one_ne, Nat.add_assoc, add_same, add_lt_same, Nat.reduceEqDiff, lt_add_k, add_k_ne, ne_add_k])
    | ((with_reducible first | refine x_guard_no ?hy ?_ | refine x_cond_true ?hy ?_); case hy => rfl)
    | ((with_reducible first | refine x_guard_none ?hy ?_ | refine x_cond_false ?hy ?_); case hy => rfl)
    | ((with_reducible refine block_exit_ne ?hy ?_); case hy => decide))
  refine fin _ T (hF2.frame (T0 := fun b => b = H.size + 1 ∨ H2.size ≤ b) ?_ fun b hb e => ?_) (hf02.trans' (S' := fun b => b = H.size + 1 ∨ H2.size ≤ b) ?_ fun b hb e => by omega) fun b hb => .inl hb
  · (repeat (first | refine Fr.set ?_ (by simp) _ | refine Fr.push ?_ _)); exact Fr.refl _ _
  · rcases e with rfl | e
    · exact hT 1 hb
    · have := hF2.lt hb; omega
  · (repeat (first | refine Fr.set ?_ (by simp) _ | refine Fr.push ?_ _)); exact Fr.refl _ _
theorem told_10_yes {o : OpR} (hM : FoM H f T S) (ho : o.Fit) (hk : o.kind = 10) (fin : ∀ H' T', FoM H' f T' (Sq.toldQ S o.kind o.a o.b o.x true).2 → Fr T H H' → (∀ b, T' b → T b ∨ H.size ≤ b) → K (.agg #[.int .i64 (Sq.toldQ S o.kind o.a o.b o.x true).1.1, .int .i64 (Sq.toldQ S o.kind o.a o.b o.x true).1.2]) H') :
    CallsH Try.prog 34 #[.pointer (some ⟨f, 0, none⟩), o.val, .bool true] H K := by
  have g1 : (o.kind == 1) = false := by rw [hk]; rfl
  have g2 : (o.kind == 2) = false := by rw [hk]; rfl
  have g3 : (o.kind == 3) = false := by rw [hk]; rfl
  have g4 : (o.kind == 4) = false := by rw [hk]; rfl
  have g5 : (o.kind == 5) = false := by rw [hk]; rfl
  have g6 : (o.kind == 6) = false := by rw [hk]; rfl
  have g7 : (o.kind == 7) = false := by rw [hk]; rfl
  have g8 : (o.kind == 8) = false := by rw [hk]; rfl
  have g9 : (o.kind == 9) = false := by rw [hk]; rfl
  have g10 : (o.kind == 10) = true := by simp [hk]
  have g11 : (o.kind == 11) = false := by rw [hk]; rfl
  obtain ⟨H1, hH1⟩ : ∃ H1, H1 = (H.push (.cells #[.int .i64 o.kind, .int .i64 o.a, .int .i64 o.b, .int .i64 o.x.value, .bool o.x.counts, .int .i64 o.x.flags, .bool o.other] 68)).push (.cells #[.int .i64 0, .int .i64 0] 71) := ⟨_, rfl⟩
  have hf1 : Fr (fun _ => False) H H1 := by rw [hH1]; exact (by ((repeat (first | refine Fr.set ?_ (by simp) _ | refine Fr.push ?_ _)); exact Fr.refl _ _))
  have hM0 := hM.grow hf1
  have hs1 : H1.size = H.size + 2 := by rw [hH1]; simp
  have hb4 : Blk H1 H.size o.cells := by rw [hH1]; exact (Blk.new H o.cells _).push _
  have hb6 : Blk H1 (H.size + 1) [.int .i64 0, .int .i64 0] := by rw [hH1]; have := Blk.new (H.push (.cells #[.int .i64 o.kind, .int .i64 o.a, .int .i64 o.b, .int .i64 o.x.value, .bool o.x.counts, .int .i64 o.x.flags, .bool o.other] 68)) [.int .i64 0, .int .i64 0] 71; simpa using this
  have hT : ∀ i, ¬ T (H.size + i) := fun i h => by have := hM.lt h; omega
  have eq : Sq.toldQ S o.kind o.a o.b o.x true = (((S.sumQ o.a).1.sum, (S.sumQ o.a).2), S) := by unfold Sq.toldQ Sq.secondQ firstQ; simp [hk]
  rw [eq] at fin
  refine call34 (by simp) ?_
  simp only [Try.f34, Option.getD_some]
  repeat' (first
    | (with_reducible first | refine seq_normal ?_ | (refine hK _ _ ?_; clear hK K) | refine x_seq (fun K hK => ?_) | refine x_nil ?_ | refine x_block ?_ | refine x_skip ?_ | refine x_exit ?_ | refine x_ret ?_ | refine x_label ?_ | refine x_scope ?_ | (refine seq_ret ?_; clear hK K) | (refine seq_exit ?_; clear hK K) | refine block_normal ?_ | refine block_ret ?_ | refine block_exit ?_ | refine loop_exit ?_ | refine loop_ret ?_)
    | ((with_reducible refine x_reg_lit ?hq ?_); case hq => rfl)
    | ((first | (with_reducible first | refine x_op (fun K hK => ?_) | refine end_ret ?_ | refine end_normal ?_) | ((with_reducible refine x_guard_yes ?hy (fun K hK => ?_)); case hy => rfl)); simp only [go_sem, Int.cast_ofNat_Int, Nat.reduceEqDiff, Nat.reduceAdd, Nat.reduceMul, Nat.reduceLeDiff, Nat.reduceLT, Int.reduceLT, Int.reduceLE, Int.reduceEq, Int.reduceNeg, Int.reduceToNat, Nat.reducePow, reduceIte, reduceCtorEq, OpR.val, g1, g2, g3, g4, g5, g6, g7, g8, g9, g10, g11, hcell_push, hcell_top, okW_push, okW_top, hcell_hset_ne, hcell_hset_off, hcell_hset_eq, okW_hset, hset_size, Array.size_push, Nat.lt_add_one, ne_add_one, add_one_ne, Nat.add_assoc, add_same, add_lt_same, Nat.reduceEqDiff, lt_add_k, add_k_ne, ne_add_k])
    | ((with_reducible first | refine x_guard_no ?hy ?_ | refine x_cond_true ?hy ?_); case hy => rfl)
    | ((with_reducible first | refine x_guard_none ?hy ?_ | refine x_cond_false ?hy ?_); case hy => rfl)
    | ((with_reducible refine block_exit_ne ?hy ?_); case hy => decide))
  rw [← hH1]
  refine q_sum hM0 ?_
  intro H2 hF2 hf2
  have hb42 := hb4.frame hf2 (hT 0)
  have hb62 := hb6.frame hf2 (hT 1)
  have hf02 : Fr T H H2 := (hf1.mono fun _ _ h => h.elim).trans hf2
  have hs2 := hf2.size
  have l62 := hb62.lt
  have n62 : ¬ H.size + 1 = H2.size := by omega
  have n62' : ¬ H2.size = H.size + 1 := by omega
  have n42 : ¬ H.size = H2.size := by omega
  have l42 := hb42.lt
  have q0 := hb42.cellOf (i := 0) rfl
  obtain ⟨w0, w1⟩ := two_new hb62 (n := 0) (e := 0)
  repeat' (first
    | (with_reducible first | refine seq_normal ?_ | (refine hK _ _ ?_; clear hK K) | refine x_seq (fun K hK => ?_) | refine x_nil ?_ | refine x_block ?_ | refine x_skip ?_ | refine x_exit ?_ | refine x_ret ?_ | refine x_label ?_ | refine x_scope ?_ | (refine seq_ret ?_; clear hK K) | (refine seq_exit ?_; clear hK K) | refine block_normal ?_ | refine block_ret ?_ | refine block_exit ?_ | refine loop_exit ?_ | refine loop_ret ?_)
    | ((with_reducible refine x_reg_lit ?hq ?_); case hq => rfl)
    | ((first | (with_reducible first | refine x_op (fun K hK => ?_) | refine end_ret ?_ | refine end_normal ?_) | ((with_reducible refine x_guard_yes ?hy (fun K hK => ?_)); case hy => rfl)); simp only [go_sem, Int.cast_ofNat_Int, Nat.reduceEqDiff, Nat.reduceAdd, Nat.reduceMul, Nat.reduceLeDiff, Nat.reduceLT, Int.reduceLT, Int.reduceLE, Int.reduceEq, Int.reduceNeg, Int.reduceToNat, Nat.reducePow, reduceIte, reduceCtorEq, Sp.Item.val, Agg.val, g1, g2, g3, g4, g5, g6, g7, g8, g9, g10, g11, q0, w0, w1, l62, n62, n62', n42, l42, hcell_hset_eq, hcell_push, hcell_top, okW_push, okW_top, hcell_hset_ne, hcell_hset_off, hcell_hset_eq, okW_hset, hset_size, Array.size_push, Nat.lt_add_one, ne_add_one, add_one_ne, Nat.add_assoc, add_same, add_lt_same, Nat.reduceEqDiff, lt_add_k, add_k_ne, ne_add_k])
    | ((with_reducible first | refine x_guard_no ?hy ?_ | refine x_cond_true ?hy ?_); case hy => rfl)
    | ((with_reducible first | refine x_guard_none ?hy ?_ | refine x_cond_false ?hy ?_); case hy => rfl)
    | ((with_reducible refine block_exit_ne ?hy ?_); case hy => decide))
  refine fin _ T (hF2.frame (T0 := fun b => b = H.size + 1 ∨ H2.size ≤ b) ?_ fun b hb e => ?_) (hf02.trans' (S' := fun b => b = H.size + 1 ∨ H2.size ≤ b) ?_ fun b hb e => by omega) fun b hb => .inl hb
  · (repeat (first | refine Fr.set ?_ (by simp) _ | refine Fr.push ?_ _)); exact Fr.refl _ _
  · rcases e with rfl | e
    · exact hT 1 hb
    · have := hF2.lt hb; omega
  · (repeat (first | refine Fr.set ?_ (by simp) _ | refine Fr.push ?_ _)); exact Fr.refl _ _
theorem told_11_yes {o : OpR} (hM : FoM H f T S) (ho : o.Fit) (hk : o.kind = 11) (fin : ∀ H' T', FoM H' f T' (Sq.toldQ S o.kind o.a o.b o.x true).2 → Fr T H H' → (∀ b, T' b → T b ∨ H.size ≤ b) → K (.agg #[.int .i64 (Sq.toldQ S o.kind o.a o.b o.x true).1.1, .int .i64 (Sq.toldQ S o.kind o.a o.b o.x true).1.2]) H') :
    CallsH Try.prog 34 #[.pointer (some ⟨f, 0, none⟩), o.val, .bool true] H K := by
  have g1 : (o.kind == 1) = false := by rw [hk]; rfl
  have g2 : (o.kind == 2) = false := by rw [hk]; rfl
  have g3 : (o.kind == 3) = false := by rw [hk]; rfl
  have g4 : (o.kind == 4) = false := by rw [hk]; rfl
  have g5 : (o.kind == 5) = false := by rw [hk]; rfl
  have g6 : (o.kind == 6) = false := by rw [hk]; rfl
  have g7 : (o.kind == 7) = false := by rw [hk]; rfl
  have g8 : (o.kind == 8) = false := by rw [hk]; rfl
  have g9 : (o.kind == 9) = false := by rw [hk]; rfl
  have g10 : (o.kind == 10) = false := by rw [hk]; rfl
  have g11 : (o.kind == 11) = true := by simp [hk]
  obtain ⟨H1, hH1⟩ : ∃ H1, H1 = (H.push (.cells #[.int .i64 o.kind, .int .i64 o.a, .int .i64 o.b, .int .i64 o.x.value, .bool o.x.counts, .int .i64 o.x.flags, .bool o.other] 68)).push (.cells #[.int .i64 0, .int .i64 0] 71) := ⟨_, rfl⟩
  have hf1 : Fr (fun _ => False) H H1 := by rw [hH1]; exact (by ((repeat (first | refine Fr.set ?_ (by simp) _ | refine Fr.push ?_ _)); exact Fr.refl _ _))
  have hM0 := hM.grow hf1
  have hs1 : H1.size = H.size + 2 := by rw [hH1]; simp
  have hb4 : Blk H1 H.size o.cells := by rw [hH1]; exact (Blk.new H o.cells _).push _
  have hb6 : Blk H1 (H.size + 1) [.int .i64 0, .int .i64 0] := by rw [hH1]; have := Blk.new (H.push (.cells #[.int .i64 o.kind, .int .i64 o.a, .int .i64 o.b, .int .i64 o.x.value, .bool o.x.counts, .int .i64 o.x.flags, .bool o.other] 68)) [.int .i64 0, .int .i64 0] 71; simpa using this
  have hT : ∀ i, ¬ T (H.size + i) := fun i h => by have := hM.lt h; omega
  have eq : Sq.toldQ S o.kind o.a o.b o.x true = (S.flaggedQ o.a o.b, S) := by unfold Sq.toldQ Sq.secondQ firstQ; simp [hk]
  rw [eq] at fin
  refine call34 (by simp) ?_
  simp only [Try.f34, Option.getD_some]
  repeat' (first
    | (with_reducible first | refine seq_normal ?_ | (refine hK _ _ ?_; clear hK K) | refine x_seq (fun K hK => ?_) | refine x_nil ?_ | refine x_block ?_ | refine x_skip ?_ | refine x_exit ?_ | refine x_ret ?_ | refine x_label ?_ | refine x_scope ?_ | (refine seq_ret ?_; clear hK K) | (refine seq_exit ?_; clear hK K) | refine block_normal ?_ | refine block_ret ?_ | refine block_exit ?_ | refine loop_exit ?_ | refine loop_ret ?_)
    | ((with_reducible refine x_reg_lit ?hq ?_); case hq => rfl)
    | ((first | (with_reducible first | refine x_op (fun K hK => ?_) | refine end_ret ?_ | refine end_normal ?_) | ((with_reducible refine x_guard_yes ?hy (fun K hK => ?_)); case hy => rfl)); simp only [go_sem, Int.cast_ofNat_Int, Nat.reduceEqDiff, Nat.reduceAdd, Nat.reduceMul, Nat.reduceLeDiff, Nat.reduceLT, Int.reduceLT, Int.reduceLE, Int.reduceEq, Int.reduceNeg, Int.reduceToNat, Nat.reducePow, reduceIte, reduceCtorEq, OpR.val, g1, g2, g3, g4, g5, g6, g7, g8, g9, g10, g11, hcell_push, hcell_top, okW_push, okW_top, hcell_hset_ne, hcell_hset_off, hcell_hset_eq, okW_hset, hset_size, Array.size_push, Nat.lt_add_one, ne_add_one, add_one_ne, Nat.add_assoc, add_same, add_lt_same, Nat.reduceEqDiff, lt_add_k, add_k_ne, ne_add_k])
    | ((with_reducible first | refine x_guard_no ?hy ?_ | refine x_cond_true ?hy ?_); case hy => rfl)
    | ((with_reducible first | refine x_guard_none ?hy ?_ | refine x_cond_false ?hy ?_); case hy => rfl)
    | ((with_reducible refine block_exit_ne ?hy ?_); case hy => decide))
  rw [← hH1]
  refine q_flagged hM0 ho.b0 ho.b1 ?_
  intro H2 hF2 hf2
  have hb42 := hb4.frame hf2 (hT 0)
  have hb62 := hb6.frame hf2 (hT 1)
  have hf02 : Fr T H H2 := (hf1.mono fun _ _ h => h.elim).trans hf2
  have hs2 := hf2.size
  have l62 := hb62.lt
  have n62 : ¬ H.size + 1 = H2.size := by omega
  have n62' : ¬ H2.size = H.size + 1 := by omega
  have n42 : ¬ H.size = H2.size := by omega
  have l42 := hb42.lt
  have q0 := hb42.cellOf (i := 0) rfl
  obtain ⟨w0, w1⟩ := two_new hb62 (n := 0) (e := 0)
  repeat' (first
    | (with_reducible first | refine seq_normal ?_ | (refine hK _ _ ?_; clear hK K) | refine x_seq (fun K hK => ?_) | refine x_nil ?_ | refine x_block ?_ | refine x_skip ?_ | refine x_exit ?_ | refine x_ret ?_ | refine x_label ?_ | refine x_scope ?_ | (refine seq_ret ?_; clear hK K) | (refine seq_exit ?_; clear hK K) | refine block_normal ?_ | refine block_ret ?_ | refine block_exit ?_ | refine loop_exit ?_ | refine loop_ret ?_)
    | ((with_reducible refine x_reg_lit ?hq ?_); case hq => rfl)
    | ((first | (with_reducible first | refine x_op (fun K hK => ?_) | refine end_ret ?_ | refine end_normal ?_) | ((with_reducible refine x_guard_yes ?hy (fun K hK => ?_)); case hy => rfl)); simp only [go_sem, Int.cast_ofNat_Int, Nat.reduceEqDiff, Nat.reduceAdd, Nat.reduceMul, Nat.reduceLeDiff, Nat.reduceLT, Int.reduceLT, Int.reduceLE, Int.reduceEq, Int.reduceNeg, Int.reduceToNat, Nat.reducePow, reduceIte, reduceCtorEq, Sp.Item.val, Agg.val, g1, g2, g3, g4, g5, g6, g7, g8, g9, g10, g11, q0, w0, w1, l62, n62, n62', n42, l42, hcell_hset_eq, hcell_push, hcell_top, okW_push, okW_top, hcell_hset_ne, hcell_hset_off, hcell_hset_eq, okW_hset, hset_size, Array.size_push, Nat.lt_add_one, ne_add_one, add_one_ne, Nat.add_assoc, add_same, add_lt_same, Nat.reduceEqDiff, lt_add_k, add_k_ne, ne_add_k])
    | ((with_reducible first | refine x_guard_no ?hy ?_ | refine x_cond_true ?hy ?_); case hy => rfl)
    | ((with_reducible first | refine x_guard_none ?hy ?_ | refine x_cond_false ?hy ?_); case hy => rfl)
    | ((with_reducible refine block_exit_ne ?hy ?_); case hy => decide))
  refine fin _ T (hF2.frame (T0 := fun b => b = H.size + 1 ∨ H2.size ≤ b) ?_ fun b hb e => ?_) (hf02.trans' (S' := fun b => b = H.size + 1 ∨ H2.size ≤ b) ?_ fun b hb e => by omega) fun b hb => .inl hb
  · (repeat (first | refine Fr.set ?_ (by simp) _ | refine Fr.push ?_ _)); exact Fr.refl _ _
  · rcases e with rfl | e
    · exact hT 1 hb
    · have := hF2.lt hb; omega
  · (repeat (first | refine Fr.set ?_ (by simp) _ | refine Fr.push ?_ _)); exact Fr.refl _ _
theorem told_1_yes {o : OpR} (hM : FoM H f T S) (ho : o.Fit) (hk : o.kind = 1) (fin : ∀ H' T', FoM H' f T' (Sq.toldQ S o.kind o.a o.b o.x true).2 → Fr T H H' → (∀ b, T' b → T b ∨ H.size ≤ b) → K (.agg #[.int .i64 (Sq.toldQ S o.kind o.a o.b o.x true).1.1, .int .i64 (Sq.toldQ S o.kind o.a o.b o.x true).1.2]) H') :
    CallsH Try.prog 34 #[.pointer (some ⟨f, 0, none⟩), o.val, .bool true] H K := by
  have g1 : (o.kind == 1) = true := by simp [hk]
  have g2 : (o.kind == 2) = false := by rw [hk]; rfl
  have g3 : (o.kind == 3) = false := by rw [hk]; rfl
  have g4 : (o.kind == 4) = false := by rw [hk]; rfl
  have g5 : (o.kind == 5) = false := by rw [hk]; rfl
  have g6 : (o.kind == 6) = false := by rw [hk]; rfl
  have g7 : (o.kind == 7) = false := by rw [hk]; rfl
  have g8 : (o.kind == 8) = false := by rw [hk]; rfl
  have g9 : (o.kind == 9) = false := by rw [hk]; rfl
  have g10 : (o.kind == 10) = false := by rw [hk]; rfl
  have g11 : (o.kind == 11) = false := by rw [hk]; rfl
  obtain ⟨H1, hH1⟩ : ∃ H1, H1 = (H.push (.cells #[.int .i64 o.kind, .int .i64 o.a, .int .i64 o.b, .int .i64 o.x.value, .bool o.x.counts, .int .i64 o.x.flags, .bool o.other] 68)).push (.cells #[.int .i64 0, .int .i64 0] 71) := ⟨_, rfl⟩
  have hf1 : Fr (fun _ => False) H H1 := by rw [hH1]; exact (by ((repeat (first | refine Fr.set ?_ (by simp) _ | refine Fr.push ?_ _)); exact Fr.refl _ _))
  have hM0 := hM.grow hf1
  have hs1 : H1.size = H.size + 2 := by rw [hH1]; simp
  have hb4 : Blk H1 H.size o.cells := by rw [hH1]; exact (Blk.new H o.cells _).push _
  have hb6 : Blk H1 (H.size + 1) [.int .i64 0, .int .i64 0] := by rw [hH1]; have := Blk.new (H.push (.cells #[.int .i64 o.kind, .int .i64 o.a, .int .i64 o.b, .int .i64 o.x.value, .bool o.x.counts, .int .i64 o.x.flags, .bool o.other] 68)) [.int .i64 0, .int .i64 0] 71; simpa using this
  have hT : ∀ i, ¬ T (H.size + i) := fun i h => by have := hM.lt h; omega
  have eq : Sq.toldQ S o.kind o.a o.b o.x true = Sq.makeQ S o.x := by unfold Sq.toldQ Sq.secondQ; simp [hk]
  rw [eq] at fin
  refine call34 (by simp) ?_
  simp only [Try.f34, Option.getD_some]
  have q1 := hb4.cellOf (i := 1) rfl
  have q2 := hb4.cellOf (i := 2) rfl
  have q3 := hb4.cellOf (i := 3) rfl
  have q4 := hb4.cellOf (i := 4) rfl
  have q5 := hb4.cellOf (i := 5) rfl
  repeat' (first
    | (with_reducible first | refine seq_normal ?_ | (refine hK _ _ ?_; clear hK K) | refine x_seq (fun K hK => ?_) | refine x_nil ?_ | refine x_block ?_ | refine x_skip ?_ | refine x_exit ?_ | refine x_ret ?_ | refine x_label ?_ | refine x_scope ?_ | (refine seq_ret ?_; clear hK K) | (refine seq_exit ?_; clear hK K) | refine block_normal ?_ | refine block_ret ?_ | refine block_exit ?_ | refine loop_exit ?_ | refine loop_ret ?_)
    | ((with_reducible refine x_reg_lit ?hq ?_); case hq => rfl)
    | ((first | (with_reducible first | refine x_op (fun K hK => ?_) | refine end_ret ?_ | refine end_normal ?_) | ((with_reducible refine x_guard_yes ?hy (fun K hK => ?_)); case hy => rfl)); simp only [go_sem, Int.cast_ofNat_Int, Nat.reduceEqDiff, Nat.reduceAdd, Nat.reduceMul, Nat.reduceLeDiff, Nat.reduceLT, Int.reduceLT, Int.reduceLE, Int.reduceEq, Int.reduceNeg, Int.reduceToNat, Nat.reducePow, reduceIte, reduceCtorEq, OpR.val, Sp.Item.val, g1, g2, g3, g4, g5, g6, g7, g8, g9, g10, g11, hcell_push, hcell_top, okW_push, okW_top, hcell_hset_ne, hcell_hset_off, hcell_hset_eq, okW_hset, hset_size, Array.size_push, Nat.lt_add_one, ne_add_one, add_one_ne, Nat.add_assoc, add_same, add_lt_same, Nat.reduceEqDiff, lt_add_k, add_k_ne, ne_add_k])
    | ((with_reducible first | refine x_guard_no ?hy ?_ | refine x_cond_true ?hy ?_); case hy => rfl)
    | ((with_reducible first | refine x_guard_none ?hy ?_ | refine x_cond_false ?hy ?_); case hy => rfl)
    | ((with_reducible refine block_exit_ne ?hy ?_); case hy => decide))
  rw [← hH1]
  refine q_make (x := o.x) hM0 ho.x ?_
  intro H2 T2 hF2 hf2 hT2
  have hb62 := hb6.frame hf2 (hT 1)
  have hf02 : Fr T H H2 := (hf1.mono fun _ _ h => h.elim).trans hf2
  have hs2 := hf2.size
  have l62 := hb62.lt
  obtain ⟨w0, w1⟩ := two_new hb62 (n := 0) (e := 0)
  repeat' (first
    | (with_reducible first | refine seq_normal ?_ | (refine hK _ _ ?_; clear hK K) | refine x_seq (fun K hK => ?_) | refine x_nil ?_ | refine x_block ?_ | refine x_skip ?_ | refine x_exit ?_ | refine x_ret ?_ | refine x_label ?_ | refine x_scope ?_ | (refine seq_ret ?_; clear hK K) | (refine seq_exit ?_; clear hK K) | refine block_normal ?_ | refine block_ret ?_ | refine block_exit ?_ | refine loop_exit ?_ | refine loop_ret ?_)
    | ((with_reducible refine x_reg_lit ?hq ?_); case hq => rfl)
    | ((first | (with_reducible first | refine x_op (fun K hK => ?_) | refine end_ret ?_ | refine end_normal ?_) | ((with_reducible refine x_guard_yes ?hy (fun K hK => ?_)); case hy => rfl)); simp only [go_sem, Int.cast_ofNat_Int, Nat.reduceEqDiff, Nat.reduceAdd, Nat.reduceMul, Nat.reduceLeDiff, Nat.reduceLT, Int.reduceLT, Int.reduceLE, Int.reduceEq, Int.reduceNeg, Int.reduceToNat, Nat.reducePow, reduceIte, reduceCtorEq, g1, g2, g3, g4, g5, g6, g7, g8, g9, g10, g11, w0, w1, l62, hcell_hset_eq, hcell_push, hcell_top, okW_push, okW_top, hcell_hset_ne, hcell_hset_off, hcell_hset_eq, okW_hset, hset_size, Array.size_push, Nat.lt_add_one, ne_add_one, add_one_ne, Nat.add_assoc, add_same, add_lt_same, Nat.reduceEqDiff, lt_add_k, add_k_ne, ne_add_k])
    | ((with_reducible first | refine x_guard_no ?hy ?_ | refine x_cond_true ?hy ?_); case hy => rfl)
    | ((with_reducible first | refine x_guard_none ?hy ?_ | refine x_cond_false ?hy ?_); case hy => rfl)
    | ((with_reducible refine block_exit_ne ?hy ?_); case hy => decide))
  have hT2n : ¬ T2 (H.size + 1) := fun h => by
    rcases hT2 _ h with h | h
    · exact hT 1 h
    · omega
  refine fin _ T2 (hF2.frame (T0 := fun b => b = H.size + 1) ?_ fun b hb e => hT2n (e ▸ hb)) (hf02.trans' (S' := fun b => b = H.size + 1) ?_ fun b hb e => by omega) fun b hb => ?_
  · (repeat (first | refine Fr.set ?_ (by simp) _ | refine Fr.push ?_ _)); exact Fr.refl _ _
  · (repeat (first | refine Fr.set ?_ (by simp) _ | refine Fr.push ?_ _)); exact Fr.refl _ _
  · rcases hT2 b hb with h | h
    · exact .inl h
    · exact .inr (by omega)
theorem told_2_yes {o : OpR} (hM : FoM H f T S) (ho : o.Fit) (hk : o.kind = 2) (fin : ∀ H' T', FoM H' f T' (Sq.toldQ S o.kind o.a o.b o.x true).2 → Fr T H H' → (∀ b, T' b → T b ∨ H.size ≤ b) → K (.agg #[.int .i64 (Sq.toldQ S o.kind o.a o.b o.x true).1.1, .int .i64 (Sq.toldQ S o.kind o.a o.b o.x true).1.2]) H') :
    CallsH Try.prog 34 #[.pointer (some ⟨f, 0, none⟩), o.val, .bool true] H K := by
  have g1 : (o.kind == 1) = false := by rw [hk]; rfl
  have g2 : (o.kind == 2) = true := by simp [hk]
  have g3 : (o.kind == 3) = false := by rw [hk]; rfl
  have g4 : (o.kind == 4) = false := by rw [hk]; rfl
  have g5 : (o.kind == 5) = false := by rw [hk]; rfl
  have g6 : (o.kind == 6) = false := by rw [hk]; rfl
  have g7 : (o.kind == 7) = false := by rw [hk]; rfl
  have g8 : (o.kind == 8) = false := by rw [hk]; rfl
  have g9 : (o.kind == 9) = false := by rw [hk]; rfl
  have g10 : (o.kind == 10) = false := by rw [hk]; rfl
  have g11 : (o.kind == 11) = false := by rw [hk]; rfl
  obtain ⟨H1, hH1⟩ : ∃ H1, H1 = (H.push (.cells #[.int .i64 o.kind, .int .i64 o.a, .int .i64 o.b, .int .i64 o.x.value, .bool o.x.counts, .int .i64 o.x.flags, .bool o.other] 68)).push (.cells #[.int .i64 0, .int .i64 0] 71) := ⟨_, rfl⟩
  have hf1 : Fr (fun _ => False) H H1 := by rw [hH1]; exact (by ((repeat (first | refine Fr.set ?_ (by simp) _ | refine Fr.push ?_ _)); exact Fr.refl _ _))
  have hM0 := hM.grow hf1
  have hs1 : H1.size = H.size + 2 := by rw [hH1]; simp
  have hb4 : Blk H1 H.size o.cells := by rw [hH1]; exact (Blk.new H o.cells _).push _
  have hb6 : Blk H1 (H.size + 1) [.int .i64 0, .int .i64 0] := by rw [hH1]; have := Blk.new (H.push (.cells #[.int .i64 o.kind, .int .i64 o.a, .int .i64 o.b, .int .i64 o.x.value, .bool o.x.counts, .int .i64 o.x.flags, .bool o.other] 68)) [.int .i64 0, .int .i64 0] 71; simpa using this
  have hT : ∀ i, ¬ T (H.size + i) := fun i h => by have := hM.lt h; omega
  have eq : Sq.toldQ S o.kind o.a o.b o.x true = ((0, (Sq.freeQ S o.a).1), (Sq.freeQ S o.a).2) := by unfold Sq.toldQ Sq.secondQ; simp [hk]
  rw [eq] at fin
  refine call34 (by simp) ?_
  simp only [Try.f34, Option.getD_some]
  have q1 := hb4.cellOf (i := 1) rfl
  have q2 := hb4.cellOf (i := 2) rfl
  have q3 := hb4.cellOf (i := 3) rfl
  have q4 := hb4.cellOf (i := 4) rfl
  have q5 := hb4.cellOf (i := 5) rfl
  repeat' (first
    | (with_reducible first | refine seq_normal ?_ | (refine hK _ _ ?_; clear hK K) | refine x_seq (fun K hK => ?_) | refine x_nil ?_ | refine x_block ?_ | refine x_skip ?_ | refine x_exit ?_ | refine x_ret ?_ | refine x_label ?_ | refine x_scope ?_ | (refine seq_ret ?_; clear hK K) | (refine seq_exit ?_; clear hK K) | refine block_normal ?_ | refine block_ret ?_ | refine block_exit ?_ | refine loop_exit ?_ | refine loop_ret ?_)
    | ((with_reducible refine x_reg_lit ?hq ?_); case hq => rfl)
    | ((first | (with_reducible first | refine x_op (fun K hK => ?_) | refine end_ret ?_ | refine end_normal ?_) | ((with_reducible refine x_guard_yes ?hy (fun K hK => ?_)); case hy => rfl)); simp only [go_sem, Int.cast_ofNat_Int, Nat.reduceEqDiff, Nat.reduceAdd, Nat.reduceMul, Nat.reduceLeDiff, Nat.reduceLT, Int.reduceLT, Int.reduceLE, Int.reduceEq, Int.reduceNeg, Int.reduceToNat, Nat.reducePow, reduceIte, reduceCtorEq, OpR.val, Sp.Item.val, g1, g2, g3, g4, g5, g6, g7, g8, g9, g10, g11, hcell_push, hcell_top, okW_push, okW_top, hcell_hset_ne, hcell_hset_off, hcell_hset_eq, okW_hset, hset_size, Array.size_push, Nat.lt_add_one, ne_add_one, add_one_ne, Nat.add_assoc, add_same, add_lt_same, Nat.reduceEqDiff, lt_add_k, add_k_ne, ne_add_k])
    | ((with_reducible first | refine x_guard_no ?hy ?_ | refine x_cond_true ?hy ?_); case hy => rfl)
    | ((with_reducible first | refine x_guard_none ?hy ?_ | refine x_cond_false ?hy ?_); case hy => rfl)
    | ((with_reducible refine block_exit_ne ?hy ?_); case hy => decide))
  rw [← hH1]
  refine q_free hM0 ?_
  intro H2 hF2 hf2
  obtain ⟨T2, hT2e⟩ : ∃ T2, T2 = T := ⟨_, rfl⟩
  have hT2 : ∀ b, T2 b → T b ∨ H1.size ≤ b := fun b hb => .inl (hT2e ▸ hb)
  rw [← hT2e] at hF2
  have hb62 := hb6.frame hf2 (hT 1)
  have hf02 : Fr T H H2 := (hf1.mono fun _ _ h => h.elim).trans hf2
  have hs2 := hf2.size
  have l62 := hb62.lt
  obtain ⟨w0, w1⟩ := two_new hb62 (n := 0) (e := 0)
  repeat' (first
    | (with_reducible first | refine seq_normal ?_ | (refine hK _ _ ?_; clear hK K) | refine x_seq (fun K hK => ?_) | refine x_nil ?_ | refine x_block ?_ | refine x_skip ?_ | refine x_exit ?_ | refine x_ret ?_ | refine x_label ?_ | refine x_scope ?_ | (refine seq_ret ?_; clear hK K) | (refine seq_exit ?_; clear hK K) | refine block_normal ?_ | refine block_ret ?_ | refine block_exit ?_ | refine loop_exit ?_ | refine loop_ret ?_)
    | ((with_reducible refine x_reg_lit ?hq ?_); case hq => rfl)
    | ((first | (with_reducible first | refine x_op (fun K hK => ?_) | refine end_ret ?_ | refine end_normal ?_) | ((with_reducible refine x_guard_yes ?hy (fun K hK => ?_)); case hy => rfl)); simp only [go_sem, Int.cast_ofNat_Int, Nat.reduceEqDiff, Nat.reduceAdd, Nat.reduceMul, Nat.reduceLeDiff, Nat.reduceLT, Int.reduceLT, Int.reduceLE, Int.reduceEq, Int.reduceNeg, Int.reduceToNat, Nat.reducePow, reduceIte, reduceCtorEq, g1, g2, g3, g4, g5, g6, g7, g8, g9, g10, g11, w0, w1, l62, hcell_hset_eq, hcell_push, hcell_top, okW_push, okW_top, hcell_hset_ne, hcell_hset_off, hcell_hset_eq, okW_hset, hset_size, Array.size_push, Nat.lt_add_one, ne_add_one, add_one_ne, Nat.add_assoc, add_same, add_lt_same, Nat.reduceEqDiff, lt_add_k, add_k_ne, ne_add_k])
    | ((with_reducible first | refine x_guard_no ?hy ?_ | refine x_cond_true ?hy ?_); case hy => rfl)
    | ((with_reducible first | refine x_guard_none ?hy ?_ | refine x_cond_false ?hy ?_); case hy => rfl)
    | ((with_reducible refine block_exit_ne ?hy ?_); case hy => decide))
  have hT2n : ¬ T2 (H.size + 1) := fun h => by
    rcases hT2 _ h with h | h
    · exact hT 1 h
    · omega
  refine fin _ T2 (hF2.frame (T0 := fun b => b = H.size + 1) ?_ fun b hb e => hT2n (e ▸ hb)) (hf02.trans' (S' := fun b => b = H.size + 1) ?_ fun b hb e => by omega) fun b hb => ?_
  · (repeat (first | refine Fr.set ?_ (by simp) _ | refine Fr.push ?_ _)); exact Fr.refl _ _
  · (repeat (first | refine Fr.set ?_ (by simp) _ | refine Fr.push ?_ _)); exact Fr.refl _ _
  · rcases hT2 b hb with h | h
    · exact .inl h
    · exact .inr (by omega)
theorem told_4_yes {o : OpR} (hM : FoM H f T S) (ho : o.Fit) (hk : o.kind = 4) (fin : ∀ H' T', FoM H' f T' (Sq.toldQ S o.kind o.a o.b o.x true).2 → Fr T H H' → (∀ b, T' b → T b ∨ H.size ≤ b) → K (.agg #[.int .i64 (Sq.toldQ S o.kind o.a o.b o.x true).1.1, .int .i64 (Sq.toldQ S o.kind o.a o.b o.x true).1.2]) H') :
    CallsH Try.prog 34 #[.pointer (some ⟨f, 0, none⟩), o.val, .bool true] H K := by
  have g1 : (o.kind == 1) = false := by rw [hk]; rfl
  have g2 : (o.kind == 2) = false := by rw [hk]; rfl
  have g3 : (o.kind == 3) = false := by rw [hk]; rfl
  have g4 : (o.kind == 4) = true := by simp [hk]
  have g5 : (o.kind == 5) = false := by rw [hk]; rfl
  have g6 : (o.kind == 6) = false := by rw [hk]; rfl
  have g7 : (o.kind == 7) = false := by rw [hk]; rfl
  have g8 : (o.kind == 8) = false := by rw [hk]; rfl
  have g9 : (o.kind == 9) = false := by rw [hk]; rfl
  have g10 : (o.kind == 10) = false := by rw [hk]; rfl
  have g11 : (o.kind == 11) = false := by rw [hk]; rfl
  obtain ⟨H1, hH1⟩ : ∃ H1, H1 = (H.push (.cells #[.int .i64 o.kind, .int .i64 o.a, .int .i64 o.b, .int .i64 o.x.value, .bool o.x.counts, .int .i64 o.x.flags, .bool o.other] 68)).push (.cells #[.int .i64 0, .int .i64 0] 71) := ⟨_, rfl⟩
  have hf1 : Fr (fun _ => False) H H1 := by rw [hH1]; exact (by ((repeat (first | refine Fr.set ?_ (by simp) _ | refine Fr.push ?_ _)); exact Fr.refl _ _))
  have hM0 := hM.grow hf1
  have hs1 : H1.size = H.size + 2 := by rw [hH1]; simp
  have hb4 : Blk H1 H.size o.cells := by rw [hH1]; exact (Blk.new H o.cells _).push _
  have hb6 : Blk H1 (H.size + 1) [.int .i64 0, .int .i64 0] := by rw [hH1]; have := Blk.new (H.push (.cells #[.int .i64 o.kind, .int .i64 o.a, .int .i64 o.b, .int .i64 o.x.value, .bool o.x.counts, .int .i64 o.x.flags, .bool o.other] 68)) [.int .i64 0, .int .i64 0] 71; simpa using this
  have hT : ∀ i, ¬ T (H.size + i) := fun i h => by have := hM.lt h; omega
  have eq : Sq.toldQ S o.kind o.a o.b o.x true = ((0, (Sq.setQ S o.a o.x).1), (Sq.setQ S o.a o.x).2) := by unfold Sq.toldQ Sq.secondQ; simp [hk]
  rw [eq] at fin
  refine call34 (by simp) ?_
  simp only [Try.f34, Option.getD_some]
  have q1 := hb4.cellOf (i := 1) rfl
  have q2 := hb4.cellOf (i := 2) rfl
  have q3 := hb4.cellOf (i := 3) rfl
  have q4 := hb4.cellOf (i := 4) rfl
  have q5 := hb4.cellOf (i := 5) rfl
  repeat' (first
    | (with_reducible first | refine seq_normal ?_ | (refine hK _ _ ?_; clear hK K) | refine x_seq (fun K hK => ?_) | refine x_nil ?_ | refine x_block ?_ | refine x_skip ?_ | refine x_exit ?_ | refine x_ret ?_ | refine x_label ?_ | refine x_scope ?_ | (refine seq_ret ?_; clear hK K) | (refine seq_exit ?_; clear hK K) | refine block_normal ?_ | refine block_ret ?_ | refine block_exit ?_ | refine loop_exit ?_ | refine loop_ret ?_)
    | ((with_reducible refine x_reg_lit ?hq ?_); case hq => rfl)
    | ((first | (with_reducible first | refine x_op (fun K hK => ?_) | refine end_ret ?_ | refine end_normal ?_) | ((with_reducible refine x_guard_yes ?hy (fun K hK => ?_)); case hy => rfl)); simp only [go_sem, Int.cast_ofNat_Int, Nat.reduceEqDiff, Nat.reduceAdd, Nat.reduceMul, Nat.reduceLeDiff, Nat.reduceLT, Int.reduceLT, Int.reduceLE, Int.reduceEq, Int.reduceNeg, Int.reduceToNat, Nat.reducePow, reduceIte, reduceCtorEq, OpR.val, Sp.Item.val, g1, g2, g3, g4, g5, g6, g7, g8, g9, g10, g11, hcell_push, hcell_top, okW_push, okW_top, hcell_hset_ne, hcell_hset_off, hcell_hset_eq, okW_hset, hset_size, Array.size_push, Nat.lt_add_one, ne_add_one, add_one_ne, Nat.add_assoc, add_same, add_lt_same, Nat.reduceEqDiff, lt_add_k, add_k_ne, ne_add_k])
    | ((with_reducible first | refine x_guard_no ?hy ?_ | refine x_cond_true ?hy ?_); case hy => rfl)
    | ((with_reducible first | refine x_guard_none ?hy ?_ | refine x_cond_false ?hy ?_); case hy => rfl)
    | ((with_reducible refine block_exit_ne ?hy ?_); case hy => decide))
  rw [← hH1]
  refine q_set (x := o.x) hM0 ho.x ?_
  intro H2 hF2 hf2
  obtain ⟨T2, hT2e⟩ : ∃ T2, T2 = T := ⟨_, rfl⟩
  have hT2 : ∀ b, T2 b → T b ∨ H1.size ≤ b := fun b hb => .inl (hT2e ▸ hb)
  rw [← hT2e] at hF2
  have hb62 := hb6.frame hf2 (hT 1)
  have hf02 : Fr T H H2 := (hf1.mono fun _ _ h => h.elim).trans hf2
  have hs2 := hf2.size
  have l62 := hb62.lt
  obtain ⟨w0, w1⟩ := two_new hb62 (n := 0) (e := 0)
  repeat' (first
    | (with_reducible first | refine seq_normal ?_ | (refine hK _ _ ?_; clear hK K) | refine x_seq (fun K hK => ?_) | refine x_nil ?_ | refine x_block ?_ | refine x_skip ?_ | refine x_exit ?_ | refine x_ret ?_ | refine x_label ?_ | refine x_scope ?_ | (refine seq_ret ?_; clear hK K) | (refine seq_exit ?_; clear hK K) | refine block_normal ?_ | refine block_ret ?_ | refine block_exit ?_ | refine loop_exit ?_ | refine loop_ret ?_)
    | ((with_reducible refine x_reg_lit ?hq ?_); case hq => rfl)
    | ((first | (with_reducible first | refine x_op (fun K hK => ?_) | refine end_ret ?_ | refine end_normal ?_) | ((with_reducible refine x_guard_yes ?hy (fun K hK => ?_)); case hy => rfl)); simp only [go_sem, Int.cast_ofNat_Int, Nat.reduceEqDiff, Nat.reduceAdd, Nat.reduceMul, Nat.reduceLeDiff, Nat.reduceLT, Int.reduceLT, Int.reduceLE, Int.reduceEq, Int.reduceNeg, Int.reduceToNat, Nat.reducePow, reduceIte, reduceCtorEq, g1, g2, g3, g4, g5, g6, g7, g8, g9, g10, g11, w0, w1, l62, hcell_hset_eq, hcell_push, hcell_top, okW_push, okW_top, hcell_hset_ne, hcell_hset_off, hcell_hset_eq, okW_hset, hset_size, Array.size_push, Nat.lt_add_one, ne_add_one, add_one_ne, Nat.add_assoc, add_same, add_lt_same, Nat.reduceEqDiff, lt_add_k, add_k_ne, ne_add_k])
    | ((with_reducible first | refine x_guard_no ?hy ?_ | refine x_cond_true ?hy ?_); case hy => rfl)
    | ((with_reducible first | refine x_guard_none ?hy ?_ | refine x_cond_false ?hy ?_); case hy => rfl)
    | ((with_reducible refine block_exit_ne ?hy ?_); case hy => decide))
  have hT2n : ¬ T2 (H.size + 1) := fun h => by
    rcases hT2 _ h with h | h
    · exact hT 1 h
    · omega
  refine fin _ T2 (hF2.frame (T0 := fun b => b = H.size + 1) ?_ fun b hb e => hT2n (e ▸ hb)) (hf02.trans' (S' := fun b => b = H.size + 1) ?_ fun b hb e => by omega) fun b hb => ?_
  · (repeat (first | refine Fr.set ?_ (by simp) _ | refine Fr.push ?_ _)); exact Fr.refl _ _
  · (repeat (first | refine Fr.set ?_ (by simp) _ | refine Fr.push ?_ _)); exact Fr.refl _ _
  · rcases hT2 b hb with h | h
    · exact .inl h
    · exact .inr (by omega)
theorem told_5_yes {o : OpR} (hM : FoM H f T S) (ho : o.Fit) (hk : o.kind = 5) (fin : ∀ H' T', FoM H' f T' (Sq.toldQ S o.kind o.a o.b o.x true).2 → Fr T H H' → (∀ b, T' b → T b ∨ H.size ≤ b) → K (.agg #[.int .i64 (Sq.toldQ S o.kind o.a o.b o.x true).1.1, .int .i64 (Sq.toldQ S o.kind o.a o.b o.x true).1.2]) H') :
    CallsH Try.prog 34 #[.pointer (some ⟨f, 0, none⟩), o.val, .bool true] H K := by
  have g1 : (o.kind == 1) = false := by rw [hk]; rfl
  have g2 : (o.kind == 2) = false := by rw [hk]; rfl
  have g3 : (o.kind == 3) = false := by rw [hk]; rfl
  have g4 : (o.kind == 4) = false := by rw [hk]; rfl
  have g5 : (o.kind == 5) = true := by simp [hk]
  have g6 : (o.kind == 6) = false := by rw [hk]; rfl
  have g7 : (o.kind == 7) = false := by rw [hk]; rfl
  have g8 : (o.kind == 8) = false := by rw [hk]; rfl
  have g9 : (o.kind == 9) = false := by rw [hk]; rfl
  have g10 : (o.kind == 10) = false := by rw [hk]; rfl
  have g11 : (o.kind == 11) = false := by rw [hk]; rfl
  obtain ⟨H1, hH1⟩ : ∃ H1, H1 = (H.push (.cells #[.int .i64 o.kind, .int .i64 o.a, .int .i64 o.b, .int .i64 o.x.value, .bool o.x.counts, .int .i64 o.x.flags, .bool o.other] 68)).push (.cells #[.int .i64 0, .int .i64 0] 71) := ⟨_, rfl⟩
  have hf1 : Fr (fun _ => False) H H1 := by rw [hH1]; exact (by ((repeat (first | refine Fr.set ?_ (by simp) _ | refine Fr.push ?_ _)); exact Fr.refl _ _))
  have hM0 := hM.grow hf1
  have hs1 : H1.size = H.size + 2 := by rw [hH1]; simp
  have hb4 : Blk H1 H.size o.cells := by rw [hH1]; exact (Blk.new H o.cells _).push _
  have hb6 : Blk H1 (H.size + 1) [.int .i64 0, .int .i64 0] := by rw [hH1]; have := Blk.new (H.push (.cells #[.int .i64 o.kind, .int .i64 o.a, .int .i64 o.b, .int .i64 o.x.value, .bool o.x.counts, .int .i64 o.x.flags, .bool o.other] 68)) [.int .i64 0, .int .i64 0] 71; simpa using this
  have hT : ∀ i, ¬ T (H.size + i) := fun i h => by have := hM.lt h; omega
  have eq : Sq.toldQ S o.kind o.a o.b o.x true = ((0, (Sq.joinQ S o.a o.b).1), (Sq.joinQ S o.a o.b).2) := by unfold Sq.toldQ Sq.secondQ; simp [hk]
  rw [eq] at fin
  refine call34 (by simp) ?_
  simp only [Try.f34, Option.getD_some]
  have q1 := hb4.cellOf (i := 1) rfl
  have q2 := hb4.cellOf (i := 2) rfl
  have q3 := hb4.cellOf (i := 3) rfl
  have q4 := hb4.cellOf (i := 4) rfl
  have q5 := hb4.cellOf (i := 5) rfl
  repeat' (first
    | (with_reducible first | refine seq_normal ?_ | (refine hK _ _ ?_; clear hK K) | refine x_seq (fun K hK => ?_) | refine x_nil ?_ | refine x_block ?_ | refine x_skip ?_ | refine x_exit ?_ | refine x_ret ?_ | refine x_label ?_ | refine x_scope ?_ | (refine seq_ret ?_; clear hK K) | (refine seq_exit ?_; clear hK K) | refine block_normal ?_ | refine block_ret ?_ | refine block_exit ?_ | refine loop_exit ?_ | refine loop_ret ?_)
    | ((with_reducible refine x_reg_lit ?hq ?_); case hq => rfl)
    | ((first | (with_reducible first | refine x_op (fun K hK => ?_) | refine end_ret ?_ | refine end_normal ?_) | ((with_reducible refine x_guard_yes ?hy (fun K hK => ?_)); case hy => rfl)); simp only [go_sem, Int.cast_ofNat_Int, Nat.reduceEqDiff, Nat.reduceAdd, Nat.reduceMul, Nat.reduceLeDiff, Nat.reduceLT, Int.reduceLT, Int.reduceLE, Int.reduceEq, Int.reduceNeg, Int.reduceToNat, Nat.reducePow, reduceIte, reduceCtorEq, OpR.val, Sp.Item.val, g1, g2, g3, g4, g5, g6, g7, g8, g9, g10, g11, hcell_push, hcell_top, okW_push, okW_top, hcell_hset_ne, hcell_hset_off, hcell_hset_eq, okW_hset, hset_size, Array.size_push, Nat.lt_add_one, ne_add_one, add_one_ne, Nat.add_assoc, add_same, add_lt_same, Nat.reduceEqDiff, lt_add_k, add_k_ne, ne_add_k])
    | ((with_reducible first | refine x_guard_no ?hy ?_ | refine x_cond_true ?hy ?_); case hy => rfl)
    | ((with_reducible first | refine x_guard_none ?hy ?_ | refine x_cond_false ?hy ?_); case hy => rfl)
    | ((with_reducible refine block_exit_ne ?hy ?_); case hy => decide))
  rw [← hH1]
  refine q_join hM0 ?_
  intro H2 hF2 hf2
  obtain ⟨T2, hT2e⟩ : ∃ T2, T2 = T := ⟨_, rfl⟩
  have hT2 : ∀ b, T2 b → T b ∨ H1.size ≤ b := fun b hb => .inl (hT2e ▸ hb)
  rw [← hT2e] at hF2
  have hb62 := hb6.frame hf2 (hT 1)
  have hf02 : Fr T H H2 := (hf1.mono fun _ _ h => h.elim).trans hf2
  have hs2 := hf2.size
  have l62 := hb62.lt
  obtain ⟨w0, w1⟩ := two_new hb62 (n := 0) (e := 0)
  repeat' (first
    | (with_reducible first | refine seq_normal ?_ | (refine hK _ _ ?_; clear hK K) | refine x_seq (fun K hK => ?_) | refine x_nil ?_ | refine x_block ?_ | refine x_skip ?_ | refine x_exit ?_ | refine x_ret ?_ | refine x_label ?_ | refine x_scope ?_ | (refine seq_ret ?_; clear hK K) | (refine seq_exit ?_; clear hK K) | refine block_normal ?_ | refine block_ret ?_ | refine block_exit ?_ | refine loop_exit ?_ | refine loop_ret ?_)
    | ((with_reducible refine x_reg_lit ?hq ?_); case hq => rfl)
    | ((first | (with_reducible first | refine x_op (fun K hK => ?_) | refine end_ret ?_ | refine end_normal ?_) | ((with_reducible refine x_guard_yes ?hy (fun K hK => ?_)); case hy => rfl)); simp only [go_sem, Int.cast_ofNat_Int, Nat.reduceEqDiff, Nat.reduceAdd, Nat.reduceMul, Nat.reduceLeDiff, Nat.reduceLT, Int.reduceLT, Int.reduceLE, Int.reduceEq, Int.reduceNeg, Int.reduceToNat, Nat.reducePow, reduceIte, reduceCtorEq, g1, g2, g3, g4, g5, g6, g7, g8, g9, g10, g11, w0, w1, l62, hcell_hset_eq, hcell_push, hcell_top, okW_push, okW_top, hcell_hset_ne, hcell_hset_off, hcell_hset_eq, okW_hset, hset_size, Array.size_push, Nat.lt_add_one, ne_add_one, add_one_ne, Nat.add_assoc, add_same, add_lt_same, Nat.reduceEqDiff, lt_add_k, add_k_ne, ne_add_k])
    | ((with_reducible first | refine x_guard_no ?hy ?_ | refine x_cond_true ?hy ?_); case hy => rfl)
    | ((with_reducible first | refine x_guard_none ?hy ?_ | refine x_cond_false ?hy ?_); case hy => rfl)
    | ((with_reducible refine block_exit_ne ?hy ?_); case hy => decide))
  have hT2n : ¬ T2 (H.size + 1) := fun h => by
    rcases hT2 _ h with h | h
    · exact hT 1 h
    · omega
  refine fin _ T2 (hF2.frame (T0 := fun b => b = H.size + 1) ?_ fun b hb e => hT2n (e ▸ hb)) (hf02.trans' (S' := fun b => b = H.size + 1) ?_ fun b hb e => by omega) fun b hb => ?_
  · (repeat (first | refine Fr.set ?_ (by simp) _ | refine Fr.push ?_ _)); exact Fr.refl _ _
  · (repeat (first | refine Fr.set ?_ (by simp) _ | refine Fr.push ?_ _)); exact Fr.refl _ _
  · rcases hT2 b hb with h | h
    · exact .inl h
    · exact .inr (by omega)
theorem told_6_yes {o : OpR} (hM : FoM H f T S) (ho : o.Fit) (hk : o.kind = 6) (fin : ∀ H' T', FoM H' f T' (Sq.toldQ S o.kind o.a o.b o.x true).2 → Fr T H H' → (∀ b, T' b → T b ∨ H.size ≤ b) → K (.agg #[.int .i64 (Sq.toldQ S o.kind o.a o.b o.x true).1.1, .int .i64 (Sq.toldQ S o.kind o.a o.b o.x true).1.2]) H') :
    CallsH Try.prog 34 #[.pointer (some ⟨f, 0, none⟩), o.val, .bool true] H K := by
  have g1 : (o.kind == 1) = false := by rw [hk]; rfl
  have g2 : (o.kind == 2) = false := by rw [hk]; rfl
  have g3 : (o.kind == 3) = false := by rw [hk]; rfl
  have g4 : (o.kind == 4) = false := by rw [hk]; rfl
  have g5 : (o.kind == 5) = false := by rw [hk]; rfl
  have g6 : (o.kind == 6) = true := by simp [hk]
  have g7 : (o.kind == 7) = false := by rw [hk]; rfl
  have g8 : (o.kind == 8) = false := by rw [hk]; rfl
  have g9 : (o.kind == 9) = false := by rw [hk]; rfl
  have g10 : (o.kind == 10) = false := by rw [hk]; rfl
  have g11 : (o.kind == 11) = false := by rw [hk]; rfl
  obtain ⟨H1, hH1⟩ : ∃ H1, H1 = (H.push (.cells #[.int .i64 o.kind, .int .i64 o.a, .int .i64 o.b, .int .i64 o.x.value, .bool o.x.counts, .int .i64 o.x.flags, .bool o.other] 68)).push (.cells #[.int .i64 0, .int .i64 0] 71) := ⟨_, rfl⟩
  have hf1 : Fr (fun _ => False) H H1 := by rw [hH1]; exact (by ((repeat (first | refine Fr.set ?_ (by simp) _ | refine Fr.push ?_ _)); exact Fr.refl _ _))
  have hM0 := hM.grow hf1
  have hs1 : H1.size = H.size + 2 := by rw [hH1]; simp
  have hb4 : Blk H1 H.size o.cells := by rw [hH1]; exact (Blk.new H o.cells _).push _
  have hb6 : Blk H1 (H.size + 1) [.int .i64 0, .int .i64 0] := by rw [hH1]; have := Blk.new (H.push (.cells #[.int .i64 o.kind, .int .i64 o.a, .int .i64 o.b, .int .i64 o.x.value, .bool o.x.counts, .int .i64 o.x.flags, .bool o.other] 68)) [.int .i64 0, .int .i64 0] 71; simpa using this
  have hT : ∀ i, ¬ T (H.size + i) := fun i h => by have := hM.lt h; omega
  have eq : Sq.toldQ S o.kind o.a o.b o.x true = ((0, (Sq.splitQ S o.a).1), (Sq.splitQ S o.a).2) := by unfold Sq.toldQ Sq.secondQ; simp [hk]
  rw [eq] at fin
  refine call34 (by simp) ?_
  simp only [Try.f34, Option.getD_some]
  have q1 := hb4.cellOf (i := 1) rfl
  have q2 := hb4.cellOf (i := 2) rfl
  have q3 := hb4.cellOf (i := 3) rfl
  have q4 := hb4.cellOf (i := 4) rfl
  have q5 := hb4.cellOf (i := 5) rfl
  repeat' (first
    | (with_reducible first | refine seq_normal ?_ | (refine hK _ _ ?_; clear hK K) | refine x_seq (fun K hK => ?_) | refine x_nil ?_ | refine x_block ?_ | refine x_skip ?_ | refine x_exit ?_ | refine x_ret ?_ | refine x_label ?_ | refine x_scope ?_ | (refine seq_ret ?_; clear hK K) | (refine seq_exit ?_; clear hK K) | refine block_normal ?_ | refine block_ret ?_ | refine block_exit ?_ | refine loop_exit ?_ | refine loop_ret ?_)
    | ((with_reducible refine x_reg_lit ?hq ?_); case hq => rfl)
    | ((first | (with_reducible first | refine x_op (fun K hK => ?_) | refine end_ret ?_ | refine end_normal ?_) | ((with_reducible refine x_guard_yes ?hy (fun K hK => ?_)); case hy => rfl)); simp only [go_sem, Int.cast_ofNat_Int, Nat.reduceEqDiff, Nat.reduceAdd, Nat.reduceMul, Nat.reduceLeDiff, Nat.reduceLT, Int.reduceLT, Int.reduceLE, Int.reduceEq, Int.reduceNeg, Int.reduceToNat, Nat.reducePow, reduceIte, reduceCtorEq, OpR.val, Sp.Item.val, g1, g2, g3, g4, g5, g6, g7, g8, g9, g10, g11, hcell_push, hcell_top, okW_push, okW_top, hcell_hset_ne, hcell_hset_off, hcell_hset_eq, okW_hset, hset_size, Array.size_push, Nat.lt_add_one, ne_add_one, add_one_ne, Nat.add_assoc, add_same, add_lt_same, Nat.reduceEqDiff, lt_add_k, add_k_ne, ne_add_k])
    | ((with_reducible first | refine x_guard_no ?hy ?_ | refine x_cond_true ?hy ?_); case hy => rfl)
    | ((with_reducible first | refine x_guard_none ?hy ?_ | refine x_cond_false ?hy ?_); case hy => rfl)
    | ((with_reducible refine block_exit_ne ?hy ?_); case hy => decide))
  rw [← hH1]
  refine q_split hM0 ?_
  intro H2 hF2 hf2
  obtain ⟨T2, hT2e⟩ : ∃ T2, T2 = T := ⟨_, rfl⟩
  have hT2 : ∀ b, T2 b → T b ∨ H1.size ≤ b := fun b hb => .inl (hT2e ▸ hb)
  rw [← hT2e] at hF2
  have hb62 := hb6.frame hf2 (hT 1)
  have hf02 : Fr T H H2 := (hf1.mono fun _ _ h => h.elim).trans hf2
  have hs2 := hf2.size
  have l62 := hb62.lt
  obtain ⟨w0, w1⟩ := two_new hb62 (n := 0) (e := 0)
  repeat' (first
    | (with_reducible first | refine seq_normal ?_ | (refine hK _ _ ?_; clear hK K) | refine x_seq (fun K hK => ?_) | refine x_nil ?_ | refine x_block ?_ | refine x_skip ?_ | refine x_exit ?_ | refine x_ret ?_ | refine x_label ?_ | refine x_scope ?_ | (refine seq_ret ?_; clear hK K) | (refine seq_exit ?_; clear hK K) | refine block_normal ?_ | refine block_ret ?_ | refine block_exit ?_ | refine loop_exit ?_ | refine loop_ret ?_)
    | ((with_reducible refine x_reg_lit ?hq ?_); case hq => rfl)
    | ((first | (with_reducible first | refine x_op (fun K hK => ?_) | refine end_ret ?_ | refine end_normal ?_) | ((with_reducible refine x_guard_yes ?hy (fun K hK => ?_)); case hy => rfl)); simp only [go_sem, Int.cast_ofNat_Int, Nat.reduceEqDiff, Nat.reduceAdd, Nat.reduceMul, Nat.reduceLeDiff, Nat.reduceLT, Int.reduceLT, Int.reduceLE, Int.reduceEq, Int.reduceNeg, Int.reduceToNat, Nat.reducePow, reduceIte, reduceCtorEq, g1, g2, g3, g4, g5, g6, g7, g8, g9, g10, g11, w0, w1, l62, hcell_hset_eq, hcell_push, hcell_top, okW_push, okW_top, hcell_hset_ne, hcell_hset_off, hcell_hset_eq, okW_hset, hset_size, Array.size_push, Nat.lt_add_one, ne_add_one, add_one_ne, Nat.add_assoc, add_same, add_lt_same, Nat.reduceEqDiff, lt_add_k, add_k_ne, ne_add_k])
    | ((with_reducible first | refine x_guard_no ?hy ?_ | refine x_cond_true ?hy ?_); case hy => rfl)
    | ((with_reducible first | refine x_guard_none ?hy ?_ | refine x_cond_false ?hy ?_); case hy => rfl)
    | ((with_reducible refine block_exit_ne ?hy ?_); case hy => decide))
  have hT2n : ¬ T2 (H.size + 1) := fun h => by
    rcases hT2 _ h with h | h
    · exact hT 1 h
    · omega
  refine fin _ T2 (hF2.frame (T0 := fun b => b = H.size + 1) ?_ fun b hb e => hT2n (e ▸ hb)) (hf02.trans' (S' := fun b => b = H.size + 1) ?_ fun b hb e => by omega) fun b hb => ?_
  · (repeat (first | refine Fr.set ?_ (by simp) _ | refine Fr.push ?_ _)); exact Fr.refl _ _
  · (repeat (first | refine Fr.set ?_ (by simp) _ | refine Fr.push ?_ _)); exact Fr.refl _ _
  · rcases hT2 b hb with h | h
    · exact .inl h
    · exact .inr (by omega)
theorem told_no_yes {o : OpR} (hM : FoM H f T S) (ho : o.Fit) (hk : o.kind ≠ 1 ∧ o.kind ≠ 2 ∧ o.kind ≠ 3 ∧ o.kind ≠ 4 ∧ o.kind ≠ 5 ∧ o.kind ≠ 6 ∧ o.kind ≠ 7 ∧ o.kind ≠ 8 ∧ o.kind ≠ 9 ∧ o.kind ≠ 10 ∧ o.kind ≠ 11) (fin : ∀ H' T', FoM H' f T' (Sq.toldQ S o.kind o.a o.b o.x true).2 → Fr T H H' → (∀ b, T' b → T b ∨ H.size ≤ b) → K (.agg #[.int .i64 (Sq.toldQ S o.kind o.a o.b o.x true).1.1, .int .i64 (Sq.toldQ S o.kind o.a o.b o.x true).1.2]) H') :
    CallsH Try.prog 34 #[.pointer (some ⟨f, 0, none⟩), o.val, .bool true] H K := by
  have g1 : (o.kind == 1) = false := by simp; omega
  have g2 : (o.kind == 2) = false := by simp; omega
  have g3 : (o.kind == 3) = false := by simp; omega
  have g4 : (o.kind == 4) = false := by simp; omega
  have g5 : (o.kind == 5) = false := by simp; omega
  have g6 : (o.kind == 6) = false := by simp; omega
  have g7 : (o.kind == 7) = false := by simp; omega
  have g8 : (o.kind == 8) = false := by simp; omega
  have g9 : (o.kind == 9) = false := by simp; omega
  have g10 : (o.kind == 10) = false := by simp; omega
  have g11 : (o.kind == 11) = false := by simp; omega
  obtain ⟨H1, hH1⟩ : ∃ H1, H1 = (H.push (.cells #[.int .i64 o.kind, .int .i64 o.a, .int .i64 o.b, .int .i64 o.x.value, .bool o.x.counts, .int .i64 o.x.flags, .bool o.other] 68)).push (.cells #[.int .i64 0, .int .i64 0] 71) := ⟨_, rfl⟩
  have hf1 : Fr (fun _ => False) H H1 := by rw [hH1]; exact (by ((repeat (first | refine Fr.set ?_ (by simp) _ | refine Fr.push ?_ _)); exact Fr.refl _ _))
  have hM0 := hM.grow hf1
  have hs1 : H1.size = H.size + 2 := by rw [hH1]; simp
  have hb4 : Blk H1 H.size o.cells := by rw [hH1]; exact (Blk.new H o.cells _).push _
  have hb6 : Blk H1 (H.size + 1) [.int .i64 0, .int .i64 0] := by rw [hH1]; have := Blk.new (H.push (.cells #[.int .i64 o.kind, .int .i64 o.a, .int .i64 o.b, .int .i64 o.x.value, .bool o.x.counts, .int .i64 o.x.flags, .bool o.other] 68)) [.int .i64 0, .int .i64 0] 71; simpa using this
  have hT : ∀ i, ¬ T (H.size + i) := fun i h => by have := hM.lt h; omega
  have eq : Sq.toldQ S o.kind o.a o.b o.x true = ((0, 0), S) := by unfold Sq.toldQ Sq.secondQ firstQ; simp [hk]
  rw [eq] at fin
  refine call34 (by simp) ?_
  simp only [Try.f34, Option.getD_some]
  obtain ⟨w0, w1⟩ := two_new hb6 (n := 0) (e := 0)
  rw [hH1] at w0 w1
  repeat' (first
    | (with_reducible first | refine seq_normal ?_ | (refine hK _ _ ?_; clear hK K) | refine x_seq (fun K hK => ?_) | refine x_nil ?_ | refine x_block ?_ | refine x_skip ?_ | refine x_exit ?_ | refine x_ret ?_ | refine x_label ?_ | refine x_scope ?_ | (refine seq_ret ?_; clear hK K) | (refine seq_exit ?_; clear hK K) | refine block_normal ?_ | refine block_ret ?_ | refine block_exit ?_ | refine loop_exit ?_ | refine loop_ret ?_)
    | ((with_reducible refine x_reg_lit ?hq ?_); case hq => rfl)
    | ((first | (with_reducible first | refine x_op (fun K hK => ?_) | refine end_ret ?_ | refine end_normal ?_) | ((with_reducible refine x_guard_yes ?hy (fun K hK => ?_)); case hy => rfl)); simp only [go_sem, Int.cast_ofNat_Int, Nat.reduceEqDiff, Nat.reduceAdd, Nat.reduceMul, Nat.reduceLeDiff, Nat.reduceLT, Int.reduceLT, Int.reduceLE, Int.reduceEq, Int.reduceNeg, Int.reduceToNat, Nat.reducePow, reduceIte, reduceCtorEq, OpR.val, g1, g2, g3, g4, g5, g6, g7, g8, g9, g10, g11, w0, w1, hcell_hset_eq, hcell_push, hcell_top, okW_push, okW_top, hcell_hset_ne, hcell_hset_off, hcell_hset_eq, okW_hset, hset_size, Array.size_push, Nat.lt_add_one, ne_add_one, add_one_ne, Nat.add_assoc, add_same, add_lt_same, Nat.reduceEqDiff, lt_add_k, add_k_ne, ne_add_k])
    | ((with_reducible first | refine x_guard_no ?hy ?_ | refine x_cond_true ?hy ?_); case hy => rfl)
    | ((with_reducible first | refine x_guard_none ?hy ?_ | refine x_cond_false ?hy ?_); case hy => rfl)
    | ((with_reducible refine block_exit_ne ?hy ?_); case hy => decide))
  refine fin _ T (hM.grow ?_) ?_ fun b hb => .inl hb
  · exact (by ((repeat (first | refine Fr.set ?_ (by simp) _ | refine Fr.push ?_ _)); exact Fr.refl _ _))
  · exact (Fr.mono (S := fun _ => False) (by ((repeat (first | refine Fr.set ?_ (by simp) _ | refine Fr.push ?_ _)); exact Fr.refl _ _)) fun _ _ h => h.elim)
theorem told_none_ask {o : OpR} (hM : FoM H f T S) (hk : o.kind ≠ 3 ∧ o.kind ≠ 7 ∧ o.kind ≠ 8 ∧ o.kind ≠ 9 ∧ o.kind ≠ 10 ∧ o.kind ≠ 11) (fin : ∀ H' T', FoM H' f T' (Sq.toldQ S o.kind o.a o.b o.x false).2 → Fr T H H' → (∀ b, T' b → T b ∨ H.size ≤ b) → K (.agg #[.int .i64 (Sq.toldQ S o.kind o.a o.b o.x false).1.1, .int .i64 (Sq.toldQ S o.kind o.a o.b o.x false).1.2]) H') :
    CallsH Try.prog 34 #[.pointer (some ⟨f, 0, none⟩), o.val, .bool false] H K := by
  have g3 : (o.kind == 3) = false := by simp; omega
  have g7 : (o.kind == 7) = false := by simp; omega
  have g8 : (o.kind == 8) = false := by simp; omega
  have g9 : (o.kind == 9) = false := by simp; omega
  have g10 : (o.kind == 10) = false := by simp; omega
  have g11 : (o.kind == 11) = false := by simp; omega
  have eq : Sq.toldQ S o.kind o.a o.b o.x false = ((0, 0), S) := by unfold Sq.toldQ firstQ; simp [hk]
  rw [eq] at fin
  refine call34 (by simp) ?_
  simp only [Try.f34, Option.getD_some]
  repeat' (first
    | (with_reducible first | refine seq_normal ?_ | (refine hK _ _ ?_; clear hK K) | refine x_seq (fun K hK => ?_) | refine x_nil ?_ | refine x_block ?_ | refine x_skip ?_ | refine x_exit ?_ | refine x_ret ?_ | refine x_label ?_ | refine x_scope ?_ | (refine seq_ret ?_; clear hK K) | (refine seq_exit ?_; clear hK K) | refine block_normal ?_ | refine block_ret ?_ | refine block_exit ?_ | refine loop_exit ?_ | refine loop_ret ?_)
    | ((with_reducible refine x_reg_lit ?hq ?_); case hq => rfl)
    | ((first | (with_reducible first | refine x_op (fun K hK => ?_) | refine end_ret ?_ | refine end_normal ?_) | ((with_reducible refine x_guard_yes ?hy (fun K hK => ?_)); case hy => rfl)); simp only [go_sem, Int.cast_ofNat_Int, Nat.reduceEqDiff, Nat.reduceAdd, Nat.reduceMul, Nat.reduceLeDiff, Nat.reduceLT, Int.reduceLT, Int.reduceLE, Int.reduceEq, Int.reduceNeg, Int.reduceToNat, Nat.reducePow, reduceIte, reduceCtorEq, OpR.val, g3, g7, g8, g9, g10, g11, hcell_push, hcell_top, okW_push, okW_top, hcell_hset_ne, hcell_hset_off, hcell_hset_eq, okW_hset, hset_size, Array.size_push, Nat.lt_add_one, ne_add_one, add_one_ne, Nat.add_assoc, add_same, add_lt_same, Nat.reduceEqDiff, lt_add_k, add_k_ne, ne_add_k])
    | ((with_reducible first | refine x_guard_no ?hy ?_ | refine x_cond_true ?hy ?_); case hy => rfl)
    | ((with_reducible first | refine x_guard_none ?hy ?_ | refine x_cond_false ?hy ?_); case hy => rfl)
    | ((with_reducible refine block_exit_ne ?hy ?_); case hy => decide))
  refine fin _ T (hM.grow ?_) ?_ fun b hb => .inl hb
  · exact (by ((repeat (first | refine Fr.set ?_ (by simp) _ | refine Fr.push ?_ _)); exact Fr.refl _ _))
  · exact (Fr.mono (S := fun _ => False) (by ((repeat (first | refine Fr.set ?_ (by simp) _ | refine Fr.push ?_ _)); exact Fr.refl _ _)) fun _ _ h => h.elim)
theorem told_ok {o : OpR} {ch : Bool} (hM : FoM H f T S) (ho : o.Fit) (fin : ∀ H' T', FoM H' f T' (Sq.toldQ S o.kind o.a o.b o.x ch).2 → Fr T H H' → (∀ b, T' b → T b ∨ H.size ≤ b) → K (.agg #[.int .i64 (Sq.toldQ S o.kind o.a o.b o.x ch).1.1, .int .i64 (Sq.toldQ S o.kind o.a o.b o.x ch).1.2]) H') :
    CallsH Try.prog 34 #[.pointer (some ⟨f, 0, none⟩), o.val, .bool ch] H K := by
  cases ch with
  | false =>
    by_cases h3 : o.kind = 3
    · exact told_3_ask hM ho h3 fin
    by_cases h7 : o.kind = 7
    · cases hs : (S.sameQ o.a o.b).1 with
      | true => exact told_7_ask_true hM ho h7 hs fin
      | false => exact told_7_ask_false hM ho h7 hs fin
    by_cases h8 : o.kind = 8
    · exact told_8_ask hM ho h8 fin
    by_cases h9 : o.kind = 9
    · exact told_9_ask hM ho h9 fin
    by_cases h10 : o.kind = 10
    · exact told_10_ask hM ho h10 fin
    by_cases h11 : o.kind = 11
    · exact told_11_ask hM ho h11 fin
    exact told_none_ask hM ⟨h3, h7, h8, h9, h10, h11⟩ fin
  | true =>
    by_cases h3 : o.kind = 3
    · exact told_3_yes hM ho h3 fin
    by_cases h7 : o.kind = 7
    · cases hs : (S.sameQ o.a o.b).1 with
      | true => exact told_7_yes_true hM ho h7 hs fin
      | false => exact told_7_yes_false hM ho h7 hs fin
    by_cases h8 : o.kind = 8
    · exact told_8_yes hM ho h8 fin
    by_cases h9 : o.kind = 9
    · exact told_9_yes hM ho h9 fin
    by_cases h10 : o.kind = 10
    · exact told_10_yes hM ho h10 fin
    by_cases h11 : o.kind = 11
    · exact told_11_yes hM ho h11 fin
    by_cases h1 : o.kind = 1
    · exact told_1_yes hM ho h1 fin
    by_cases h2 : o.kind = 2
    · exact told_2_yes hM ho h2 fin
    by_cases h4 : o.kind = 4
    · exact told_4_yes hM ho h4 fin
    by_cases h5 : o.kind = 5
    · exact told_5_yes hM ho h5 fin
    by_cases h6 : o.kind = 6
    · exact told_6_yes hM ho h6 fin
    exact told_no_yes hM ho ⟨h1, h2, h3, h4, h5, h6, h7, h8, h9, h10, h11⟩ fin
end
end Go.Proofs.Ytndkbhlfbeiniaa
