/-
  ArenaPlays returns true, whatever it is given, and writes nothing that was there.
-/
import Derived.Test.YtkfcbgnodjgdcaaArTInt
import Derived.Test.YtkfcbgnodjgdcaaArTStr
import Derived.Test.YtkfcbgnodjgdcaaArEInt
import Derived.Test.YtkfcbgnodjgdcaaArEStr
import Derived.Test.YtkfcbgnodjgdcaaArL
namespace Go.Proofs.Ytkfcbgnodjgdcaa
open Go Go.Hp
set_option linter.all false
set_option maxRecDepth 100000
set_option maxHeartbeats 1600000
theorem rd_text {H : Heap} {g : Nat} {a b c : Int} (h : Blk H g [.int .u8 a, .int .u8 b, .int .u8 c]) : ∃ t, Rd Try.prog H (convert 93 9 (.slice (some ⟨g, 0, none⟩) 3 3)) (.string t) := by
  have u1 : Rd Try.prog H (underlying 93) (.slice 5) := Rd.bind Rd.program (by rw [show Try.prog.underlying 93 = some (.slice 5) by kernel_rfl]; exact Rd.ret _)
  have u2 : Rd Try.prog H (underlying 9) .string := Rd.bind Rd.program (by rw [show Try.prog.underlying 9 = some .string by kernel_rfl]; exact Rd.ret _)
  have u3 : Rd Try.prog H (underlying 5) (.int .u8) := Rd.bind Rd.program (by rw [show Try.prog.underlying 5 = some (.int .u8) by kernel_rfl]; exact Rd.ret _)
  refine ⟨((ByteArray.empty.push (UInt8.ofNat a.toNat)).push (UInt8.ofNat b.toNat)).push (UInt8.ofNat c.toNat), ?_⟩
  unfold convert
  refine Rd.bind u1 (Rd.bind u2 ?_)
  refine Rd.bind u3 ?_
  unfold Conv.bytesToString
  have hl : Rd Try.prog H (loadCells ⟨g, 0, none⟩ 3) #[.int .u8 a, .int .u8 b, .int .u8 c] := by
    have := rd_loadCellsFrom (P := Try.prog) (H := H) (a := ⟨g, 0, none⟩) 3 0 [.int .u8 a, .int .u8 b, .int .u8 c] [] rfl (fun j hj => by
      have h3 : j = 0 ∨ j = 1 ∨ j = 2 := by omega
      rcases h3 with rfl | rfl | rfl
      · exact h.cellOf (i := 0) rfl
      · exact h.cellOf (i := 1) rfl
      · exact h.cellOf (i := 2) rfl)
    simpa [loadCells] using this
  refine Rd.bind hl ?_
  exact Rd.ret _
theorem text_ok {H : Heap} {v : Int} {K : Value → Heap → Prop} (fin : ∀ t H', Fr (fun _ => False) H H' → K (.string t) H') : CallsH Try.prog 24 #[.int .i64 v] H K := by
  refine call24 (by simp) ?_
  simp only [Try.f24, Option.getD_some]
  repeat' (first
    | (with_reducible first | refine seq_normal ?_ | (refine hK _ _ ?_; clear hK K) | refine x_seq (fun K hK => ?_) | refine x_nil ?_ | refine x_block ?_ | refine x_skip ?_ | refine x_exit ?_ | refine x_ret ?_ | refine x_label ?_ | refine x_scope ?_ | (refine seq_ret ?_; clear hK K) | (refine seq_exit ?_; clear hK K) | refine block_normal ?_ | refine block_ret ?_ | refine block_exit ?_ | refine loop_exit ?_ | refine loop_ret ?_)
    | ((with_reducible refine x_reg_lit ?hq ?_); case hq => rfl)
    | ((first | (with_reducible first | refine x_op (fun K hK => ?_) | refine end_ret ?_ | refine end_normal ?_) | ((with_reducible refine x_guard_yes ?hy (fun K hK => ?_)); case hy => rfl)); simp only [go_sem, Int.cast_ofNat_Int, Nat.reduceEqDiff, Nat.reduceAdd, Nat.reduceMul, Nat.reduceLeDiff, Nat.reduceLT, Int.reduceLT, Int.reduceLE, Int.reduceEq, Int.reduceNeg, Int.reduceToNat, Nat.reducePow, reduceIte, reduceCtorEq])
    | ((with_reducible first | refine x_guard_no ?hy ?_ | refine x_cond_true ?hy ?_); case hy => rfl)
    | ((with_reducible first | refine x_guard_none ?hy ?_ | refine x_cond_false ?hy ?_); case hy => rfl)
    | ((with_reducible refine block_exit_ne ?hy ?_); case hy => decide))
  obtain ⟨t, ht⟩ := rd_text (Blk.new H [.int .u8 (IntKind.u8.wrap v), .int .u8 (IntKind.u8.wrap (v.fdiv (2 ^ min 8 64))), .int .u8 (IntKind.u8.wrap (v.fdiv (2 ^ min 16 64)))] 5)
  refine ⟨.string t, ht, ?_⟩
  repeat' (first
    | (with_reducible first | refine seq_normal ?_ | (refine hK _ _ ?_; clear hK K) | refine x_seq (fun K hK => ?_) | refine x_nil ?_ | refine x_block ?_ | refine x_skip ?_ | refine x_exit ?_ | refine x_ret ?_ | refine x_label ?_ | refine x_scope ?_ | (refine seq_ret ?_; clear hK K) | (refine seq_exit ?_; clear hK K) | refine block_normal ?_ | refine block_ret ?_ | refine block_exit ?_ | refine loop_exit ?_ | refine loop_ret ?_)
    | ((with_reducible refine x_reg_lit ?hq ?_); case hq => rfl)
    | ((first | (with_reducible first | refine x_op (fun K hK => ?_) | refine end_ret ?_ | refine end_normal ?_) | ((with_reducible refine x_guard_yes ?hy (fun K hK => ?_)); case hy => rfl)); simp only [go_sem, Int.cast_ofNat_Int, Nat.reduceEqDiff, Nat.reduceAdd, Nat.reduceMul, Nat.reduceLeDiff, Nat.reduceLT, Int.reduceLT, Int.reduceLE, Int.reduceEq, Int.reduceNeg, Int.reduceToNat, Nat.reducePow, reduceIte, reduceCtorEq])
    | ((with_reducible first | refine x_guard_no ?hy ?_ | refine x_cond_true ?hy ?_); case hy => rfl)
    | ((with_reducible first | refine x_guard_none ?hy ?_ | refine x_cond_false ?hy ?_); case hy => rfl)
    | ((with_reducible refine block_exit_ne ?hy ?_); case hy => decide))
  exact fin t _ (by ((repeat (first | refine Fr.set ?_ (by simp) _ | refine Fr.push ?_ _)); exact Fr.refl _ _))
/-- A call of a script. -/
structure ArOp where
  kind : Int
  h : Int
  v : Int
  other : Bool
def ArOp.cells (o : ArOp) (b n : Nat) : List (Nat × Nat × Value) := [(b, n, .int .i64 o.kind), (b, n + 1, .int .i64 o.h), (b, n + 2, .int .i64 o.v), (b, n + 3, .bool o.other)]
/-- A script that came in reads as zs. -/
def InArOps (H : Heap) (a : Option Addr) (len : Nat) (zs : Nat → ArOp) : Prop :=
  ∀ i, i < len → ∃ b n, a = some ⟨b, n, none⟩ ∧ Cells ((zs i).cells b (n + i * 4)) H
theorem InArOps.frame {H H' : Heap} {a : Option Addr} {len : Nat} {zs : Nat → ArOp} (h : InArOps H a len zs) (hf : Fr (fun _ => False) H H') : InArOps H' a len zs := fun i hi => by
  obtain ⟨b, n, h1, h2⟩ := h i hi
  exact ⟨b, n, h1, h2.grow hf⟩
abbrev SdI := Sd (Value.int .i64) [.int .i64 0]
abbrev SdS := Sd Value.string [.string ⟨#[]⟩]
/-- Two sides apart. -/
structure TwoS (H0 H : Heap) (s t : Nat) (cs ct : Nat → Nat) : Prop where
  a : SdI H s cs
  b : SdS H t ct
  fr : Fr (fun _ => False) H0 H
  na : ∀ b, cs b ≠ 0 → H0.size ≤ b
  nb : ∀ b, ct b ≠ 0 → H0.size ≤ b
  ap : ∀ b, cs b ≠ 0 → ct b ≠ 0 → False
section
variable {H0 H H' : Heap} {s t : Nat} {cs ct c' : Nat → Nat}
theorem TwoS.opA (h : TwoS H0 H s t cs ct) (hs : SdI H' s c') (n : Nx cs c' H H') : TwoS H0 H' s t c' ct where
  a := hs
  b := h.b.grow n.fr fun b hb e => h.ap b e hb
  fr := h.fr.trans' n.fr fun b hb e => by have := h.na b e; omega
  na := fun b hb => by
    rcases n.own b hb with e | e
    · exact h.na b e
    · exact Nat.le_trans h.fr.size e
  nb := h.nb
  ap := fun b hb hc => by
    rcases n.own b hb with e | e
    · exact h.ap b e hc
    · have := h.b.lt hc; omega
theorem TwoS.opB (h : TwoS H0 H s t cs ct) (hs : SdS H' t c') (n : Nx ct c' H H') : TwoS H0 H' s t cs c' where
  a := h.a.grow n.fr fun b hb e => h.ap b hb e
  b := hs
  fr := h.fr.trans' n.fr fun b hb e => by have := h.nb b e; omega
  na := h.na
  nb := fun b hb => by
    rcases n.own b hb with e | e
    · exact h.nb b e
    · exact Nat.le_trans h.fr.size e
  ap := fun b hb hc => by
    rcases n.own b hc with e | e
    · exact h.ap b hb e
    · have := h.a.lt hb; omega
theorem TwoS.grow (h : TwoS H0 H s t cs ct) (hf : Fr (fun _ => False) H H') : TwoS H0 H' s t cs ct where
  a := h.a.grow hf fun _ _ h => h
  b := h.b.grow hf fun _ _ h => h
  fr := h.fr.trans hf
  na := h.na
  nb := h.nb
  ap := h.ap
end
open Classical in
noncomputable def col0 (s p g : Nat) (T : Nat → Prop) (b : Nat) : Nat := if b = s then 1 else if b = p ∨ b = g then 2 else if T b then 3 else 0
theorem Sd.init {α : Type} {C : α → Value} {z : List Value} {H : Heap} {s p g q n : Nat} {T : Nat → Prop} (hA : ArAt H p g 1 z (Ar.new n)) (hr : RfM H q T ⟨n, [false], []⟩)
    (hb : Blk H s [.pointer (some ⟨p, 0, none⟩), .pointer (some ⟨q, 0, none⟩), .slice none 0 0, .slice none 0 0, .slice none 0 0]) (h1 : s ≠ p) (h2 : s ≠ g) (h3 : ∀ b, T b → b ≠ s ∧ b ≠ p ∧ b ≠ g) :
    Sd C z H s (col0 s p g T) ∧ ∀ b, col0 s p g T b ≠ 0 → b = s ∨ b = p ∨ b = g ∨ T b := by
  have hpg : p < H.size ∧ g < H.size := by
    obtain ⟨c, rest, b1, b2, _⟩ := hA.at_
    exact ⟨b1.lt, b2.lt⟩
  have hc : ∀ b, col0 s p g T b ≠ 0 → b = s ∨ b = p ∨ b = g ∨ T b := by
    intro b h
    unfold col0 at h
    by_cases e1 : b = s
    · exact .inl e1
    · rw [if_neg e1] at h
      by_cases e2 : b = p ∨ b = g
      · rcases e2 with e | e
        · exact .inr (.inl e)
        · exact .inr (.inr (.inl e))
      · rw [if_neg e2] at h
        by_cases e3 : T b
        · exact .inr (.inr (.inr e3))
        · rw [if_neg e3] at h; exact absurd rfl h
  refine ⟨⟨Ar.new n, [], [], p, g, q, T, none, _, fun _ => False, _, fun _ => False, _, ⟨hb, hA, hr, OR.nil _ _, LL.nil _ _, LL.nil _ _, if_pos rfl, ?_, ?_, fun b hT => ?_, fun b h => (by cases h), fun b h => h.elim, fun b h => h.elim, fun b h => ?_⟩, fun h v hv => ?_, by simp, by simp, fun j xs h => (by cases h)⟩, hc⟩
  · unfold col0; rw [if_neg (fun e => h1 e.symm), if_pos (.inl rfl)]
  · unfold col0; rw [if_neg (fun e => h2 e.symm), if_pos (.inr rfl)]
  · obtain ⟨x1, x2, x3⟩ := h3 b hT
    unfold col0; rw [if_neg x1, if_neg (fun e => e.elim x2 x3), if_pos hT]
  · rcases hc b h with rfl | rfl | rfl | h
    · exact hb.lt
    · exact hpg.1
    · exact hpg.2
    · exact hr.lt h
  · exfalso
    unfold Ar.get Ar.new at hv
    rcases h with _ | h
    · simp at hv
    · simp at hv
section
variable {H0 H : Heap} {e : Env} {Q : HX → Env → Heap → Prop} {s t : Nat} {cs ct : Nat → Nat}
theorem playsLoop {a : Option Addr} {n c : Nat} {zs : Nat → ArOp} (hin : InArOps H0 a n zs) (hn : n ≤ 9223372036854775807) (hT : TwoS H0 H s t cs ct)
    (e2 : e 2 = .slice a n c) (e16 : e 16 = .pointer (some ⟨s, 0, none⟩)) (e17 : e 17 = .pointer (some ⟨t, 0, none⟩)) (e18 : e 18 = .int .i64 0)
    (fin : ∀ e' H' cs' ct', e' 16 = .pointer (some ⟨s, 0, none⟩) → e' 17 = .pointer (some ⟨t, 0, none⟩) → TwoS H0 H' s t cs' ct' → Q .normal e' H') :
    codeX Try.prog [18] (loopAt Try.f5.body 0) (blockQ 0 Q) e H := by
  refine x_loop (fun m e' H' => ∃ (i : Nat) (cs' ct' : Nat → Nat), e' 18 = .int .i64 (i : Nat) ∧ TwoS H0 H' s t cs' ct' ∧ i ≤ n ∧ m = n - i) n ⟨0, cs, ct, e18, hT, Nat.zero_le _, rfl⟩ ?_
  rintro m e1 H1 ⟨i, cs1, ct1, i18, hT1, hi, rfl⟩ hoff
  have i2 := (hoff 2 rfl).trans e2
  have i16 := (hoff 16 rfl).trans e16
  have i17 := (hoff 17 rfl).trans e17
  clear hoff e2 e16 e17 e18
  by_cases hlt : i < n
  · have ew : IntKind.i64.wrap ((i : Int) + 1) = ((i + 1 : Nat) : Int) := by rw [wrap_i64] <;> omega
    obtain ⟨b, o, rfl, qc⟩ := (hin.frame hT1.fr) i hlt
    have qc0 := qc
    obtain ⟨k0, k1, k2, k3, -⟩ := qc0
    cases hot : (zs i).other with
    | true =>
      rw [hot] at k3
      repeat' (first
        | (with_reducible first | refine seq_normal ?_ | (refine hK _ _ ?_; clear hK K) | refine x_seq (fun K hK => ?_) | refine x_nil ?_ | refine x_block ?_ | refine x_skip ?_ | refine x_exit ?_ | refine x_ret ?_ | refine x_label ?_ | refine x_scope ?_ | (refine seq_ret ?_; clear hK K) | (refine seq_exit ?_; clear hK K) | refine block_normal ?_ | refine block_ret ?_ | refine block_exit ?_ | refine loop_exit ?_ | refine loop_ret ?_)
        | ((with_reducible refine x_reg_lit ?hq ?_); case hq => rfl)
        | ((first | (with_reducible first | refine x_op (fun K hK => ?_) | refine end_ret ?_ | refine end_normal ?_) | ((with_reducible refine x_guard_yes ?hy (fun K hK => ?_)); case hy => rfl)); simp only [go_sem, Int.cast_ofNat_Int, Nat.reduceEqDiff, Nat.reduceAdd, Nat.reduceMul, Nat.reduceLeDiff, Nat.reduceLT, Int.reduceLT, Int.reduceLE, Int.reduceEq, Int.reduceNeg, Int.reduceToNat, Nat.reducePow, reduceIte, reduceCtorEq, i2, i16, i17, i18, hlt, k3])
        | ((with_reducible first | refine x_guard_no ?hy ?_ | refine x_cond_true ?hy ?_); case hy => rfl)
        | ((with_reducible first | refine x_guard_none ?hy ?_ | refine x_cond_false ?hy ?_); case hy => rfl)
        | ((with_reducible refine block_exit_ne ?hy ?_); case hy => decide))
      have qc : Cells [(b, o + i * 4, .int .i64 (zs i).kind), (b, o + i * 4 + 1, .int .i64 (zs i).h), (b, o + i * 4 + 2, .int .i64 (zs i).v), (b, o + i * 4 + 3, .bool (zs i).other)] H1 := qc
      refine x_drawS [] [0, 1, 2, 3, 4, 5, 6, 7, 8, 9, 10, 11, 12] rfl (by kernel_rfl) (Cells _) qc ?_
      repeat' (first
        | (with_reducible refine xs_nil ?_)
        | ((with_reducible apply xs_rd); (case hi => rfl); (case hr => rfl); (case h1 => intro H' hS'; (try simp only [Cells, and_true] at hS'); simp only [go_sem, Int.cast_ofNat_Int, Nat.reduceEqDiff, Nat.reduceAdd, Nat.reduceMul, Nat.reduceLeDiff, Nat.reduceLT, Int.reduceLT, Int.reduceLE, Int.reduceEq, Int.reduceNeg, Int.reduceToNat, Nat.reducePow, reduceIte, reduceCtorEq, i2, i16, i17, i18, hlt, hS']; rfl))
        | ((with_reducible apply xs_guard_yes); (case hi => rfl); (case hr => rfl); (case hy => rfl); (case h1 => intro H' hS'; (try simp only [Cells, and_true] at hS'); simp only [go_sem, Int.cast_ofNat_Int, Nat.reduceEqDiff, Nat.reduceAdd, Nat.reduceMul, Nat.reduceLeDiff, Nat.reduceLT, Int.reduceLT, Int.reduceLE, Int.reduceEq, Int.reduceNeg, Int.reduceToNat, Nat.reducePow, reduceIte, reduceCtorEq, i2, i16, i17, i18, hlt, hS']; rfl))
        | ((with_reducible refine xs_tail ?hz ?_); case hz => rfl)
        | ((with_reducible refine xs_keep ?hz ?_); case hz => first | assumption | (simp only [go_sem, Int.cast_ofNat_Int, Nat.reduceEqDiff, Nat.reduceAdd, Nat.reduceMul, Nat.reduceLeDiff, Nat.reduceLT, Int.reduceLT, Int.reduceLE, Int.reduceEq, Int.reduceNeg, Int.reduceToNat, Nat.reducePow, reduceIte, reduceCtorEq, Cells, and_true, i2, i16, i17, i18, hlt]))
        | ((with_reducible apply xs_guard_no); (case hi => rfl); (case hy => rfl); (case hS => assumption))
        | ((first | ((with_reducible apply xs_op); (case hi => rfl)) | ((with_reducible apply xs_op_yes); (case hi => rfl); (case hy => rfl))); (case hr => rfl); intro K hK; simp only [go_sem, Int.cast_ofNat_Int, Nat.reduceEqDiff, Nat.reduceAdd, Nat.reduceMul, Nat.reduceLeDiff, Nat.reduceLT, Int.reduceLT, Int.reduceLE, Int.reduceEq, Int.reduceNeg, Int.reduceToNat, Nat.reducePow, reduceIte, reduceCtorEq, i2, i16, i17, i18, hlt])
        | (with_reducible first | refine seq_normal ?_ | (refine hK _ _ ?_; clear hK K) | refine x_seq (fun K hK => ?_) | refine x_nil ?_ | refine x_block ?_ | refine x_skip ?_ | refine x_exit ?_ | refine x_ret ?_ | refine x_label ?_ | refine x_scope ?_ | (refine seq_ret ?_; clear hK K) | (refine seq_exit ?_; clear hK K) | refine block_normal ?_ | refine block_ret ?_ | refine block_exit ?_ | refine loop_exit ?_ | refine loop_ret ?_)
        | ((with_reducible refine x_reg_lit ?hq ?_); case hq => rfl)
        | ((first | (with_reducible first | refine x_op (fun K hK => ?_) | refine end_ret ?_ | refine end_normal ?_) | ((with_reducible refine x_guard_yes ?hy (fun K hK => ?_)); case hy => rfl)); simp only [go_sem, Int.cast_ofNat_Int, Nat.reduceEqDiff, Nat.reduceAdd, Nat.reduceMul, Nat.reduceLeDiff, Nat.reduceLT, Int.reduceLT, Int.reduceLE, Int.reduceEq, Int.reduceNeg, Int.reduceToNat, Nat.reducePow, reduceIte, reduceCtorEq, i2, i16, i17, i18, hlt])
        | ((with_reducible first | refine x_guard_no ?hy ?_ | refine x_cond_true ?hy ?_); case hy => rfl)
        | ((with_reducible first | refine x_guard_none ?hy ?_ | refine x_cond_false ?hy ?_); case hy => rfl)
        | ((with_reducible refine block_exit_ne ?hy ?_); case hy => decide))
      refine text_ok ?_
      intro tx H2 hf2
      have q2 := qc.grow hf2
      have hT2 := hT1.grow hf2
      repeat' (first
        | (with_reducible refine xs_nil ?_)
        | ((with_reducible apply xs_rd); (case hi => rfl); (case hr => rfl); (case h1 => intro H' hS'; (try simp only [Cells, and_true] at hS'); simp only [go_sem, Int.cast_ofNat_Int, Nat.reduceEqDiff, Nat.reduceAdd, Nat.reduceMul, Nat.reduceLeDiff, Nat.reduceLT, Int.reduceLT, Int.reduceLE, Int.reduceEq, Int.reduceNeg, Int.reduceToNat, Nat.reducePow, reduceIte, reduceCtorEq, i2, i16, i17, i18, hlt, q2, hS']; rfl))
        | ((with_reducible apply xs_guard_yes); (case hi => rfl); (case hr => rfl); (case hy => rfl); (case h1 => intro H' hS'; (try simp only [Cells, and_true] at hS'); simp only [go_sem, Int.cast_ofNat_Int, Nat.reduceEqDiff, Nat.reduceAdd, Nat.reduceMul, Nat.reduceLeDiff, Nat.reduceLT, Int.reduceLT, Int.reduceLE, Int.reduceEq, Int.reduceNeg, Int.reduceToNat, Nat.reducePow, reduceIte, reduceCtorEq, i2, i16, i17, i18, hlt, q2, hS']; rfl))
        | ((with_reducible refine xs_tail ?hz ?_); case hz => rfl)
        | ((with_reducible refine xs_keep ?hz ?_); case hz => first | assumption | (simp only [go_sem, Int.cast_ofNat_Int, Nat.reduceEqDiff, Nat.reduceAdd, Nat.reduceMul, Nat.reduceLeDiff, Nat.reduceLT, Int.reduceLT, Int.reduceLE, Int.reduceEq, Int.reduceNeg, Int.reduceToNat, Nat.reducePow, reduceIte, reduceCtorEq, Cells, and_true, i2, i16, i17, i18, hlt, q2]))
        | ((with_reducible apply xs_guard_no); (case hi => rfl); (case hy => rfl); (case hS => assumption))
        | ((first | ((with_reducible apply xs_op); (case hi => rfl)) | ((with_reducible apply xs_op_yes); (case hi => rfl); (case hy => rfl))); (case hr => rfl); intro K hK; simp only [go_sem, Int.cast_ofNat_Int, Nat.reduceEqDiff, Nat.reduceAdd, Nat.reduceMul, Nat.reduceLeDiff, Nat.reduceLT, Int.reduceLT, Int.reduceLE, Int.reduceEq, Int.reduceNeg, Int.reduceToNat, Nat.reducePow, reduceIte, reduceCtorEq, i2, i16, i17, i18, hlt, q2])
        | (with_reducible first | refine seq_normal ?_ | (refine hK _ _ ?_; clear hK K) | refine x_seq (fun K hK => ?_) | refine x_nil ?_ | refine x_block ?_ | refine x_skip ?_ | refine x_exit ?_ | refine x_ret ?_ | refine x_label ?_ | refine x_scope ?_ | (refine seq_ret ?_; clear hK K) | (refine seq_exit ?_; clear hK K) | refine block_normal ?_ | refine block_ret ?_ | refine block_exit ?_ | refine loop_exit ?_ | refine loop_ret ?_)
        | ((with_reducible refine x_reg_lit ?hq ?_); case hq => rfl)
        | ((first | (with_reducible first | refine x_op (fun K hK => ?_) | refine end_ret ?_ | refine end_normal ?_) | ((with_reducible refine x_guard_yes ?hy (fun K hK => ?_)); case hy => rfl)); simp only [go_sem, Int.cast_ofNat_Int, Nat.reduceEqDiff, Nat.reduceAdd, Nat.reduceMul, Nat.reduceLeDiff, Nat.reduceLT, Int.reduceLT, Int.reduceLE, Int.reduceEq, Int.reduceNeg, Int.reduceToNat, Nat.reducePow, reduceIte, reduceCtorEq, i2, i16, i17, i18, hlt, q2])
        | ((with_reducible first | refine x_guard_no ?hy ?_ | refine x_cond_true ?hy ?_); case hy => rfl)
        | ((with_reducible first | refine x_guard_none ?hy ?_ | refine x_cond_false ?hy ?_); case hy => rfl)
        | ((with_reducible refine block_exit_ne ?hy ?_); case hy => decide))
      refine ArTStr.step_ok hT2.b ?_
      intro H3 c3 hS3 n3
      have hT3 := hT2.opB hS3 n3
      obtain ⟨b', o', hbo, q3⟩ := (hin.frame hT3.fr) i hlt
      simp only [Option.some.injEq, Addr.mk.injEq, and_true] at hbo
      obtain ⟨rfl, rfl⟩ := hbo
      have q3 : Cells [(b, o + i * 4, .int .i64 (zs i).kind), (b, o + i * 4 + 1, .int .i64 (zs i).h), (b, o + i * 4 + 2, .int .i64 (zs i).v), (b, o + i * 4 + 3, .bool (zs i).other)] H3 := q3
      repeat' (first
        | (with_reducible refine xs_nil ?_)
        | ((with_reducible apply xs_rd); (case hi => rfl); (case hr => rfl); (case h1 => intro H' hS'; (try simp only [Cells, and_true] at hS'); simp only [go_sem, Int.cast_ofNat_Int, Nat.reduceEqDiff, Nat.reduceAdd, Nat.reduceMul, Nat.reduceLeDiff, Nat.reduceLT, Int.reduceLT, Int.reduceLE, Int.reduceEq, Int.reduceNeg, Int.reduceToNat, Nat.reducePow, reduceIte, reduceCtorEq, i2, i16, i17, i18, hlt, q3, ew, hS']; rfl))
        | ((with_reducible apply xs_guard_yes); (case hi => rfl); (case hr => rfl); (case hy => rfl); (case h1 => intro H' hS'; (try simp only [Cells, and_true] at hS'); simp only [go_sem, Int.cast_ofNat_Int, Nat.reduceEqDiff, Nat.reduceAdd, Nat.reduceMul, Nat.reduceLeDiff, Nat.reduceLT, Int.reduceLT, Int.reduceLE, Int.reduceEq, Int.reduceNeg, Int.reduceToNat, Nat.reducePow, reduceIte, reduceCtorEq, i2, i16, i17, i18, hlt, q3, ew, hS']; rfl))
        | ((with_reducible refine xs_tail ?hz ?_); case hz => rfl)
        | ((with_reducible refine xs_keep ?hz ?_); case hz => first | assumption | (simp only [go_sem, Int.cast_ofNat_Int, Nat.reduceEqDiff, Nat.reduceAdd, Nat.reduceMul, Nat.reduceLeDiff, Nat.reduceLT, Int.reduceLT, Int.reduceLE, Int.reduceEq, Int.reduceNeg, Int.reduceToNat, Nat.reducePow, reduceIte, reduceCtorEq, Cells, and_true, i2, i16, i17, i18, hlt, q3, ew]))
        | ((with_reducible apply xs_guard_no); (case hi => rfl); (case hy => rfl); (case hS => assumption))
        | ((first | ((with_reducible apply xs_op); (case hi => rfl)) | ((with_reducible apply xs_op_yes); (case hi => rfl); (case hy => rfl))); (case hr => rfl); intro K hK; simp only [go_sem, Int.cast_ofNat_Int, Nat.reduceEqDiff, Nat.reduceAdd, Nat.reduceMul, Nat.reduceLeDiff, Nat.reduceLT, Int.reduceLT, Int.reduceLE, Int.reduceEq, Int.reduceNeg, Int.reduceToNat, Nat.reducePow, reduceIte, reduceCtorEq, i2, i16, i17, i18, hlt, q3, ew])
        | (with_reducible first | refine seq_normal ?_ | (refine hK _ _ ?_; clear hK K) | refine x_seq (fun K hK => ?_) | refine x_nil ?_ | refine x_block ?_ | refine x_skip ?_ | refine x_exit ?_ | refine x_ret ?_ | refine x_label ?_ | refine x_scope ?_ | (refine seq_ret ?_; clear hK K) | (refine seq_exit ?_; clear hK K) | refine block_normal ?_ | refine block_ret ?_ | refine block_exit ?_ | refine loop_exit ?_ | refine loop_ret ?_)
        | ((with_reducible refine x_reg_lit ?hq ?_); case hq => rfl)
        | ((first | (with_reducible first | refine x_op (fun K hK => ?_) | refine end_ret ?_ | refine end_normal ?_) | ((with_reducible refine x_guard_yes ?hy (fun K hK => ?_)); case hy => rfl)); simp only [go_sem, Int.cast_ofNat_Int, Nat.reduceEqDiff, Nat.reduceAdd, Nat.reduceMul, Nat.reduceLeDiff, Nat.reduceLT, Int.reduceLT, Int.reduceLE, Int.reduceEq, Int.reduceNeg, Int.reduceToNat, Nat.reducePow, reduceIte, reduceCtorEq, i2, i16, i17, i18, hlt, q3, ew])
        | ((with_reducible first | refine x_guard_no ?hy ?_ | refine x_cond_true ?hy ?_); case hy => rfl)
        | ((with_reducible first | refine x_guard_none ?hy ?_ | refine x_cond_false ?hy ?_); case hy => rfl)
        | ((with_reducible refine block_exit_ne ?hy ?_); case hy => decide))
      exact loop_normal (m' := n - (i + 1)) (by omega) ⟨i + 1, _, _, rfl, hT3, hlt, rfl⟩
    | false =>
      rw [hot] at k3
      repeat' (first
        | (with_reducible first | refine seq_normal ?_ | (refine hK _ _ ?_; clear hK K) | refine x_seq (fun K hK => ?_) | refine x_nil ?_ | refine x_block ?_ | refine x_skip ?_ | refine x_exit ?_ | refine x_ret ?_ | refine x_label ?_ | refine x_scope ?_ | (refine seq_ret ?_; clear hK K) | (refine seq_exit ?_; clear hK K) | refine block_normal ?_ | refine block_ret ?_ | refine block_exit ?_ | refine loop_exit ?_ | refine loop_ret ?_)
        | ((with_reducible refine x_reg_lit ?hq ?_); case hq => rfl)
        | ((first | (with_reducible first | refine x_op (fun K hK => ?_) | refine end_ret ?_ | refine end_normal ?_) | ((with_reducible refine x_guard_yes ?hy (fun K hK => ?_)); case hy => rfl)); simp only [go_sem, Int.cast_ofNat_Int, Nat.reduceEqDiff, Nat.reduceAdd, Nat.reduceMul, Nat.reduceLeDiff, Nat.reduceLT, Int.reduceLT, Int.reduceLE, Int.reduceEq, Int.reduceNeg, Int.reduceToNat, Nat.reducePow, reduceIte, reduceCtorEq, i2, i16, i17, i18, hlt, k0, k1, k2, k3])
        | ((with_reducible first | refine x_guard_no ?hy ?_ | refine x_cond_true ?hy ?_); case hy => rfl)
        | ((with_reducible first | refine x_guard_none ?hy ?_ | refine x_cond_false ?hy ?_); case hy => rfl)
        | ((with_reducible refine block_exit_ne ?hy ?_); case hy => decide))
      refine ArTInt.step_ok hT1.a ?_
      intro H2 c2 hS2 n2
      have hT2 := hT1.opA hS2 n2
      repeat' (first
        | (with_reducible first | refine seq_normal ?_ | (refine hK _ _ ?_; clear hK K) | refine x_seq (fun K hK => ?_) | refine x_nil ?_ | refine x_block ?_ | refine x_skip ?_ | refine x_exit ?_ | refine x_ret ?_ | refine x_label ?_ | refine x_scope ?_ | (refine seq_ret ?_; clear hK K) | (refine seq_exit ?_; clear hK K) | refine block_normal ?_ | refine block_ret ?_ | refine block_exit ?_ | refine loop_exit ?_ | refine loop_ret ?_)
        | ((with_reducible refine x_reg_lit ?hq ?_); case hq => rfl)
        | ((first | (with_reducible first | refine x_op (fun K hK => ?_) | refine end_ret ?_ | refine end_normal ?_) | ((with_reducible refine x_guard_yes ?hy (fun K hK => ?_)); case hy => rfl)); simp only [go_sem, Int.cast_ofNat_Int, Nat.reduceEqDiff, Nat.reduceAdd, Nat.reduceMul, Nat.reduceLeDiff, Nat.reduceLT, Int.reduceLT, Int.reduceLE, Int.reduceEq, Int.reduceNeg, Int.reduceToNat, Nat.reducePow, reduceIte, reduceCtorEq, i18, ew])
        | ((with_reducible first | refine x_guard_no ?hy ?_ | refine x_cond_true ?hy ?_); case hy => rfl)
        | ((with_reducible first | refine x_guard_none ?hy ?_ | refine x_cond_false ?hy ?_); case hy => rfl)
        | ((with_reducible refine block_exit_ne ?hy ?_); case hy => decide))
      exact loop_normal (m' := n - (i + 1)) (by omega) ⟨i + 1, _, _, rfl, hT2, hlt, rfl⟩
  · have t1 : (i < n) = False := by simp [hlt]
    repeat' (first
      | (with_reducible first | refine seq_normal ?_ | (refine hK _ _ ?_; clear hK K) | refine x_seq (fun K hK => ?_) | refine x_nil ?_ | refine x_block ?_ | refine x_skip ?_ | refine x_exit ?_ | refine x_ret ?_ | refine x_label ?_ | refine x_scope ?_ | (refine seq_ret ?_; clear hK K) | (refine seq_exit ?_; clear hK K) | refine block_normal ?_ | refine block_ret ?_ | refine block_exit ?_ | refine loop_exit ?_ | refine loop_ret ?_)
      | ((with_reducible refine x_reg_lit ?hq ?_); case hq => rfl)
      | ((first | (with_reducible first | refine x_op (fun K hK => ?_) | refine end_ret ?_ | refine end_normal ?_) | ((with_reducible refine x_guard_yes ?hy (fun K hK => ?_)); case hy => rfl)); simp only [go_sem, Int.cast_ofNat_Int, Nat.reduceEqDiff, Nat.reduceAdd, Nat.reduceMul, Nat.reduceLeDiff, Nat.reduceLT, Int.reduceLT, Int.reduceLE, Int.reduceEq, Int.reduceNeg, Int.reduceToNat, Nat.reducePow, reduceIte, reduceCtorEq, i2, i18, t1])
      | ((with_reducible first | refine x_guard_no ?hy ?_ | refine x_cond_true ?hy ?_); case hy => rfl)
      | ((with_reducible first | refine x_guard_none ?hy ?_ | refine x_cond_false ?hy ?_); case hy => rfl)
      | ((with_reducible refine block_exit_ne ?hy ?_); case hy => decide))
    exact fin _ _ _ _ i16 i17 hT1
end
theorem arenaPlays {H : Heap} {one two : Int} {a : Option Addr} {n c : Nat} {zs : Nat → ArOp} {K : Value → Heap → Prop} (hin : InArOps H a n zs) (hn : n ≤ 9223372036854775807)
    (fin : ∀ H', Fr (fun _ => False) H H' → K (.bool true) H') : CallsH Try.prog 5 #[.int .i64 one, .int .i64 two, .slice a n c] H K := by
  refine call5 (by simp) ?_
  simp only [Try.f5, Option.getD_some]
  repeat' (first
    | (with_reducible first | refine seq_normal ?_ | (refine hK _ _ ?_; clear hK K) | refine x_seq (fun K hK => ?_) | refine x_nil ?_ | refine x_block ?_ | refine x_skip ?_ | refine x_exit ?_ | refine x_ret ?_ | refine x_label ?_ | refine x_scope ?_ | (refine seq_ret ?_; clear hK K) | (refine seq_exit ?_; clear hK K) | refine block_normal ?_ | refine block_ret ?_ | refine block_exit ?_ | refine loop_exit ?_ | refine loop_ret ?_)
    | ((with_reducible refine x_reg_lit ?hq ?_); case hq => rfl)
    | ((first | (with_reducible first | refine x_op (fun K hK => ?_) | refine end_ret ?_ | refine end_normal ?_) | ((with_reducible refine x_guard_yes ?hy (fun K hK => ?_)); case hy => rfl)); simp only [go_sem, Int.cast_ofNat_Int, Nat.reduceEqDiff, Nat.reduceAdd, Nat.reduceMul, Nat.reduceLeDiff, Nat.reduceLT, Int.reduceLT, Int.reduceLE, Int.reduceEq, Int.reduceNeg, Int.reduceToNat, Nat.reducePow, reduceIte, reduceCtorEq])
    | ((with_reducible first | refine x_guard_no ?hy ?_ | refine x_cond_true ?hy ?_); case hy => rfl)
    | ((with_reducible first | refine x_guard_none ?hy ?_ | refine x_cond_false ?hy ?_); case hy => rfl)
    | ((with_reducible refine block_exit_ne ?hy ?_); case hy => decide))
  refine awake_ok fun H1 hf1 => ?_
  repeat' (first
    | (with_reducible first | refine seq_normal ?_ | (refine hK _ _ ?_; clear hK K) | refine x_seq (fun K hK => ?_) | refine x_nil ?_ | refine x_block ?_ | refine x_skip ?_ | refine x_exit ?_ | refine x_ret ?_ | refine x_label ?_ | refine x_scope ?_ | (refine seq_ret ?_; clear hK K) | (refine seq_exit ?_; clear hK K) | refine block_normal ?_ | refine block_ret ?_ | refine block_exit ?_ | refine loop_exit ?_ | refine loop_ret ?_)
    | ((with_reducible refine x_reg_lit ?hq ?_); case hq => rfl)
    | ((first | (with_reducible first | refine x_op (fun K hK => ?_) | refine end_ret ?_ | refine end_normal ?_) | ((with_reducible refine x_guard_yes ?hy (fun K hK => ?_)); case hy => rfl)); simp only [go_sem, Int.cast_ofNat_Int, Nat.reduceEqDiff, Nat.reduceAdd, Nat.reduceMul, Nat.reduceLeDiff, Nat.reduceLT, Int.reduceLT, Int.reduceLE, Int.reduceEq, Int.reduceNeg, Int.reduceToNat, Nat.reducePow, reduceIte, reduceCtorEq])
    | ((with_reducible first | refine x_guard_no ?hy ?_ | refine x_cond_true ?hy ?_); case hy => rfl)
    | ((with_reducible first | refine x_guard_none ?hy ?_ | refine x_cond_false ?hy ?_); case hy => rfl)
    | ((with_reducible refine block_exit_ne ?hy ?_); case hy => decide))
  by_cases ho : 0 ≤ one ∧ one ≤ 4096
  · obtain ⟨n1, rfl⟩ := Int.eq_ofNat_of_zero_le ho.1
    refine ArInt.new_ok (by omega) fun H2 p g hA hf2 hp hg => ?_
    repeat' (first
      | (with_reducible first | refine seq_normal ?_ | (refine hK _ _ ?_; clear hK K) | refine x_seq (fun K hK => ?_) | refine x_nil ?_ | refine x_block ?_ | refine x_skip ?_ | refine x_exit ?_ | refine x_ret ?_ | refine x_label ?_ | refine x_scope ?_ | (refine seq_ret ?_; clear hK K) | (refine seq_exit ?_; clear hK K) | refine block_normal ?_ | refine block_ret ?_ | refine block_exit ?_ | refine loop_exit ?_ | refine loop_ret ?_)
      | ((with_reducible refine x_reg_lit ?hq ?_); case hq => rfl)
      | ((first | (with_reducible first | refine x_op (fun K hK => ?_) | refine end_ret ?_ | refine end_normal ?_) | ((with_reducible refine x_guard_yes ?hy (fun K hK => ?_)); case hy => rfl)); simp only [go_sem, Int.cast_ofNat_Int, Nat.reduceEqDiff, Nat.reduceAdd, Nat.reduceMul, Nat.reduceLeDiff, Nat.reduceLT, Int.reduceLT, Int.reduceLE, Int.reduceEq, Int.reduceNeg, Int.reduceToNat, Nat.reducePow, reduceIte, reduceCtorEq])
      | ((with_reducible first | refine x_guard_no ?hy ?_ | refine x_cond_true ?hy ?_); case hy => rfl)
      | ((with_reducible first | refine x_guard_none ?hy ?_ | refine x_cond_false ?hy ?_); case hy => rfl)
      | ((with_reducible refine block_exit_ne ?hy ?_); case hy => decide))
    by_cases ht : 0 ≤ two ∧ two ≤ 4096
    · obtain ⟨n2, rfl⟩ := Int.eq_ofNat_of_zero_le ht.1
      refine ArStr.new_ok (by omega) fun H3 p' g' hA' hf3 hp' hg' => ?_
      repeat' (first
        | (with_reducible first | refine seq_normal ?_ | (refine hK _ _ ?_; clear hK K) | refine x_seq (fun K hK => ?_) | refine x_nil ?_ | refine x_block ?_ | refine x_skip ?_ | refine x_exit ?_ | refine x_ret ?_ | refine x_label ?_ | refine x_scope ?_ | (refine seq_ret ?_; clear hK K) | (refine seq_exit ?_; clear hK K) | refine block_normal ?_ | refine block_ret ?_ | refine block_exit ?_ | refine loop_exit ?_ | refine loop_ret ?_)
        | ((with_reducible refine x_reg_lit ?hq ?_); case hq => rfl)
        | ((first | (with_reducible first | refine x_op (fun K hK => ?_) | refine end_ret ?_ | refine end_normal ?_) | ((with_reducible refine x_guard_yes ?hy (fun K hK => ?_)); case hy => rfl)); simp only [go_sem, Int.cast_ofNat_Int, Nat.reduceEqDiff, Nat.reduceAdd, Nat.reduceMul, Nat.reduceLeDiff, Nat.reduceLT, Int.reduceLT, Int.reduceLE, Int.reduceEq, Int.reduceNeg, Int.reduceToNat, Nat.reducePow, reduceIte, reduceCtorEq])
        | ((with_reducible first | refine x_guard_no ?hy ?_ | refine x_cond_true ?hy ?_); case hy => rfl)
        | ((with_reducible first | refine x_guard_none ?hy ?_ | refine x_cond_false ?hy ?_); case hy => rfl)
        | ((with_reducible refine block_exit_ne ?hy ?_); case hy => decide))
      refine rf_new (n := n1) (by omega) fun H4 q T hr hf4 hT => ?_
      repeat' (first
        | (with_reducible first | refine seq_normal ?_ | (refine hK _ _ ?_; clear hK K) | refine x_seq (fun K hK => ?_) | refine x_nil ?_ | refine x_block ?_ | refine x_skip ?_ | refine x_exit ?_ | refine x_ret ?_ | refine x_label ?_ | refine x_scope ?_ | (refine seq_ret ?_; clear hK K) | (refine seq_exit ?_; clear hK K) | refine block_normal ?_ | refine block_ret ?_ | refine block_exit ?_ | refine loop_exit ?_ | refine loop_ret ?_)
        | ((with_reducible refine x_reg_lit ?hq ?_); case hq => rfl)
        | ((first | (with_reducible first | refine x_op (fun K hK => ?_) | refine end_ret ?_ | refine end_normal ?_) | ((with_reducible refine x_guard_yes ?hy (fun K hK => ?_)); case hy => rfl)); simp only [go_sem, Int.cast_ofNat_Int, Nat.reduceEqDiff, Nat.reduceAdd, Nat.reduceMul, Nat.reduceLeDiff, Nat.reduceLT, Int.reduceLT, Int.reduceLE, Int.reduceEq, Int.reduceNeg, Int.reduceToNat, Nat.reducePow, reduceIte, reduceCtorEq])
        | ((with_reducible first | refine x_guard_no ?hy ?_ | refine x_cond_true ?hy ?_); case hy => rfl)
        | ((with_reducible first | refine x_guard_none ?hy ?_ | refine x_cond_false ?hy ?_); case hy => rfl)
        | ((with_reducible refine block_exit_ne ?hy ?_); case hy => decide))
      refine rf_new (n := n2) (by omega) fun H5 q' T' hr' hf5 hT' => ?_
      repeat' (first
        | (with_reducible first | refine seq_normal ?_ | (refine hK _ _ ?_; clear hK K) | refine x_seq (fun K hK => ?_) | refine x_nil ?_ | refine x_block ?_ | refine x_skip ?_ | refine x_exit ?_ | refine x_ret ?_ | refine x_label ?_ | refine x_scope ?_ | (refine seq_ret ?_; clear hK K) | (refine seq_exit ?_; clear hK K) | refine block_normal ?_ | refine block_ret ?_ | refine block_exit ?_ | refine loop_exit ?_ | refine loop_ret ?_)
        | ((with_reducible refine x_reg_lit ?hq ?_); case hq => rfl)
        | ((first | (with_reducible first | refine x_op (fun K hK => ?_) | refine end_ret ?_ | refine end_normal ?_) | ((with_reducible refine x_guard_yes ?hy (fun K hK => ?_)); case hy => rfl)); simp only [go_sem, Int.cast_ofNat_Int, Nat.reduceEqDiff, Nat.reduceAdd, Nat.reduceMul, Nat.reduceLeDiff, Nat.reduceLT, Int.reduceLT, Int.reduceLE, Int.reduceEq, Int.reduceNeg, Int.reduceToNat, Nat.reducePow, reduceIte, reduceCtorEq])
        | ((with_reducible first | refine x_guard_no ?hy ?_ | refine x_cond_true ?hy ?_); case hy => rfl)
        | ((with_reducible first | refine x_guard_none ?hy ?_ | refine x_cond_false ?hy ?_); case hy => rfl)
        | ((with_reducible refine block_exit_ne ?hy ?_); case hy => decide))
      have lA : p < H2.size ∧ g < H2.size := by
        obtain ⟨c, rest, b1, b2, _⟩ := hA.at_
        exact ⟨b1.lt, b2.lt⟩
      have lB : p' < H3.size ∧ g' < H3.size := by
        obtain ⟨c, rest, b1, b2, _⟩ := hA'.at_
        exact ⟨b1.lt, b2.lt⟩
      have z1 := hf1.size
      have z2 := hf2.size
      have z3 := hf3.size
      have z4 := hf4.size
      have z5 := hf5.size
      have f6 : ∀ o : Obj, Fr (fun _ => False) H5 (H5.push o) := fun o => (Fr.refl _ _).push _
      generalize hH6 : Array.push H5 _ = H6
      have s6 : H6.size = H5.size + 1 := by rw [← hH6]; simp
      have b6 : Blk H6 H5.size [.pointer (some ⟨p, 0, none⟩), .pointer (some ⟨q, 0, none⟩), .slice none 0 0, .slice none 0 0, .slice none 0 0] := by rw [← hH6]; exact Blk.new H5 [.pointer (some ⟨p, 0, none⟩), .pointer (some ⟨q, 0, none⟩), .slice none 0 0, .slice none 0 0, .slice none 0 0] _
      have f6 : Fr (fun _ => False) H5 H6 := by rw [← hH6]; exact (Fr.refl _ _).push _
      clear hH6
      generalize hH7 : Array.push H6 _ = H7
      have s7 : H7.size = H6.size + 1 := by rw [← hH7]; simp
      have b7 : Blk H7 H6.size [.pointer (some ⟨p', 0, none⟩), .pointer (some ⟨q', 0, none⟩), .slice none 0 0, .slice none 0 0, .slice none 0 0] := by rw [← hH7]; exact Blk.new H6 [.pointer (some ⟨p', 0, none⟩), .pointer (some ⟨q', 0, none⟩), .slice none 0 0, .slice none 0 0, .slice none 0 0] _
      have f7 : Fr (fun _ => False) H6 H7 := by rw [← hH7]; exact (Fr.refl _ _).push _
      clear hH7
      have f57 := f6.trans f7
      have f47 := hf5.trans f57
      have f37 := hf4.trans f47
      have f27 := hf3.trans f37
      have hlT : ∀ b, T b → b < H4.size := fun b hb => hr.lt hb
      have hlT' : ∀ b, T' b → b < H5.size := fun b hb => hr'.lt hb
      obtain ⟨hSa, hca⟩ := Sd.init (C := Value.int .i64) (s := H5.size) (hA.frame f27 (fun h => h) (fun h => h)) (hr.grow f47) (b6.frame f7 (fun h => h)) (by omega) (by omega) (fun b hb => by
        have := hT b hb
        have := hlT b hb
        omega)
      obtain ⟨hSb, hcb⟩ := Sd.init (C := Value.string) (s := H6.size) (hA'.frame f37 (fun h => h) (fun h => h)) (hr'.grow f57) b7 (by omega) (by omega) (fun b hb => by
        have := hT' b hb
        have := hlT' b hb
        omega)
      have hTw : TwoS H H7 H5.size H6.size (col0 H5.size p g T) (col0 H6.size p' g' T') := by
        refine ⟨hSa, hSb, ((hf1.trans hf2).trans f27), fun b hb => ?_, fun b hb => ?_, fun b hb hc => ?_⟩
        · rcases hca b hb with e | e | e | e
          · omega
          · omega
          · omega
          · have := hT b e; omega
        · rcases hcb b hb with e | e | e | e
          · omega
          · omega
          · omega
          · have := hT' b e; omega
        · have x1 : b = H5.size ∨ (H1.size ≤ b ∧ b < H2.size) ∨ (H3.size ≤ b ∧ b < H4.size) := by
            rcases hca b hb with e | e | e | e
            · exact .inl e
            · right; left; omega
            · right; left; omega
            · right; right; exact ⟨hT b e, hlT b e⟩
          rcases hcb b hc with e | e | e | e
          · omega
          · omega
          · omega
          · have := hT' b e; have := hlT' b e; omega
      refine playsLoop hin hn hTw rfl rfl rfl rfl ?_
      intro e8 H8 cs ct i16 i17 hT8
      repeat' (first
        | (with_reducible first | refine seq_normal ?_ | (refine hK _ _ ?_; clear hK K) | refine x_seq (fun K hK => ?_) | refine x_nil ?_ | refine x_block ?_ | refine x_skip ?_ | refine x_exit ?_ | refine x_ret ?_ | refine x_label ?_ | refine x_scope ?_ | (refine seq_ret ?_; clear hK K) | (refine seq_exit ?_; clear hK K) | refine block_normal ?_ | refine block_ret ?_ | refine block_exit ?_ | refine loop_exit ?_ | refine loop_ret ?_)
        | ((with_reducible refine x_reg_lit ?hq ?_); case hq => rfl)
        | ((first | (with_reducible first | refine x_op (fun K hK => ?_) | refine end_ret ?_ | refine end_normal ?_) | ((with_reducible refine x_guard_yes ?hy (fun K hK => ?_)); case hy => rfl)); simp only [go_sem, Int.cast_ofNat_Int, Nat.reduceEqDiff, Nat.reduceAdd, Nat.reduceMul, Nat.reduceLeDiff, Nat.reduceLT, Int.reduceLT, Int.reduceLE, Int.reduceEq, Int.reduceNeg, Int.reduceToNat, Nat.reducePow, reduceIte, reduceCtorEq, i16, i17])
        | ((with_reducible first | refine x_guard_no ?hy ?_ | refine x_cond_true ?hy ?_); case hy => rfl)
        | ((with_reducible first | refine x_guard_none ?hy ?_ | refine x_cond_false ?hy ?_); case hy => rfl)
        | ((with_reducible refine block_exit_ne ?hy ?_); case hy => decide))
      refine ArEInt.ends_ok hT8.a fun H9 hf9 => ?_
      have hb9 := hT8.b.grow hf9 fun b hb e => hT8.ap b e hb
      repeat' (first
        | (with_reducible first | refine seq_normal ?_ | (refine hK _ _ ?_; clear hK K) | refine x_seq (fun K hK => ?_) | refine x_nil ?_ | refine x_block ?_ | refine x_skip ?_ | refine x_exit ?_ | refine x_ret ?_ | refine x_label ?_ | refine x_scope ?_ | (refine seq_ret ?_; clear hK K) | (refine seq_exit ?_; clear hK K) | refine block_normal ?_ | refine block_ret ?_ | refine block_exit ?_ | refine loop_exit ?_ | refine loop_ret ?_)
        | ((with_reducible refine x_reg_lit ?hq ?_); case hq => rfl)
        | ((first | (with_reducible first | refine x_op (fun K hK => ?_) | refine end_ret ?_ | refine end_normal ?_) | ((with_reducible refine x_guard_yes ?hy (fun K hK => ?_)); case hy => rfl)); simp only [go_sem, Int.cast_ofNat_Int, Nat.reduceEqDiff, Nat.reduceAdd, Nat.reduceMul, Nat.reduceLeDiff, Nat.reduceLT, Int.reduceLT, Int.reduceLE, Int.reduceEq, Int.reduceNeg, Int.reduceToNat, Nat.reducePow, reduceIte, reduceCtorEq, i16, i17])
        | ((with_reducible first | refine x_guard_no ?hy ?_ | refine x_cond_true ?hy ?_); case hy => rfl)
        | ((with_reducible first | refine x_guard_none ?hy ?_ | refine x_cond_false ?hy ?_); case hy => rfl)
        | ((with_reducible refine block_exit_ne ?hy ?_); case hy => decide))
      refine ArEStr.ends_ok hb9 fun H10 hf10 => ?_
      repeat' (first
        | (with_reducible first | refine seq_normal ?_ | (refine hK _ _ ?_; clear hK K) | refine x_seq (fun K hK => ?_) | refine x_nil ?_ | refine x_block ?_ | refine x_skip ?_ | refine x_exit ?_ | refine x_ret ?_ | refine x_label ?_ | refine x_scope ?_ | (refine seq_ret ?_; clear hK K) | (refine seq_exit ?_; clear hK K) | refine block_normal ?_ | refine block_ret ?_ | refine block_exit ?_ | refine loop_exit ?_ | refine loop_ret ?_)
        | ((with_reducible refine x_reg_lit ?hq ?_); case hq => rfl)
        | ((first | (with_reducible first | refine x_op (fun K hK => ?_) | refine end_ret ?_ | refine end_normal ?_) | ((with_reducible refine x_guard_yes ?hy (fun K hK => ?_)); case hy => rfl)); simp only [go_sem, Int.cast_ofNat_Int, Nat.reduceEqDiff, Nat.reduceAdd, Nat.reduceMul, Nat.reduceLeDiff, Nat.reduceLT, Int.reduceLT, Int.reduceLE, Int.reduceEq, Int.reduceNeg, Int.reduceToNat, Nat.reducePow, reduceIte, reduceCtorEq, i16, i17])
        | ((with_reducible first | refine x_guard_no ?hy ?_ | refine x_cond_true ?hy ?_); case hy => rfl)
        | ((with_reducible first | refine x_guard_none ?hy ?_ | refine x_cond_false ?hy ?_); case hy => rfl)
        | ((with_reducible refine block_exit_ne ?hy ?_); case hy => decide))
      refine fin _ ((hT8.fr.trans' hf9 fun b hb e => ?_).trans' hf10 fun b hb e => ?_)
      · have := hT8.na b e; omega
      · have := hT8.nb b e; omega
    · refine ArStr.new_bad (by omega) ?_
      repeat' (first
        | (with_reducible first | refine seq_normal ?_ | (refine hK _ _ ?_; clear hK K) | refine x_seq (fun K hK => ?_) | refine x_nil ?_ | refine x_block ?_ | refine x_skip ?_ | refine x_exit ?_ | refine x_ret ?_ | refine x_label ?_ | refine x_scope ?_ | (refine seq_ret ?_; clear hK K) | (refine seq_exit ?_; clear hK K) | refine block_normal ?_ | refine block_ret ?_ | refine block_exit ?_ | refine loop_exit ?_ | refine loop_ret ?_)
        | ((with_reducible refine x_reg_lit ?hq ?_); case hq => rfl)
        | ((first | (with_reducible first | refine x_op (fun K hK => ?_) | refine end_ret ?_ | refine end_normal ?_) | ((with_reducible refine x_guard_yes ?hy (fun K hK => ?_)); case hy => rfl)); simp only [go_sem, Int.cast_ofNat_Int, Nat.reduceEqDiff, Nat.reduceAdd, Nat.reduceMul, Nat.reduceLeDiff, Nat.reduceLT, Int.reduceLT, Int.reduceLE, Int.reduceEq, Int.reduceNeg, Int.reduceToNat, Nat.reducePow, reduceIte, reduceCtorEq])
        | ((with_reducible first | refine x_guard_no ?hy ?_ | refine x_cond_true ?hy ?_); case hy => rfl)
        | ((with_reducible first | refine x_guard_none ?hy ?_ | refine x_cond_false ?hy ?_); case hy => rfl)
        | ((with_reducible refine block_exit_ne ?hy ?_); case hy => decide))
      refine rf_new (n := n1) (by omega) fun H4 q T hr hf4 hT => ?_
      repeat' (first
        | (with_reducible first | refine seq_normal ?_ | (refine hK _ _ ?_; clear hK K) | refine x_seq (fun K hK => ?_) | refine x_nil ?_ | refine x_block ?_ | refine x_skip ?_ | refine x_exit ?_ | refine x_ret ?_ | refine x_label ?_ | refine x_scope ?_ | (refine seq_ret ?_; clear hK K) | (refine seq_exit ?_; clear hK K) | refine block_normal ?_ | refine block_ret ?_ | refine block_exit ?_ | refine loop_exit ?_ | refine loop_ret ?_)
        | ((with_reducible refine x_reg_lit ?hq ?_); case hq => rfl)
        | ((first | (with_reducible first | refine x_op (fun K hK => ?_) | refine end_ret ?_ | refine end_normal ?_) | ((with_reducible refine x_guard_yes ?hy (fun K hK => ?_)); case hy => rfl)); simp only [go_sem, Int.cast_ofNat_Int, Nat.reduceEqDiff, Nat.reduceAdd, Nat.reduceMul, Nat.reduceLeDiff, Nat.reduceLT, Int.reduceLT, Int.reduceLE, Int.reduceEq, Int.reduceNeg, Int.reduceToNat, Nat.reducePow, reduceIte, reduceCtorEq])
        | ((with_reducible first | refine x_guard_no ?hy ?_ | refine x_cond_true ?hy ?_); case hy => rfl)
        | ((with_reducible first | refine x_guard_none ?hy ?_ | refine x_cond_false ?hy ?_); case hy => rfl)
        | ((with_reducible refine block_exit_ne ?hy ?_); case hy => decide))
      refine rf_new_bad (by omega) ?_
      repeat' (first
        | (with_reducible first | refine seq_normal ?_ | (refine hK _ _ ?_; clear hK K) | refine x_seq (fun K hK => ?_) | refine x_nil ?_ | refine x_block ?_ | refine x_skip ?_ | refine x_exit ?_ | refine x_ret ?_ | refine x_label ?_ | refine x_scope ?_ | (refine seq_ret ?_; clear hK K) | (refine seq_exit ?_; clear hK K) | refine block_normal ?_ | refine block_ret ?_ | refine block_exit ?_ | refine loop_exit ?_ | refine loop_ret ?_)
        | ((with_reducible refine x_reg_lit ?hq ?_); case hq => rfl)
        | ((first | (with_reducible first | refine x_op (fun K hK => ?_) | refine end_ret ?_ | refine end_normal ?_) | ((with_reducible refine x_guard_yes ?hy (fun K hK => ?_)); case hy => rfl)); simp only [go_sem, Int.cast_ofNat_Int, Nat.reduceEqDiff, Nat.reduceAdd, Nat.reduceMul, Nat.reduceLeDiff, Nat.reduceLT, Int.reduceLT, Int.reduceLE, Int.reduceEq, Int.reduceNeg, Int.reduceToNat, Nat.reducePow, reduceIte, reduceCtorEq])
        | ((with_reducible first | refine x_guard_no ?hy ?_ | refine x_cond_true ?hy ?_); case hy => rfl)
        | ((with_reducible first | refine x_guard_none ?hy ?_ | refine x_cond_false ?hy ?_); case hy => rfl)
        | ((with_reducible refine block_exit_ne ?hy ?_); case hy => decide))
      exact fin _ ((hf1.trans hf2).trans hf4)
  · refine ArInt.new_bad (by omega) ?_
    repeat' (first
      | (with_reducible first | refine seq_normal ?_ | (refine hK _ _ ?_; clear hK K) | refine x_seq (fun K hK => ?_) | refine x_nil ?_ | refine x_block ?_ | refine x_skip ?_ | refine x_exit ?_ | refine x_ret ?_ | refine x_label ?_ | refine x_scope ?_ | (refine seq_ret ?_; clear hK K) | (refine seq_exit ?_; clear hK K) | refine block_normal ?_ | refine block_ret ?_ | refine block_exit ?_ | refine loop_exit ?_ | refine loop_ret ?_)
      | ((with_reducible refine x_reg_lit ?hq ?_); case hq => rfl)
      | ((first | (with_reducible first | refine x_op (fun K hK => ?_) | refine end_ret ?_ | refine end_normal ?_) | ((with_reducible refine x_guard_yes ?hy (fun K hK => ?_)); case hy => rfl)); simp only [go_sem, Int.cast_ofNat_Int, Nat.reduceEqDiff, Nat.reduceAdd, Nat.reduceMul, Nat.reduceLeDiff, Nat.reduceLT, Int.reduceLT, Int.reduceLE, Int.reduceEq, Int.reduceNeg, Int.reduceToNat, Nat.reducePow, reduceIte, reduceCtorEq])
      | ((with_reducible first | refine x_guard_no ?hy ?_ | refine x_cond_true ?hy ?_); case hy => rfl)
      | ((with_reducible first | refine x_guard_none ?hy ?_ | refine x_cond_false ?hy ?_); case hy => rfl)
      | ((with_reducible refine block_exit_ne ?hy ?_); case hy => decide))
    by_cases ht : 0 ≤ two ∧ two ≤ 4096
    · obtain ⟨n2, rfl⟩ := Int.eq_ofNat_of_zero_le ht.1
      refine ArStr.new_ok (by omega) fun H3 p' g' hA' hf3 hp' hg' => ?_
      repeat' (first
        | (with_reducible first | refine seq_normal ?_ | (refine hK _ _ ?_; clear hK K) | refine x_seq (fun K hK => ?_) | refine x_nil ?_ | refine x_block ?_ | refine x_skip ?_ | refine x_exit ?_ | refine x_ret ?_ | refine x_label ?_ | refine x_scope ?_ | (refine seq_ret ?_; clear hK K) | (refine seq_exit ?_; clear hK K) | refine block_normal ?_ | refine block_ret ?_ | refine block_exit ?_ | refine loop_exit ?_ | refine loop_ret ?_)
        | ((with_reducible refine x_reg_lit ?hq ?_); case hq => rfl)
        | ((first | (with_reducible first | refine x_op (fun K hK => ?_) | refine end_ret ?_ | refine end_normal ?_) | ((with_reducible refine x_guard_yes ?hy (fun K hK => ?_)); case hy => rfl)); simp only [go_sem, Int.cast_ofNat_Int, Nat.reduceEqDiff, Nat.reduceAdd, Nat.reduceMul, Nat.reduceLeDiff, Nat.reduceLT, Int.reduceLT, Int.reduceLE, Int.reduceEq, Int.reduceNeg, Int.reduceToNat, Nat.reducePow, reduceIte, reduceCtorEq])
        | ((with_reducible first | refine x_guard_no ?hy ?_ | refine x_cond_true ?hy ?_); case hy => rfl)
        | ((with_reducible first | refine x_guard_none ?hy ?_ | refine x_cond_false ?hy ?_); case hy => rfl)
        | ((with_reducible refine block_exit_ne ?hy ?_); case hy => decide))
      refine rf_new_bad (by omega) ?_
      repeat' (first
        | (with_reducible first | refine seq_normal ?_ | (refine hK _ _ ?_; clear hK K) | refine x_seq (fun K hK => ?_) | refine x_nil ?_ | refine x_block ?_ | refine x_skip ?_ | refine x_exit ?_ | refine x_ret ?_ | refine x_label ?_ | refine x_scope ?_ | (refine seq_ret ?_; clear hK K) | (refine seq_exit ?_; clear hK K) | refine block_normal ?_ | refine block_ret ?_ | refine block_exit ?_ | refine loop_exit ?_ | refine loop_ret ?_)
        | ((with_reducible refine x_reg_lit ?hq ?_); case hq => rfl)
        | ((first | (with_reducible first | refine x_op (fun K hK => ?_) | refine end_ret ?_ | refine end_normal ?_) | ((with_reducible refine x_guard_yes ?hy (fun K hK => ?_)); case hy => rfl)); simp only [go_sem, Int.cast_ofNat_Int, Nat.reduceEqDiff, Nat.reduceAdd, Nat.reduceMul, Nat.reduceLeDiff, Nat.reduceLT, Int.reduceLT, Int.reduceLE, Int.reduceEq, Int.reduceNeg, Int.reduceToNat, Nat.reducePow, reduceIte, reduceCtorEq])
        | ((with_reducible first | refine x_guard_no ?hy ?_ | refine x_cond_true ?hy ?_); case hy => rfl)
        | ((with_reducible first | refine x_guard_none ?hy ?_ | refine x_cond_false ?hy ?_); case hy => rfl)
        | ((with_reducible refine block_exit_ne ?hy ?_); case hy => decide))
      refine rf_new (n := n2) (by omega) fun H5 q' T' hr' hf5 hT' => ?_
      repeat' (first
        | (with_reducible first | refine seq_normal ?_ | (refine hK _ _ ?_; clear hK K) | refine x_seq (fun K hK => ?_) | refine x_nil ?_ | refine x_block ?_ | refine x_skip ?_ | refine x_exit ?_ | refine x_ret ?_ | refine x_label ?_ | refine x_scope ?_ | (refine seq_ret ?_; clear hK K) | (refine seq_exit ?_; clear hK K) | refine block_normal ?_ | refine block_ret ?_ | refine block_exit ?_ | refine loop_exit ?_ | refine loop_ret ?_)
        | ((with_reducible refine x_reg_lit ?hq ?_); case hq => rfl)
        | ((first | (with_reducible first | refine x_op (fun K hK => ?_) | refine end_ret ?_ | refine end_normal ?_) | ((with_reducible refine x_guard_yes ?hy (fun K hK => ?_)); case hy => rfl)); simp only [go_sem, Int.cast_ofNat_Int, Nat.reduceEqDiff, Nat.reduceAdd, Nat.reduceMul, Nat.reduceLeDiff, Nat.reduceLT, Int.reduceLT, Int.reduceLE, Int.reduceEq, Int.reduceNeg, Int.reduceToNat, Nat.reducePow, reduceIte, reduceCtorEq])
        | ((with_reducible first | refine x_guard_no ?hy ?_ | refine x_cond_true ?hy ?_); case hy => rfl)
        | ((with_reducible first | refine x_guard_none ?hy ?_ | refine x_cond_false ?hy ?_); case hy => rfl)
        | ((with_reducible refine block_exit_ne ?hy ?_); case hy => decide))
      exact fin _ ((hf1.trans hf3).trans hf5)
    · refine ArStr.new_bad (by omega) ?_
      repeat' (first
        | (with_reducible first | refine seq_normal ?_ | (refine hK _ _ ?_; clear hK K) | refine x_seq (fun K hK => ?_) | refine x_nil ?_ | refine x_block ?_ | refine x_skip ?_ | refine x_exit ?_ | refine x_ret ?_ | refine x_label ?_ | refine x_scope ?_ | (refine seq_ret ?_; clear hK K) | (refine seq_exit ?_; clear hK K) | refine block_normal ?_ | refine block_ret ?_ | refine block_exit ?_ | refine loop_exit ?_ | refine loop_ret ?_)
        | ((with_reducible refine x_reg_lit ?hq ?_); case hq => rfl)
        | ((first | (with_reducible first | refine x_op (fun K hK => ?_) | refine end_ret ?_ | refine end_normal ?_) | ((with_reducible refine x_guard_yes ?hy (fun K hK => ?_)); case hy => rfl)); simp only [go_sem, Int.cast_ofNat_Int, Nat.reduceEqDiff, Nat.reduceAdd, Nat.reduceMul, Nat.reduceLeDiff, Nat.reduceLT, Int.reduceLT, Int.reduceLE, Int.reduceEq, Int.reduceNeg, Int.reduceToNat, Nat.reducePow, reduceIte, reduceCtorEq])
        | ((with_reducible first | refine x_guard_no ?hy ?_ | refine x_cond_true ?hy ?_); case hy => rfl)
        | ((with_reducible first | refine x_guard_none ?hy ?_ | refine x_cond_false ?hy ?_); case hy => rfl)
        | ((with_reducible refine block_exit_ne ?hy ?_); case hy => decide))
      refine rf_new_bad (by omega) ?_
      repeat' (first
        | (with_reducible first | refine seq_normal ?_ | (refine hK _ _ ?_; clear hK K) | refine x_seq (fun K hK => ?_) | refine x_nil ?_ | refine x_block ?_ | refine x_skip ?_ | refine x_exit ?_ | refine x_ret ?_ | refine x_label ?_ | refine x_scope ?_ | (refine seq_ret ?_; clear hK K) | (refine seq_exit ?_; clear hK K) | refine block_normal ?_ | refine block_ret ?_ | refine block_exit ?_ | refine loop_exit ?_ | refine loop_ret ?_)
        | ((with_reducible refine x_reg_lit ?hq ?_); case hq => rfl)
        | ((first | (with_reducible first | refine x_op (fun K hK => ?_) | refine end_ret ?_ | refine end_normal ?_) | ((with_reducible refine x_guard_yes ?hy (fun K hK => ?_)); case hy => rfl)); simp only [go_sem, Int.cast_ofNat_Int, Nat.reduceEqDiff, Nat.reduceAdd, Nat.reduceMul, Nat.reduceLeDiff, Nat.reduceLT, Int.reduceLT, Int.reduceLE, Int.reduceEq, Int.reduceNeg, Int.reduceToNat, Nat.reducePow, reduceIte, reduceCtorEq])
        | ((with_reducible first | refine x_guard_no ?hy ?_ | refine x_cond_true ?hy ?_); case hy => rfl)
        | ((with_reducible first | refine x_guard_none ?hy ?_ | refine x_cond_false ?hy ?_); case hy => rfl)
        | ((with_reducible refine block_exit_ne ?hy ?_); case hy => decide))
      refine rf_new_bad (by omega) ?_
      repeat' (first
        | (with_reducible first | refine seq_normal ?_ | (refine hK _ _ ?_; clear hK K) | refine x_seq (fun K hK => ?_) | refine x_nil ?_ | refine x_block ?_ | refine x_skip ?_ | refine x_exit ?_ | refine x_ret ?_ | refine x_label ?_ | refine x_scope ?_ | (refine seq_ret ?_; clear hK K) | (refine seq_exit ?_; clear hK K) | refine block_normal ?_ | refine block_ret ?_ | refine block_exit ?_ | refine loop_exit ?_ | refine loop_ret ?_)
        | ((with_reducible refine x_reg_lit ?hq ?_); case hq => rfl)
        | ((first | (with_reducible first | refine x_op (fun K hK => ?_) | refine end_ret ?_ | refine end_normal ?_) | ((with_reducible refine x_guard_yes ?hy (fun K hK => ?_)); case hy => rfl)); simp only [go_sem, Int.cast_ofNat_Int, Nat.reduceEqDiff, Nat.reduceAdd, Nat.reduceMul, Nat.reduceLeDiff, Nat.reduceLT, Int.reduceLT, Int.reduceLE, Int.reduceEq, Int.reduceNeg, Int.reduceToNat, Nat.reducePow, reduceIte, reduceCtorEq])
        | ((with_reducible first | refine x_guard_no ?hy ?_ | refine x_cond_true ?hy ?_); case hy => rfl)
        | ((with_reducible first | refine x_guard_none ?hy ?_ | refine x_cond_false ?hy ?_); case hy => rfl)
        | ((with_reducible refine block_exit_ne ?hy ?_); case hy => decide))
      exact fin _ hf1
end Go.Proofs.Ytkfcbgnodjgdcaa
