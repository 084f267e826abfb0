/-
  The helpers of the laws of layer 3: added, piece.
  The helpers of the laws of layer 3: piece.
  The helpers of the laws of layer 3: piece, the whole.
-/
import Derived.Test.YtndkbhlfbeiniaaM6
namespace Go.Proofs.Ytndkbhlfbeiniaa
open Go Go.Hp Go.Sp
set_option linter.all false
set_option maxRecDepth 100000
set_option maxHeartbeats 1600000

def aggCells (a : Agg) : List Value := [.int .i64 a.count, .int .i64 a.sum, .int .i64 a.least, .int .i64 a.most, .int .i64 a.flags]
/-- A new variable in which an aggregate is laid. -/
theorem agg_new (H : Heap) (a : Agg) (T : TypeId) :
    Blk (hset (hset (hset (hset (hset (H.push (.cells #[.int .i64 0, .int .i64 0, .int .i64 0, .int .i64 0, .int .i64 0] T)) ⟨H.size, 0, none⟩ (.int .i64 a.count)) ⟨H.size, 1, none⟩ (.int .i64 a.sum)) ⟨H.size, 2, none⟩ (.int .i64 a.least)) ⟨H.size, 3, none⟩ (.int .i64 a.most)) ⟨H.size, 4, none⟩ (.int .i64 a.flags)) H.size (aggCells a) ∧
    Fr (fun _ => False) H (hset (hset (hset (hset (hset (H.push (.cells #[.int .i64 0, .int .i64 0, .int .i64 0, .int .i64 0, .int .i64 0] T)) ⟨H.size, 0, none⟩ (.int .i64 a.count)) ⟨H.size, 1, none⟩ (.int .i64 a.sum)) ⟨H.size, 2, none⟩ (.int .i64 a.least)) ⟨H.size, 3, none⟩ (.int .i64 a.most)) ⟨H.size, 4, none⟩ (.int .i64 a.flags)) := by
  refine ⟨?_, (by ((repeat (first | refine Fr.set ?_ (by simp) _ | refine Fr.push ?_ _)); exact Fr.refl _ _))⟩
  exact (((((Blk.new H [.int .i64 0, .int .i64 0, .int .i64 0, .int .i64 0, .int .i64 0] T).set_same 0 _).set_same 1 _).set_same 2 _).set_same 3 _).set_same 4 _
theorem added_ok {H : Heap} {xs ys : List Sp.Item} {K : Value → Heap → Prop} (hx : ∀ x ∈ xs, May x) (hy : ∀ y ∈ ys, May y) (hl : xs.length + ys.length ≤ 4096) (fin : ∀ H', Fr (fun _ => False) H H' → K (aggL (xs ++ ys)).val H') :
    CallsH Try.prog 25 #[(aggL xs).val, (aggL ys).val] H K := by
  have hp := plusA_aggL hx hy (by omega)
  have eor : bitOr .i64 (aggL xs).flags (aggL ys).flags = (aggL (xs ++ ys)).flags := by rw [← hp]; rfl
  have lx := valsL_length xs
  have ly := valsL_length ys
  have sx := sum_bound hx
  have sy := sum_bound hy
  refine call25 (by simp) ?_
  simp only [Try.f25, Option.getD_some]
  by_cases h1 : (aggL xs).count = 0
  · have t1 : ((aggL xs).count == 0) = true := by simp [h1]
    have hv : valsL xs = [] := List.length_eq_zero_iff.1 (by simp only [aggL] at h1; omega)
    have e : aggL (xs ++ ys) = { aggL ys with flags := (aggL (xs ++ ys)).flags } := by simp only [aggL, valsL_append, hv, List.nil_append]
    rw [e] at fin
    repeat' (first
      | (with_reducible first | refine seq_normal ?_ | (refine hK _ _ ?_; clear hK K) | refine x_seq (fun K hK => ?_) | refine x_nil ?_ | refine x_block ?_ | refine x_skip ?_ | refine x_exit ?_ | refine x_ret ?_ | refine x_label ?_ | refine x_scope ?_ | (refine seq_ret ?_; clear hK K) | (refine seq_exit ?_; clear hK K) | refine block_normal ?_ | refine block_ret ?_ | refine block_exit ?_ | refine loop_exit ?_ | refine loop_ret ?_)
      | ((with_reducible refine x_reg_lit ?hq ?_); case hq => rfl)
      | ((first | (with_reducible first | refine x_op (fun K hK => ?_) | refine end_ret ?_ | refine end_normal ?_) | ((with_reducible refine x_guard_yes ?hy (fun K hK => ?_)); case hy => rfl)); simp only [go_sem, Int.cast_ofNat_Int, Nat.reduceEqDiff, Nat.reduceAdd, Nat.reduceMul, Nat.reduceLeDiff, Nat.reduceLT, Int.reduceLT, Int.reduceLE, Int.reduceEq, Int.reduceNeg, Int.reduceToNat, Nat.reducePow, reduceIte, reduceCtorEq, Agg.val, t1, eor, hcell_push, hcell_top, okW_push, okW_top, hcell_hset_ne, hcell_hset_off, hcell_hset_eq, okW_hset, hset_size, Array.size_push, Nat.lt_add_one, ne_add_one, add_one_ne, Nat.add_assoc, add_same, add_lt_same, Nat.reduceEqDiff, lt_add_k, add_k_ne, ne_add_k])
      | ((with_reducible first | refine x_guard_no ?hy ?_ | refine x_cond_true ?hy ?_); case hy => rfl)
      | ((with_reducible first | refine x_guard_none ?hy ?_ | refine x_cond_false ?hy ?_); case hy => rfl)
      | ((with_reducible refine block_exit_ne ?hy ?_); case hy => decide))
    exact fin _ (by ((repeat (first | refine Fr.set ?_ (by simp) _ | refine Fr.push ?_ _)); exact Fr.refl _ _))
  · have t1 : ((aggL xs).count == 0) = false := by simp [h1]
    by_cases h2 : (aggL ys).count = 0
    · have t2 : ((aggL ys).count == 0) = true := by simp [h2]
      have hv : valsL ys = [] := List.length_eq_zero_iff.1 (by simp only [aggL] at h2; omega)
      have e : aggL (xs ++ ys) = { aggL xs with flags := (aggL (xs ++ ys)).flags } := by simp only [aggL, valsL_append, hv, List.append_nil]
      rw [e] at fin
      repeat' (first
        | (with_reducible first | refine seq_normal ?_ | (refine hK _ _ ?_; clear hK K) | refine x_seq (fun K hK => ?_) | refine x_nil ?_ | refine x_block ?_ | refine x_skip ?_ | refine x_exit ?_ | refine x_ret ?_ | refine x_label ?_ | refine x_scope ?_ | (refine seq_ret ?_; clear hK K) | (refine seq_exit ?_; clear hK K) | refine block_normal ?_ | refine block_ret ?_ | refine block_exit ?_ | refine loop_exit ?_ | refine loop_ret ?_)
        | ((with_reducible refine x_reg_lit ?hq ?_); case hq => rfl)
        | ((first | (with_reducible first | refine x_op (fun K hK => ?_) | refine end_ret ?_ | refine end_normal ?_) | ((with_reducible refine x_guard_yes ?hy (fun K hK => ?_)); case hy => rfl)); simp only [go_sem, Int.cast_ofNat_Int, Nat.reduceEqDiff, Nat.reduceAdd, Nat.reduceMul, Nat.reduceLeDiff, Nat.reduceLT, Int.reduceLT, Int.reduceLE, Int.reduceEq, Int.reduceNeg, Int.reduceToNat, Nat.reducePow, reduceIte, reduceCtorEq, Agg.val, t1, t2, eor, hcell_push, hcell_top, okW_push, okW_top, hcell_hset_ne, hcell_hset_off, hcell_hset_eq, okW_hset, hset_size, Array.size_push, Nat.lt_add_one, ne_add_one, add_one_ne, Nat.add_assoc, add_same, add_lt_same, Nat.reduceEqDiff, lt_add_k, add_k_ne, ne_add_k])
        | ((with_reducible first | refine x_guard_no ?hy ?_ | refine x_cond_true ?hy ?_); case hy => rfl)
        | ((with_reducible first | refine x_guard_none ?hy ?_ | refine x_cond_false ?hy ?_); case hy => rfl)
        | ((with_reducible refine block_exit_ne ?hy ?_); case hy => decide))
      exact fin _ (by ((repeat (first | refine Fr.set ?_ (by simp) _ | refine Fr.push ?_ _)); exact Fr.refl _ _))
    · have t2 : ((aggL ys).count == 0) = false := by simp [h2]
      have e : aggL (xs ++ ys) = ⟨IntKind.i64.wrap ((aggL xs).count + (aggL ys).count), IntKind.i64.wrap ((aggL xs).sum + (aggL ys).sum), minI (aggL xs).least (aggL ys).least, maxI (aggL xs).most (aggL ys).most, (aggL (xs ++ ys)).flags⟩ := by
        rw [← hp]
        unfold plusA
        simp only [h1, h2, if_false]
        rfl
      rw [e] at fin
      repeat' (first
        | (with_reducible first | refine seq_normal ?_ | (refine hK _ _ ?_; clear hK K) | refine x_seq (fun K hK => ?_) | refine x_nil ?_ | refine x_block ?_ | refine x_skip ?_ | refine x_exit ?_ | refine x_ret ?_ | refine x_label ?_ | refine x_scope ?_ | (refine seq_ret ?_; clear hK K) | (refine seq_exit ?_; clear hK K) | refine block_normal ?_ | refine block_ret ?_ | refine block_exit ?_ | refine loop_exit ?_ | refine loop_ret ?_)
        | ((with_reducible refine x_reg_lit ?hq ?_); case hq => rfl)
        | ((first | (with_reducible first | refine x_op (fun K hK => ?_) | refine end_ret ?_ | refine end_normal ?_) | ((with_reducible refine x_guard_yes ?hy (fun K hK => ?_)); case hy => rfl)); simp only [go_sem, Int.cast_ofNat_Int, Nat.reduceEqDiff, Nat.reduceAdd, Nat.reduceMul, Nat.reduceLeDiff, Nat.reduceLT, Int.reduceLT, Int.reduceLE, Int.reduceEq, Int.reduceNeg, Int.reduceToNat, Nat.reducePow, reduceIte, reduceCtorEq, Agg.val, t1, t2, eor, hcell_push, hcell_top, okW_push, okW_top, hcell_hset_ne, hcell_hset_off, hcell_hset_eq, okW_hset, hset_size, Array.size_push, Nat.lt_add_one, ne_add_one, add_one_ne, Nat.add_assoc, add_same, add_lt_same, Nat.reduceEqDiff, lt_add_k, add_k_ne, ne_add_k])
        | ((with_reducible first | refine x_guard_no ?hy ?_ | refine x_cond_true ?hy ?_); case hy => rfl)
        | ((with_reducible first | refine x_guard_none ?hy ?_ | refine x_cond_false ?hy ?_); case hy => rfl)
        | ((with_reducible refine block_exit_ne ?hy ?_); case hy => decide))
      exact fin _ (by ((repeat (first | refine Fr.set ?_ (by simp) _ | refine Fr.push ?_ _)); exact Fr.refl _ _))
/-- A slice of items is read. -/
def RdsI (H : Heap) (B : Option Nat) (v : Value) (xs : List Sp.Item) : Prop :=
  ∃ a c, v = .slice a xs.length c ∧ ∀ i x, xs[i]? = some x → ∃ b o, B = some b ∧ a = some ⟨b, o, none⟩ ∧ hcell H ⟨b, o + i * 3, none⟩ = some (.int .i64 x.value) ∧ hcell H ⟨b, o + i * 3 + 1, none⟩ = some (.bool x.counts) ∧ hcell H ⟨b, o + i * 3 + 2, none⟩ = some (.int .i64 x.flags)
theorem Its.rds {H : Heap} {B : Option Nat} {v : Value} {xs : List Sp.Item} (h : Its H B v xs) : RdsI H B v xs := by
  obtain ⟨a, c, hv⟩ := h.slice
  refine ⟨a, c, hv, fun i x hi => ?_⟩
  obtain ⟨g, c', h1, h2, h3, h4, h5⟩ := h.read hi
  rw [hv] at h2
  simp only [Value.slice.injEq] at h2
  exact ⟨g, 0, h1, h2.1, by rw [Nat.zero_add]; exact h3, by rw [Nat.zero_add]; exact h4, by rw [Nat.zero_add]; exact h5⟩
theorem RdsI.frame {S : Nat → Prop} {H H' : Heap} {B : Option Nat} {v : Value} {xs : List Sp.Item} (h : RdsI H B v xs) (hf : Fr S H H') (hb : ∀ g, B = some g → ¬ S g) : RdsI H' B v xs := by
  obtain ⟨a, c, hv, hr⟩ := h
  refine ⟨a, c, hv, fun i x hi => ?_⟩
  obtain ⟨b, o, h1, h2, h3, h4, h5⟩ := hr i x hi
  exact ⟨b, o, h1, h2, by rw [hf.cell (hcell_lt h3) (hb b h1)]; exact h3, by rw [hf.cell (hcell_lt h4) (hb b h1)]; exact h4, by rw [hf.cell (hcell_lt h5) (hb b h1)]; exact h5⟩
theorem RdsI.read {H : Heap} {B : Option Nat} {v : Value} {xs : List Sp.Item} (h : RdsI H B v xs) {i : Nat} {x : Sp.Item} (hi : xs[i]? = some x) :
    ∃ b o c, B = some b ∧ v = .slice (some ⟨b, o, none⟩) xs.length c ∧ hcell H ⟨b, o + i * 3, none⟩ = some (.int .i64 x.value) ∧ hcell H ⟨b, o + i * 3 + 1, none⟩ = some (.bool x.counts) ∧ hcell H ⟨b, o + i * 3 + 2, none⟩ = some (.int .i64 x.flags) := by
  obtain ⟨a, c, hv, hr⟩ := h
  obtain ⟨b, o, h1, h2, h3, h4, h5⟩ := hr i x hi
  exact ⟨b, o, c, h1, by rw [hv, h2], h3, h4, h5⟩
theorem RdsI.slice {H : Heap} {B : Option Nat} {v : Value} {xs : List Sp.Item} (h : RdsI H B v xs) : ∃ a c, v = .slice a xs.length c := ⟨_, _, h.choose_spec.choose_spec.1⟩
theorem minL_snoc (l : List Int) (v : Int) : minL (l ++ [v]) = if l = [] then v else minI (minL l) v := by
  rw [minL_append]
  by_cases h : l = [] <;> simp [h, minL]
theorem maxL_snoc (l : List Int) (v : Int) : maxL (l ++ [v]) = if l = [] then v else maxI (maxL l) v := by
  rw [maxL_append]
  by_cases h : l = [] <;> simp [h, maxL]
theorem aggL_skip {xs : List Sp.Item} {x : Sp.Item} (hc : x.counts = false) : aggL (xs ++ [x]) = { aggL xs with flags := (aggL (xs ++ [x])).flags } := by
  have hv : valsL (xs ++ [x]) = valsL xs := by simp [valsL, List.filter_append, hc]
  simp only [aggL, hv]
theorem aggL_take {xs : List Sp.Item} {x : Sp.Item} (hc : x.counts = true) : aggL (xs ++ [x]) =
    ⟨(aggL xs).count + 1, (aggL xs).sum + x.value, if (aggL xs).count = 0 then x.value else minI (aggL xs).least x.value, if (aggL xs).count = 0 then x.value else maxI (aggL xs).most x.value, (aggL (xs ++ [x])).flags⟩ := by
  have hv : valsL (xs ++ [x]) = valsL xs ++ [x.value] := by simp [valsL, List.filter_append, hc]
  have hz : ((aggL xs).count = 0) = (valsL xs = []) := by
    apply propext
    simp only [aggL]
    rw [← List.length_eq_zero_iff]; omega
  simp only [hz]
  simp only [aggL, hv, minL_snoc, maxL_snoc, List.length_append, List.length_singleton, List.sum_append, List.sum_singleton, Agg.mk.injEq, and_true, true_and]
  simp
end Go.Proofs.Ytndkbhlfbeiniaa

namespace Go.Proofs.Ytndkbhlfbeiniaa
open Go Go.Hp Go.Sp
set_option linter.all false
set_option maxRecDepth 100000
set_option maxHeartbeats 1600000

theorem firstF_snoc {it : Nat → Sp.Item} {fl : Nat} {l : List Nat} {y : Nat} : firstF it fl (l ++ [y]) = (firstF it fl l).or (if hasF it fl y then some y else none) := by
  unfold firstF
  rw [List.find?_append]
  simp [List.find?_cons]
  split <;> simp_all
section
variable {H : Heap} {f : Nat} {T : Nat → Prop} {S : Sq} {K : Value → Heap → Prop} {xs : List Nat} {B C : Option Nat} {vl vo : Value} {fl : Nat}
/-- What a piece comes to is reckoned anew, and which node is the first with a flag. -/
theorem pieceLoop {e : Env} {Q : HX → Env → Heap → Prop} {b : Nat} (hl : Rds H B vl (xs.map Int.ofNat)) (ho : RdsI H C vo (xs.map S.it)) (hm : ∀ x ∈ xs, May (S.it x)) (hlen : xs.length ≤ 4096) (hpos : ∀ x ∈ xs, 1 ≤ x) (hfl : fl < 256)
    (hb : Blk H b (aggCells Agg.zero)) (hB : B ≠ some b) (hC : C ≠ some b) (e1 : e 1 = vl) (e2 : e 2 = vo) (e3 : e 3 = .int .i64 (fl : Nat)) (e16 : e 16 = .pointer (some ⟨b, 0, none⟩)) (e17 : e 17 = .int .i64 0) (e18 : e 18 = .int .i64 0)
    (hQ : ∀ e' H', (e' 9 = e 9 ∧ e' 10 = e 10 ∧ e' 11 = e 11 ∧ e' 12 = e 12 ∧ e' 14 = e 14 ∧ e' 15 = e 15 ∧ e' 16 = e 16) → e' 17 = .int .i64 ((firstF S.it fl xs).getD 0 : Nat) → Blk H' b (aggCells (aggOf S.it xs)) → Fr (· = b) H H' → Q .normal e' H') :
    codeX Try.prog [10, 14, 16, 19] (loopAt Try.f17.body 0) (blockQ 0 Q) e H := by
  have hlm : (xs.map S.it).length = xs.length := List.length_map ..
  refine x_loop (fun m e' H' => ∃ k : Nat, e' 17 = .int .i64 ((firstF S.it fl (xs.take k)).getD 0 : Nat) ∧ e' 18 = .int .i64 (k : Nat) ∧ Blk H' b (aggCells (aggOf S.it (xs.take k))) ∧ Fr (· = b) H H' ∧ k ≤ xs.length ∧ m = xs.length - k)
    xs.length ⟨0, e17, e18, hb, .refl _ _, Nat.zero_le _, rfl⟩ ?_
  rintro m e' H1 ⟨k, i17, i18, hb1, hf1, hk, rfl⟩ hoff
  have keep : e' 9 = e 9 ∧ e' 10 = e 10 ∧ e' 11 = e 11 ∧ e' 12 = e 12 ∧ e' 14 = e 14 ∧ e' 15 = e 15 ∧ e' 16 = e 16 := ⟨hoff 9 rfl, hoff 10 rfl, hoff 11 rfl, hoff 12 rfl, hoff 14 rfl, hoff 15 rfl, hoff 16 rfl⟩
  have i1 := (hoff 1 rfl).trans e1
  have i2 := (hoff 2 rfl).trans e2
  have i3 := (hoff 3 rfl).trans e3
  have i16 := (hoff 16 rfl).trans e16
  clear hoff
  have hl1 := hl.frame hf1 fun g hg e => hB (by rw [hg, e])
  have ho1 := ho.frame hf1 fun g hg e => hC (by rw [hg, e])
  obtain ⟨al, cl, hvl⟩ := hl1.slice
  obtain ⟨ao, co, hvo⟩ := ho1.slice
  rw [List.length_map] at hvl hvo
  by_cases hlt : k < xs.length
  · obtain ⟨y, hy⟩ : ∃ y, xs[k]? = some y := ⟨_, List.getElem?_eq_getElem hlt⟩
    have hyx : y ∈ xs := List.mem_of_getElem? hy
    have hmy := hm y hyx
    obtain ⟨x, hx⟩ : ∃ x, x = S.it y := ⟨_, rfl⟩
    rw [← hx] at hmy
    obtain ⟨bl, ol, cl', hBl, hvl', cy⟩ := hl1.read (i := k) (x := (y : Int)) (by rw [List.getElem?_map, hy]; rfl)
    rw [List.length_map] at hvl'
    obtain ⟨bo, oo, co', hCo, hvo', q0, q1, q2⟩ := ho1.read (i := k) (x := x) (by rw [List.getElem?_map, hy, hx]; rfl)
    rw [List.length_map] at hvo'
    have i1' := i1.trans hvl'
    have i2' := i2.trans hvo'
    have htk : xs.take (k + 1) = xs.take k ++ [y] := by rw [List.take_add_one, hy]; rfl
    have hmt : ∀ z ∈ (xs.take k).map S.it, May z := fun z hz => by
      obtain ⟨i, hi, rfl⟩ := List.mem_map.1 hz
      exact hm i (List.mem_of_mem_take hi)
    have hltk : ((xs.take k).map S.it).length ≤ 4096 := by simp; omega
    obtain ⟨A, hA⟩ : ∃ A, A = aggOf S.it (xs.take k) := ⟨_, rfl⟩
    have hA' : aggL ((xs.take k).map S.it) = A := hA.symm
    have hnew : aggOf S.it (xs.take (k + 1)) = aggL ((xs.take k).map S.it ++ [x]) := by unfold aggOf; rw [htk, List.map_append, hx]; rfl
    have hpl := plusA_aggL hmt (ys := [x]) (fun z hz => by rw [List.mem_singleton.1 hz]; exact hmy) (by simp at hltk ⊢; omega)
    have hf0 := hmy.f0
    have exf : (aggL [x]).flags = x.flags := by
      show ((x.flags.toNat ||| 0 : Nat) : Int) = x.flags
      rw [Nat.or_zero]; omega
    have eor : bitOr .i64 A.flags x.flags = (aggL ((xs.take k).map S.it ++ [x])).flags := by rw [← hpl, ← hA', ← exf]; rfl
    obtain ⟨F, hF⟩ : ∃ F, F = (aggL ((xs.take k).map S.it ++ [x])).flags := ⟨_, rfl⟩
    rw [← hF] at eor
    rw [← hA] at hb1
    have c0 := hb1.cellOf (i := 0) rfl
    have c1 := hb1.cellOf (i := 1) rfl
    have c2 := hb1.cellOf (i := 2) rfl
    have c3 := hb1.cellOf (i := 3) rfl
    have c4 := hb1.cellOf (i := 4) rfl
    have w0 := hb1.okW (i := 0) (by simp [aggCells])
    have w1 := hb1.okW (i := 1) (by simp [aggCells])
    have w2 := hb1.okW (i := 2) (by simp [aggCells])
    have w3 := hb1.okW (i := 3) (by simp [aggCells])
    have w4 := hb1.okW (i := 4) (by simp [aggCells])
    have hbo : ¬ bo = b := fun h => hC (by rw [hCo, h])
    have hbl : ¬ bl = b := fun h => hB (by rw [hBl, h])
    have ew : IntKind.i64.wrap ((k : Int) + 1) = ((k + 1 : Nat) : Int) := by rw [wrap_i64] <;> omega
    have efl : bitAnd .i64 x.flags (fl : Int) = ((x.flags.toNat &&& fl : Nat) : Int) := by
      have h1 := hmy.f1
      obtain ⟨n, hn⟩ := Int.eq_ofNat_of_zero_le hf0
      rw [hn]
      exact and64_nat (by omega) hfl
    have hsn := firstF_snoc (it := S.it) (fl := fl) (l := xs.take k) (y := y)
    rw [← htk] at hsn
    -- what is the first one now, whichever way the test goes
    have hfirst : ∀ P : Prop, ((firstF S.it fl (xs.take k) ≠ none → P) ∧ (firstF S.it fl (xs.take k) = none → x.flags.toNat &&& fl = 0 → P) ∧ (firstF S.it fl (xs.take k) = none → x.flags.toNat &&& fl ≠ 0 → P)) → P := fun P ⟨h1, h2, h3⟩ => by
      by_cases h : firstF S.it fl (xs.take k) = none
      · by_cases h' : x.flags.toNat &&& fl = 0
        · exact h2 h h'
        · exact h3 h h'
      · exact h1 h
    have sb := sum_bound hmt
    have lb := valsL_length ((xs.take k).map S.it)
    have hlo := hmy.lo
    have hhi := hmy.hi
    have ecnt : IntKind.i64.wrap (A.count + 1) = A.count + 1 := by
      have : A.count = ((valsL ((xs.take k).map S.it)).length : Int) := by rw [← hA']; rfl
      rw [wrap_i64] <;> omega
    have esum : IntKind.i64.wrap (A.sum + x.value) = A.sum + x.value := by
      have : A.sum = (valsL ((xs.take k).map S.it)).sum := by rw [← hA']; rfl
      rw [wrap_i64] <;> omega
    have step : ∀ {H' : Heap} (o : Nat) (v : Value), Fr (· = b) H1 H' → Fr (· = b) H1 (hset H' ⟨b, o, none⟩ v) := fun o v h => Fr.set (S := (· = b)) (a := ⟨b, o, none⟩) h (.inl rfl) v
    refine hfirst _ ⟨fun hs => ?_, fun hs hz => ?_, fun hs hz => ?_⟩
    case' refine_1 =>
      obtain ⟨j, hj⟩ := Option.ne_none_iff_exists'.1 hs
      have hjp : 1 ≤ j := hpos j (List.mem_of_mem_take (List.mem_of_find?_eq_some hj))
      rw [hj] at i17 hsn
      have g1 : ((j : Int) == 0) = false := by simp; omega
      have hsn' : ((j : Nat) : Int) = ((firstF S.it fl (xs.take (k + 1))).getD 0 : Nat) := by rw [hsn]; rfl
      have i17' : e' 17 = .int .i64 (j : Nat) := i17
      have fact : ((j : Int) == 0) = false := g1
      repeat' (first
        | (with_reducible first | refine seq_normal ?_ | (refine hK _ _ ?_; clear hK K) | refine x_seq (fun K hK => ?_) | refine x_nil ?_ | refine x_block ?_ | refine x_skip ?_ | refine x_exit ?_ | refine x_ret ?_ | refine x_label ?_ | refine x_scope ?_ | (refine seq_ret ?_; clear hK K) | (refine seq_exit ?_; clear hK K) | refine block_normal ?_ | refine block_ret ?_ | refine block_exit ?_ | refine loop_exit ?_ | refine loop_ret ?_)
        | ((with_reducible refine x_reg_lit ?hq ?_); case hq => rfl)
        | ((first | (with_reducible first | refine x_op (fun K hK => ?_) | refine end_ret ?_ | refine end_normal ?_) | ((with_reducible refine x_guard_yes ?hy (fun K hK => ?_)); case hy => rfl)); simp only [go_sem, Int.cast_ofNat_Int, Nat.reduceEqDiff, Nat.reduceAdd, Nat.reduceMul, Nat.reduceLeDiff, Nat.reduceLT, Int.reduceLT, Int.reduceLE, Int.reduceEq, Int.reduceNeg, Int.reduceToNat, Nat.reducePow, reduceIte, reduceCtorEq, i1', i2', i3, i16, i17', i18, hlt, q2, c4, w4, eor, g1, hcell_hset_ne, hbo, not_false_eq_true])
        | ((with_reducible first | refine x_guard_no ?hy ?_ | refine x_cond_true ?hy ?_); case hy => rfl)
        | ((with_reducible first | refine x_guard_none ?hy ?_ | refine x_cond_false ?hy ?_); case hy => rfl)
        | ((with_reducible refine block_exit_ne ?hy ?_); case hy => decide))
    case' refine_2 =>
      rw [hs] at i17 hsn
      have g1 : (((0 : Nat) : Int) == 0) = true := rfl
      have g2 : (((x.flags.toNat &&& fl : Nat) : Int) != 0) = false := by simp [hz]
      have hh : hasF S.it fl y = false := by rw [hx] at hz; simp [hasF, hz]
      rw [hh] at hsn
      have hsn' : ((0 : Nat) : Int) = ((firstF S.it fl (xs.take (k + 1))).getD 0 : Nat) := by rw [hsn]; rfl
      have i17' : e' 17 = .int .i64 ((0 : Nat) : Int) := i17
      repeat' (first
        | (with_reducible first | refine seq_normal ?_ | (refine hK _ _ ?_; clear hK K) | refine x_seq (fun K hK => ?_) | refine x_nil ?_ | refine x_block ?_ | refine x_skip ?_ | refine x_exit ?_ | refine x_ret ?_ | refine x_label ?_ | refine x_scope ?_ | (refine seq_ret ?_; clear hK K) | (refine seq_exit ?_; clear hK K) | refine block_normal ?_ | refine block_ret ?_ | refine block_exit ?_ | refine loop_exit ?_ | refine loop_ret ?_)
        | ((with_reducible refine x_reg_lit ?hq ?_); case hq => rfl)
        | ((first | (with_reducible first | refine x_op (fun K hK => ?_) | refine end_ret ?_ | refine end_normal ?_) | ((with_reducible refine x_guard_yes ?hy (fun K hK => ?_)); case hy => rfl)); simp only [go_sem, Int.cast_ofNat_Int, Nat.reduceEqDiff, Nat.reduceAdd, Nat.reduceMul, Nat.reduceLeDiff, Nat.reduceLT, Int.reduceLT, Int.reduceLE, Int.reduceEq, Int.reduceNeg, Int.reduceToNat, Nat.reducePow, reduceIte, reduceCtorEq, i1', i2', i3, i16, i17', i18, hlt, q2, c4, w4, eor, efl, g1, g2, hcell_hset_ne, hbo, not_false_eq_true])
        | ((with_reducible first | refine x_guard_no ?hy ?_ | refine x_cond_true ?hy ?_); case hy => rfl)
        | ((with_reducible first | refine x_guard_none ?hy ?_ | refine x_cond_false ?hy ?_); case hy => rfl)
        | ((with_reducible refine block_exit_ne ?hy ?_); case hy => decide))
    case' refine_3 =>
      rw [hs] at i17 hsn
      have g1 : (((0 : Nat) : Int) == 0) = true := rfl
      have g2 : (((x.flags.toNat &&& fl : Nat) : Int) != 0) = true := by simp; omega
      have hh : hasF S.it fl y = true := by rw [hx] at hz; simp [hasF, hz]
      rw [hh] at hsn
      have hsn' : ((y : Nat) : Int) = ((firstF S.it fl (xs.take (k + 1))).getD 0 : Nat) := by rw [hsn]; rfl
      have i17' : e' 17 = .int .i64 ((0 : Nat) : Int) := i17
      repeat' (first
        | (with_reducible first | refine seq_normal ?_ | (refine hK _ _ ?_; clear hK K) | refine x_seq (fun K hK => ?_) | refine x_nil ?_ | refine x_block ?_ | refine x_skip ?_ | refine x_exit ?_ | refine x_ret ?_ | refine x_label ?_ | refine x_scope ?_ | (refine seq_ret ?_; clear hK K) | (refine seq_exit ?_; clear hK K) | refine block_normal ?_ | refine block_ret ?_ | refine block_exit ?_ | refine loop_exit ?_ | refine loop_ret ?_)
        | ((with_reducible refine x_reg_lit ?hq ?_); case hq => rfl)
        | ((first | (with_reducible first | refine x_op (fun K hK => ?_) | refine end_ret ?_ | refine end_normal ?_) | ((with_reducible refine x_guard_yes ?hy (fun K hK => ?_)); case hy => rfl)); simp only [go_sem, Int.cast_ofNat_Int, Nat.reduceEqDiff, Nat.reduceAdd, Nat.reduceMul, Nat.reduceLeDiff, Nat.reduceLT, Int.reduceLT, Int.reduceLE, Int.reduceEq, Int.reduceNeg, Int.reduceToNat, Nat.reducePow, reduceIte, reduceCtorEq, i1', i2', i3, i16, i17', i18, hlt, q2, c4, w4, eor, efl, g1, g2, cy, hcell_hset_ne, hbo, hbl, not_false_eq_true])
        | ((with_reducible first | refine x_guard_no ?hy ?_ | refine x_cond_true ?hy ?_); case hy => rfl)
        | ((with_reducible first | refine x_guard_none ?hy ?_ | refine x_cond_false ?hy ?_); case hy => rfl)
        | ((with_reducible refine block_exit_ne ?hy ?_); case hy => decide))
    all_goals
      cases hc : x.counts
      · rw [hc] at q1
        have hT : aggOf S.it (xs.take (k + 1)) = { A with flags := F } := by rw [hnew, aggL_skip hc, hA', hF]
        simp only [go_sem, Int.cast_ofNat_Int, Nat.reduceEqDiff, Nat.reduceAdd, Nat.reduceMul, Nat.reduceLeDiff, Nat.reduceLT, Int.reduceLT, Int.reduceLE, Int.reduceEq, Int.reduceNeg, Int.reduceToNat, Nat.reducePow, reduceIte, reduceCtorEq, q1]
        repeat' (first
          | (with_reducible first | refine seq_normal ?_ | (refine hK _ _ ?_; clear hK K) | refine x_seq (fun K hK => ?_) | refine x_nil ?_ | refine x_block ?_ | refine x_skip ?_ | refine x_exit ?_ | refine x_ret ?_ | refine x_label ?_ | refine x_scope ?_ | (refine seq_ret ?_; clear hK K) | (refine seq_exit ?_; clear hK K) | refine block_normal ?_ | refine block_ret ?_ | refine block_exit ?_ | refine loop_exit ?_ | refine loop_ret ?_)
          | ((with_reducible refine x_reg_lit ?hq ?_); case hq => rfl)
          | ((first | (with_reducible first | refine x_op (fun K hK => ?_) | refine end_ret ?_ | refine end_normal ?_) | ((with_reducible refine x_guard_yes ?hy (fun K hK => ?_)); case hy => rfl)); simp only [go_sem, Int.cast_ofNat_Int, Nat.reduceEqDiff, Nat.reduceAdd, Nat.reduceMul, Nat.reduceLeDiff, Nat.reduceLT, Int.reduceLT, Int.reduceLE, Int.reduceEq, Int.reduceNeg, Int.reduceToNat, Nat.reducePow, reduceIte, reduceCtorEq, i1', i2', i3, i16, i18, hlt, q0, q1, c0, c1, c2, c3, w0, w1, w2, w3, ecnt, esum, ew, okW_hset, hcell_hset_off, hcell_hset_ne, hbo, not_false_eq_true])
          | ((with_reducible first | refine x_guard_no ?hy ?_ | refine x_cond_true ?hy ?_); case hy => rfl)
          | ((with_reducible first | refine x_guard_none ?hy ?_ | refine x_cond_false ?hy ?_); case hy => rfl)
          | ((with_reducible refine block_exit_ne ?hy ?_); case hy => decide))
        refine loop_normal (m' := xs.length - (k + 1)) (by omega) ⟨k + 1, (by first | exact (i17'.trans (congrArg (Value.int .i64) hsn')) | exact congrArg (Value.int .i64) hsn'), rfl, ?_, hf1.trans (step 4 _ (Fr.refl _ _)), by omega, rfl⟩
        rw [hT]
        exact (hb1.set_same 4 (.int .i64 F))
      · rw [hc] at q1
        have hT0 := aggL_take (xs := (xs.take k).map S.it) hc
        rw [hA', ← hF, ← hnew] at hT0
        simp only [go_sem, Int.cast_ofNat_Int, Nat.reduceEqDiff, Nat.reduceAdd, Nat.reduceMul, Nat.reduceLeDiff, Nat.reduceLT, Int.reduceLT, Int.reduceLE, Int.reduceEq, Int.reduceNeg, Int.reduceToNat, Nat.reducePow, reduceIte, reduceCtorEq, q1]
        by_cases g3 : A.count = 0
        · have g3' : (A.count == 0) = true := by simp [g3]
          have hT : aggOf S.it (xs.take (k + 1)) = ⟨A.count + 1, A.sum + x.value, x.value, x.value, F⟩ := by rw [hT0, if_pos g3, if_pos g3]
          repeat' (first
            | (with_reducible first | refine seq_normal ?_ | (refine hK _ _ ?_; clear hK K) | refine x_seq (fun K hK => ?_) | refine x_nil ?_ | refine x_block ?_ | refine x_skip ?_ | refine x_exit ?_ | refine x_ret ?_ | refine x_label ?_ | refine x_scope ?_ | (refine seq_ret ?_; clear hK K) | (refine seq_exit ?_; clear hK K) | refine block_normal ?_ | refine block_ret ?_ | refine block_exit ?_ | refine loop_exit ?_ | refine loop_ret ?_)
            | ((with_reducible refine x_reg_lit ?hq ?_); case hq => rfl)
            | ((first | (with_reducible first | refine x_op (fun K hK => ?_) | refine end_ret ?_ | refine end_normal ?_) | ((with_reducible refine x_guard_yes ?hy (fun K hK => ?_)); case hy => rfl)); simp only [go_sem, Int.cast_ofNat_Int, Nat.reduceEqDiff, Nat.reduceAdd, Nat.reduceMul, Nat.reduceLeDiff, Nat.reduceLT, Int.reduceLT, Int.reduceLE, Int.reduceEq, Int.reduceNeg, Int.reduceToNat, Nat.reducePow, reduceIte, reduceCtorEq, i1', i2', i3, i16, i18, hlt, q0, q1, c0, c1, c2, c3, w0, w1, w2, w3, ecnt, esum, ew, g3', okW_hset, hcell_hset_off, hcell_hset_ne, hbo, not_false_eq_true])
            | ((with_reducible first | refine x_guard_no ?hy ?_ | refine x_cond_true ?hy ?_); case hy => rfl)
            | ((with_reducible first | refine x_guard_none ?hy ?_ | refine x_cond_false ?hy ?_); case hy => rfl)
            | ((with_reducible refine block_exit_ne ?hy ?_); case hy => decide))
          refine loop_normal (m' := xs.length - (k + 1)) (by omega) ⟨k + 1, (by first | exact (i17'.trans (congrArg (Value.int .i64) hsn')) | exact congrArg (Value.int .i64) hsn'), rfl, ?_, hf1.trans (step 1 _ (step 0 _ (step 3 _ (step 2 _ (step 4 _ (Fr.refl _ _)))))), by omega, rfl⟩
          rw [hT]
          exact (((((hb1.set_same 4 (.int .i64 F)).set_same 2 (.int .i64 x.value)).set_same 3 (.int .i64 x.value)).set_same 0 (.int .i64 (A.count + 1))).set_same 1 (.int .i64 (A.sum + x.value)))
        · have g3' : (A.count == 0) = false := by simp [g3]
          rw [if_neg g3, if_neg g3] at hT0
          by_cases g4 : x.value < A.least
          · have g4' : (x.value < A.least) = True := by simp [g4]
            have hL : minI A.least x.value = x.value := if_pos g4
            by_cases g5 : A.most < x.value
            · have g5' : (A.most < x.value) = True := by simp [g5]
              have hM : maxI A.most x.value = x.value := if_pos g5
              have hT : aggOf S.it (xs.take (k + 1)) = ⟨A.count + 1, A.sum + x.value, x.value, x.value, F⟩ := by rw [hT0, hL, hM]
              repeat' (first
                | (with_reducible first | refine seq_normal ?_ | (refine hK _ _ ?_; clear hK K) | refine x_seq (fun K hK => ?_) | refine x_nil ?_ | refine x_block ?_ | refine x_skip ?_ | refine x_exit ?_ | refine x_ret ?_ | refine x_label ?_ | refine x_scope ?_ | (refine seq_ret ?_; clear hK K) | (refine seq_exit ?_; clear hK K) | refine block_normal ?_ | refine block_ret ?_ | refine block_exit ?_ | refine loop_exit ?_ | refine loop_ret ?_)
                | ((with_reducible refine x_reg_lit ?hq ?_); case hq => rfl)
                | ((first | (with_reducible first | refine x_op (fun K hK => ?_) | refine end_ret ?_ | refine end_normal ?_) | ((with_reducible refine x_guard_yes ?hy (fun K hK => ?_)); case hy => rfl)); simp only [go_sem, Int.cast_ofNat_Int, Nat.reduceEqDiff, Nat.reduceAdd, Nat.reduceMul, Nat.reduceLeDiff, Nat.reduceLT, Int.reduceLT, Int.reduceLE, Int.reduceEq, Int.reduceNeg, Int.reduceToNat, Nat.reducePow, reduceIte, reduceCtorEq, i1', i2', i3, i16, i18, hlt, q0, q1, c0, c1, c2, c3, w0, w1, w2, w3, ecnt, esum, ew, g3', g4', g5', okW_hset, hcell_hset_off, hcell_hset_ne, hbo, not_false_eq_true])
                | ((with_reducible first | refine x_guard_no ?hy ?_ | refine x_cond_true ?hy ?_); case hy => rfl)
                | ((with_reducible first | refine x_guard_none ?hy ?_ | refine x_cond_false ?hy ?_); case hy => rfl)
                | ((with_reducible refine block_exit_ne ?hy ?_); case hy => decide))
              refine loop_normal (m' := xs.length - (k + 1)) (by omega) ⟨k + 1, (by first | exact (i17'.trans (congrArg (Value.int .i64) hsn')) | exact congrArg (Value.int .i64) hsn'), rfl, ?_, hf1.trans (step 1 _ (step 0 _ (step 3 _ (step 2 _ (step 4 _ (Fr.refl _ _)))))), by omega, rfl⟩
              rw [hT]
              exact (((((hb1.set_same 4 (.int .i64 F)).set_same 2 (.int .i64 x.value)).set_same 3 (.int .i64 x.value)).set_same 0 (.int .i64 (A.count + 1))).set_same 1 (.int .i64 (A.sum + x.value)))
            · have g5' : (A.most < x.value) = False := by simp [g5]
              have hM : maxI A.most x.value = A.most := if_neg g5
              have hT : aggOf S.it (xs.take (k + 1)) = ⟨A.count + 1, A.sum + x.value, x.value, A.most, F⟩ := by rw [hT0, hL, hM]
              repeat' (first
                | (with_reducible first | refine seq_normal ?_ | (refine hK _ _ ?_; clear hK K) | refine x_seq (fun K hK => ?_) | refine x_nil ?_ | refine x_block ?_ | refine x_skip ?_ | refine x_exit ?_ | refine x_ret ?_ | refine x_label ?_ | refine x_scope ?_ | (refine seq_ret ?_; clear hK K) | (refine seq_exit ?_; clear hK K) | refine block_normal ?_ | refine block_ret ?_ | refine block_exit ?_ | refine loop_exit ?_ | refine loop_ret ?_)
                | ((with_reducible refine x_reg_lit ?hq ?_); case hq => rfl)
                | ((first | (with_reducible first | refine x_op (fun K hK => ?_) | refine end_ret ?_ | refine end_normal ?_) | ((with_reducible refine x_guard_yes ?hy (fun K hK => ?_)); case hy => rfl)); simp only [go_sem, Int.cast_ofNat_Int, Nat.reduceEqDiff, Nat.reduceAdd, Nat.reduceMul, Nat.reduceLeDiff, Nat.reduceLT, Int.reduceLT, Int.reduceLE, Int.reduceEq, Int.reduceNeg, Int.reduceToNat, Nat.reducePow, reduceIte, reduceCtorEq, i1', i2', i3, i16, i18, hlt, q0, q1, c0, c1, c2, c3, w0, w1, w2, w3, ecnt, esum, ew, g3', g4', g5', okW_hset, hcell_hset_off, hcell_hset_ne, hbo, not_false_eq_true])
                | ((with_reducible first | refine x_guard_no ?hy ?_ | refine x_cond_true ?hy ?_); case hy => rfl)
                | ((with_reducible first | refine x_guard_none ?hy ?_ | refine x_cond_false ?hy ?_); case hy => rfl)
                | ((with_reducible refine block_exit_ne ?hy ?_); case hy => decide))
              refine loop_normal (m' := xs.length - (k + 1)) (by omega) ⟨k + 1, (by first | exact (i17'.trans (congrArg (Value.int .i64) hsn')) | exact congrArg (Value.int .i64) hsn'), rfl, ?_, hf1.trans (step 1 _ (step 0 _ (step 2 _ (step 4 _ (Fr.refl _ _))))), by omega, rfl⟩
              rw [hT]
              exact ((((hb1.set_same 4 (.int .i64 F)).set_same 2 (.int .i64 x.value)).set_same 0 (.int .i64 (A.count + 1))).set_same 1 (.int .i64 (A.sum + x.value)))
          · have g4' : (x.value < A.least) = False := by simp [g4]
            have hL : minI A.least x.value = A.least := if_neg g4
            by_cases g5 : A.most < x.value
            · have g5' : (A.most < x.value) = True := by simp [g5]
              have hM : maxI A.most x.value = x.value := if_pos g5
              have hT : aggOf S.it (xs.take (k + 1)) = ⟨A.count + 1, A.sum + x.value, A.least, x.value, F⟩ := by rw [hT0, hL, hM]
              repeat' (first
                | (with_reducible first | refine seq_normal ?_ | (refine hK _ _ ?_; clear hK K) | refine x_seq (fun K hK => ?_) | refine x_nil ?_ | refine x_block ?_ | refine x_skip ?_ | refine x_exit ?_ | refine x_ret ?_ | refine x_label ?_ | refine x_scope ?_ | (refine seq_ret ?_; clear hK K) | (refine seq_exit ?_; clear hK K) | refine block_normal ?_ | refine block_ret ?_ | refine block_exit ?_ | refine loop_exit ?_ | refine loop_ret ?_)
                | ((with_reducible refine x_reg_lit ?hq ?_); case hq => rfl)
                | ((first | (with_reducible first | refine x_op (fun K hK => ?_) | refine end_ret ?_ | refine end_normal ?_) | ((with_reducible refine x_guard_yes ?hy (fun K hK => ?_)); case hy => rfl)); simp only [go_sem, Int.cast_ofNat_Int, Nat.reduceEqDiff, Nat.reduceAdd, Nat.reduceMul, Nat.reduceLeDiff, Nat.reduceLT, Int.reduceLT, Int.reduceLE, Int.reduceEq, Int.reduceNeg, Int.reduceToNat, Nat.reducePow, reduceIte, reduceCtorEq, i1', i2', i3, i16, i18, hlt, q0, q1, c0, c1, c2, c3, w0, w1, w2, w3, ecnt, esum, ew, g3', g4', g5', okW_hset, hcell_hset_off, hcell_hset_ne, hbo, not_false_eq_true])
                | ((with_reducible first | refine x_guard_no ?hy ?_ | refine x_cond_true ?hy ?_); case hy => rfl)
                | ((with_reducible first | refine x_guard_none ?hy ?_ | refine x_cond_false ?hy ?_); case hy => rfl)
                | ((with_reducible refine block_exit_ne ?hy ?_); case hy => decide))
              refine loop_normal (m' := xs.length - (k + 1)) (by omega) ⟨k + 1, (by first | exact (i17'.trans (congrArg (Value.int .i64) hsn')) | exact congrArg (Value.int .i64) hsn'), rfl, ?_, hf1.trans (step 1 _ (step 0 _ (step 3 _ (step 4 _ (Fr.refl _ _))))), by omega, rfl⟩
              rw [hT]
              exact ((((hb1.set_same 4 (.int .i64 F)).set_same 3 (.int .i64 x.value)).set_same 0 (.int .i64 (A.count + 1))).set_same 1 (.int .i64 (A.sum + x.value)))
            · have g5' : (A.most < x.value) = False := by simp [g5]
              have hM : maxI A.most x.value = A.most := if_neg g5
              have hT : aggOf S.it (xs.take (k + 1)) = ⟨A.count + 1, A.sum + x.value, A.least, A.most, F⟩ := by rw [hT0, hL, hM]
              repeat' (first
                | (with_reducible first | refine seq_normal ?_ | (refine hK _ _ ?_; clear hK K) | refine x_seq (fun K hK => ?_) | refine x_nil ?_ | refine x_block ?_ | refine x_skip ?_ | refine x_exit ?_ | refine x_ret ?_ | refine x_label ?_ | refine x_scope ?_ | (refine seq_ret ?_; clear hK K) | (refine seq_exit ?_; clear hK K) | refine block_normal ?_ | refine block_ret ?_ | refine block_exit ?_ | refine loop_exit ?_ | refine loop_ret ?_)
                | ((with_reducible refine x_reg_lit ?hq ?_); case hq => rfl)
                | ((first | (with_reducible first | refine x_op (fun K hK => ?_) | refine end_ret ?_ | refine end_normal ?_) | ((with_reducible refine x_guard_yes ?hy (fun K hK => ?_)); case hy => rfl)); simp only [go_sem, Int.cast_ofNat_Int, Nat.reduceEqDiff, Nat.reduceAdd, Nat.reduceMul, Nat.reduceLeDiff, Nat.reduceLT, Int.reduceLT, Int.reduceLE, Int.reduceEq, Int.reduceNeg, Int.reduceToNat, Nat.reducePow, reduceIte, reduceCtorEq, i1', i2', i3, i16, i18, hlt, q0, q1, c0, c1, c2, c3, w0, w1, w2, w3, ecnt, esum, ew, g3', g4', g5', okW_hset, hcell_hset_off, hcell_hset_ne, hbo, not_false_eq_true])
                | ((with_reducible first | refine x_guard_no ?hy ?_ | refine x_cond_true ?hy ?_); case hy => rfl)
                | ((with_reducible first | refine x_guard_none ?hy ?_ | refine x_cond_false ?hy ?_); case hy => rfl)
                | ((with_reducible refine block_exit_ne ?hy ?_); case hy => decide))
              refine loop_normal (m' := xs.length - (k + 1)) (by omega) ⟨k + 1, (by first | exact (i17'.trans (congrArg (Value.int .i64) hsn')) | exact congrArg (Value.int .i64) hsn'), rfl, ?_, hf1.trans (step 1 _ (step 0 _ (step 4 _ (Fr.refl _ _)))), by omega, rfl⟩
              rw [hT]
              exact (((hb1.set_same 4 (.int .i64 F)).set_same 0 (.int .i64 (A.count + 1))).set_same 1 (.int .i64 (A.sum + x.value)))
  · have t1 : (k < xs.length) = False := by simp; omega
    have hk' : k = xs.length := by omega
    have i2' := i2.trans hvo
    repeat' (first
      | (with_reducible first | refine seq_normal ?_ | (refine hK _ _ ?_; clear hK K) | refine x_seq (fun K hK => ?_) | refine x_nil ?_ | refine x_block ?_ | refine x_skip ?_ | refine x_exit ?_ | refine x_ret ?_ | refine x_label ?_ | refine x_scope ?_ | (refine seq_ret ?_; clear hK K) | (refine seq_exit ?_; clear hK K) | refine block_normal ?_ | refine block_ret ?_ | refine block_exit ?_ | refine loop_exit ?_ | refine loop_ret ?_)
      | ((with_reducible refine x_reg_lit ?hq ?_); case hq => rfl)
      | ((first | (with_reducible first | refine x_op (fun K hK => ?_) | refine end_ret ?_ | refine end_normal ?_) | ((with_reducible refine x_guard_yes ?hy (fun K hK => ?_)); case hy => rfl)); simp only [go_sem, Int.cast_ofNat_Int, Nat.reduceEqDiff, Nat.reduceAdd, Nat.reduceMul, Nat.reduceLeDiff, Nat.reduceLT, Int.reduceLT, Int.reduceLE, Int.reduceEq, Int.reduceNeg, Int.reduceToNat, Nat.reducePow, reduceIte, reduceCtorEq, i18, i2', t1])
      | ((with_reducible first | refine x_guard_no ?hy ?_ | refine x_cond_true ?hy ?_); case hy => rfl)
      | ((with_reducible first | refine x_guard_none ?hy ?_ | refine x_cond_false ?hy ?_); case hy => rfl)
      | ((with_reducible refine block_exit_ne ?hy ?_); case hy => decide))
    rw [hk', List.take_length] at i17 hb1
    exact hQ _ _ keep i17 hb1 hf1
end
end Go.Proofs.Ytndkbhlfbeiniaa

namespace Go.Proofs.Ytndkbhlfbeiniaa
open Go Go.Hp Go.Sp
set_option linter.all false
set_option maxRecDepth 100000
set_option maxHeartbeats 1600000

section
variable {H : Heap} {f : Nat} {T : Nat → Prop} {S : Sq} {K : Value → Heap → Prop} {xs : List Nat} {B C : Option Nat} {vl vo : Value} {fl : Nat}
theorem piece_ok (hM : FoM H f T S) (hx : xs ∈ S.rows) (hne : xs ≠ []) (hl : Rds H B vl (xs.map Int.ofNat)) (ho : RdsI H C vo (xs.map S.it)) (hfl : fl < 256) (hB : ∀ b, B = some b → ¬ T b) (hC : ∀ b, C = some b → ¬ T b)
    (fin : ∀ H', FoM H' f T S → Fr T H H' → K (.bool true) H') : CallsH Try.prog 17 #[.pointer (some ⟨f, 0, none⟩), vl, vo, .int .i64 (fl : Nat)] H K := by
  have hpos := List.length_pos_iff.2 hne
  have hlen : xs.length ≤ 4096 := by
    have h1 := hM.len
    have h2 := (List.sublist_flatten_of_mem hx).length_le
    omega
  have hxf : ∀ x ∈ xs, x ∈ S.rows.flatten := fun x h => List.mem_flatten.2 ⟨xs, hx, h⟩
  obtain ⟨n, hn⟩ : ∃ n, n = xs.length := ⟨_, rfl⟩
  obtain ⟨z, hz⟩ : ∃ z, xs[n - 1]? = some z := ⟨_, List.getElem?_eq_getElem (by omega)⟩
  obtain ⟨w, hw⟩ : ∃ w, xs[0]? = some w := ⟨_, List.getElem?_eq_getElem (by omega)⟩
  have hzx := List.mem_of_getElem? hz
  have hwx := List.mem_of_getElem? hw
  obtain ⟨bl, ol, cl, hBl, hvl, cz⟩ := hl.read (i := n - 1) (x := (z : Int)) (by rw [List.getElem?_map, hz]; rfl)
  rw [List.length_map, ← hn] at hvl
  subst hvl
  have ewn : IntKind.i64.wrap ((n : Int) - 1) = ((n - 1 : Nat) : Int) := by rw [wrap_i64] <;> omega
  have t1 : (n - 1 < n) = True := by simp; omega
  have t2 : (0 < n) = True := by simp; omega
  have t3 : ((0 : Int) < (n : Int)) = True := by simp; omega
  have rd0 : ∀ {H' : Heap} {B : Option Nat}, Rds H' B (.slice (some ⟨bl, ol, none⟩) n cl) (xs.map Int.ofNat) → hcell H' ⟨bl, ol, none⟩ = some (.int .i64 (w : Nat)) := fun h => by
    obtain ⟨b, o, c, h1, h2, h3⟩ := h.read (i := 0) (x := (w : Int)) (by rw [List.getElem?_map, hw]; rfl)
    simp only [Value.slice.injEq, Option.some.injEq, Addr.mk.injEq] at h2
    obtain ⟨⟨rfl, rfl, _⟩, _⟩ := h2
    exact h3
  refine call17 (by simp) ?_
  simp only [Try.f17, Option.getD_some]
  repeat' (first
    | (with_reducible first | refine seq_normal ?_ | (refine hK _ _ ?_; clear hK K) | refine x_seq (fun K hK => ?_) | refine x_nil ?_ | refine x_block ?_ | refine x_skip ?_ | refine x_exit ?_ | refine x_ret ?_ | refine x_label ?_ | refine x_scope ?_ | (refine seq_ret ?_; clear hK K) | (refine seq_exit ?_; clear hK K) | refine block_normal ?_ | refine block_ret ?_ | refine block_exit ?_ | refine loop_exit ?_ | refine loop_ret ?_)
    | ((with_reducible refine x_reg_lit ?hq ?_); case hq => rfl)
    | ((first | (with_reducible first | refine x_op (fun K hK => ?_) | refine end_ret ?_ | refine end_normal ?_) | ((with_reducible refine x_guard_yes ?hy (fun K hK => ?_)); case hy => rfl)); simp only [go_sem, Int.cast_ofNat_Int, Nat.reduceEqDiff, Nat.reduceAdd, Nat.reduceMul, Nat.reduceLeDiff, Nat.reduceLT, Int.reduceLT, Int.reduceLE, Int.reduceEq, Int.reduceNeg, Int.reduceToNat, Nat.reducePow, reduceIte, reduceCtorEq, ewn, t1, cz])
    | ((with_reducible first | refine x_guard_no ?hy ?_ | refine x_cond_true ?hy ?_); case hy => rfl)
    | ((with_reducible first | refine x_guard_none ?hy ?_ | refine x_cond_false ?hy ?_); case hy => rfl)
    | ((with_reducible refine block_exit_ne ?hy ?_); case hy => decide))
  refine m_sum hM hx hzx ?_
  intro H1 hF1 hf1
  repeat' (first
    | (with_reducible first | refine seq_normal ?_ | (refine hK _ _ ?_; clear hK K) | refine x_seq (fun K hK => ?_) | refine x_nil ?_ | refine x_block ?_ | refine x_skip ?_ | refine x_exit ?_ | refine x_ret ?_ | refine x_label ?_ | refine x_scope ?_ | (refine seq_ret ?_; clear hK K) | (refine seq_exit ?_; clear hK K) | refine block_normal ?_ | refine block_ret ?_ | refine block_exit ?_ | refine loop_exit ?_ | refine loop_ret ?_)
    | ((with_reducible refine x_reg_lit ?hq ?_); case hq => rfl)
    | ((first | (with_reducible first | refine x_op (fun K hK => ?_) | refine end_ret ?_ | refine end_normal ?_) | ((with_reducible refine x_guard_yes ?hy (fun K hK => ?_)); case hy => rfl)); simp only [go_sem, Int.cast_ofNat_Int, Nat.reduceEqDiff, Nat.reduceAdd, Nat.reduceMul, Nat.reduceLeDiff, Nat.reduceLT, Int.reduceLT, Int.reduceLE, Int.reduceEq, Int.reduceNeg, Int.reduceToNat, Nat.reducePow, reduceIte, reduceCtorEq, Agg.val, t2, t3, hcell_push, hcell_top, okW_push, okW_top, hcell_hset_ne, hcell_hset_off, hcell_hset_eq, okW_hset, hset_size, Array.size_push, Nat.lt_add_one, ne_add_one, add_one_ne, Nat.add_assoc, add_same, add_lt_same, Nat.reduceEqDiff, lt_add_k, add_k_ne, ne_add_k])
    | ((with_reducible first | refine x_guard_no ?hy ?_ | refine x_cond_true ?hy ?_); case hy => rfl)
    | ((with_reducible first | refine x_guard_none ?hy ?_ | refine x_cond_false ?hy ?_); case hy => rfl)
    | ((with_reducible refine block_exit_ne ?hy ?_); case hy => decide))
  generalize hH2 : hset _ _ _ = H2
  have hb2 : Blk H2 H1.size (aggCells (aggOf S.it xs)) := by rw [← hH2]; exact (agg_new H1 _ _).1
  have hf12 : Fr (fun _ => False) H1 H2 := by rw [← hH2]; exact (by ((repeat (first | refine Fr.set ?_ (by simp) _ | refine Fr.push ?_ _)); exact Fr.refl _ _))
  clear hH2
  have hF2 := hF1.grow hf12
  have hf2 : Fr T H H2 := hf1.trans (hf12.mono fun _ _ h => h.elim)
  have hl2 := hl.frame hf2 hB
  have c0 := rd0 hl2
  simp only [go_sem, Int.cast_ofNat_Int, Nat.reduceEqDiff, Nat.reduceAdd, Nat.reduceMul, Nat.reduceLeDiff, Nat.reduceLT, Int.reduceLT, Int.reduceLE, Int.reduceEq, Int.reduceNeg, Int.reduceToNat, Nat.reducePow, reduceIte, reduceCtorEq, c0]
  repeat' (first
    | (with_reducible first | refine seq_normal ?_ | (refine hK _ _ ?_; clear hK K) | refine x_seq (fun K hK => ?_) | refine x_nil ?_ | refine x_block ?_ | refine x_skip ?_ | refine x_exit ?_ | refine x_ret ?_ | refine x_label ?_ | refine x_scope ?_ | (refine seq_ret ?_; clear hK K) | (refine seq_exit ?_; clear hK K) | refine block_normal ?_ | refine block_ret ?_ | refine block_exit ?_ | refine loop_exit ?_ | refine loop_ret ?_)
    | ((with_reducible refine x_reg_lit ?hq ?_); case hq => rfl)
    | ((first | (with_reducible first | refine x_op (fun K hK => ?_) | refine end_ret ?_ | refine end_normal ?_) | ((with_reducible refine x_guard_yes ?hy (fun K hK => ?_)); case hy => rfl)); simp only [go_sem, Int.cast_ofNat_Int, Nat.reduceEqDiff, Nat.reduceAdd, Nat.reduceMul, Nat.reduceLeDiff, Nat.reduceLT, Int.reduceLT, Int.reduceLE, Int.reduceEq, Int.reduceNeg, Int.reduceToNat, Nat.reducePow, reduceIte, reduceCtorEq, t2, t3, c0])
    | ((with_reducible first | refine x_guard_no ?hy ?_ | refine x_cond_true ?hy ?_); case hy => rfl)
    | ((with_reducible first | refine x_guard_none ?hy ?_ | refine x_cond_false ?hy ?_); case hy => rfl)
    | ((with_reducible refine block_exit_ne ?hy ?_); case hy => decide))
  refine m_flagged hF2 hx hwx hfl ?_
  intro H3 hF3 hf3
  obtain ⟨F0, hF0⟩ : ∃ F0 : Nat, F0 = (firstF S.it fl xs).getD 0 := ⟨_, rfl⟩
  obtain ⟨E0, hE0⟩ : ∃ E0 : Int, E0 = if (firstF S.it fl xs).isSome = true then 0 else 35 := ⟨_, rfl⟩
  rw [← hF0, ← hE0]
  have hf03 := hf2.trans hf3
  have c0 := rd0 (hl.frame hf03 hB)
  have hnT1 : ¬ T H1.size := fun h => by have := hF1.lt h; omega
  have hb3 := hb2.frame hf3 hnT1
  repeat' (first
    | (with_reducible first | refine seq_normal ?_ | (refine hK _ _ ?_; clear hK K) | refine x_seq (fun K hK => ?_) | refine x_nil ?_ | refine x_block ?_ | refine x_skip ?_ | refine x_exit ?_ | refine x_ret ?_ | refine x_label ?_ | refine x_scope ?_ | (refine seq_ret ?_; clear hK K) | (refine seq_exit ?_; clear hK K) | refine block_normal ?_ | refine block_ret ?_ | refine block_exit ?_ | refine loop_exit ?_ | refine loop_ret ?_)
    | ((with_reducible refine x_reg_lit ?hq ?_); case hq => rfl)
    | ((first | (with_reducible first | refine x_op (fun K hK => ?_) | refine end_ret ?_ | refine end_normal ?_) | ((with_reducible refine x_guard_yes ?hy (fun K hK => ?_)); case hy => rfl)); simp only [go_sem, Int.cast_ofNat_Int, Nat.reduceEqDiff, Nat.reduceAdd, Nat.reduceMul, Nat.reduceLeDiff, Nat.reduceLT, Int.reduceLT, Int.reduceLE, Int.reduceEq, Int.reduceNeg, Int.reduceToNat, Nat.reducePow, reduceIte, reduceCtorEq, t2, t3, c0])
    | ((with_reducible first | refine x_guard_no ?hy ?_ | refine x_cond_true ?hy ?_); case hy => rfl)
    | ((with_reducible first | refine x_guard_none ?hy ?_ | refine x_cond_false ?hy ?_); case hy => rfl)
    | ((with_reducible refine block_exit_ne ?hy ?_); case hy => decide))
  refine m_all hF3 hx hwx ?_
  intro H4 B4 v4 hF4 hi4 hB4 hf4
  have hf04 := hf03.trans hf4
  have hb4 := hb3.frame hf4 hnT1
  have hl4 := hl.frame hf04 hB
  have ho4 := ho.frame hf04 hC
  repeat' (first
    | (with_reducible first | refine seq_normal ?_ | (refine hK _ _ ?_; clear hK K) | refine x_seq (fun K hK => ?_) | refine x_nil ?_ | refine x_block ?_ | refine x_skip ?_ | refine x_exit ?_ | refine x_ret ?_ | refine x_label ?_ | refine x_scope ?_ | (refine seq_ret ?_; clear hK K) | (refine seq_exit ?_; clear hK K) | refine block_normal ?_ | refine block_ret ?_ | refine block_exit ?_ | refine loop_exit ?_ | refine loop_ret ?_)
    | ((with_reducible refine x_reg_lit ?hq ?_); case hq => rfl)
    | ((first | (with_reducible first | refine x_op (fun K hK => ?_) | refine end_ret ?_ | refine end_normal ?_) | ((with_reducible refine x_guard_yes ?hy (fun K hK => ?_)); case hy => rfl)); simp only [go_sem, Int.cast_ofNat_Int, Nat.reduceEqDiff, Nat.reduceAdd, Nat.reduceMul, Nat.reduceLeDiff, Nat.reduceLT, Int.reduceLT, Int.reduceLE, Int.reduceEq, Int.reduceNeg, Int.reduceToNat, Nat.reducePow, reduceIte, reduceCtorEq])
    | ((with_reducible first | refine x_guard_no ?hy ?_ | refine x_cond_true ?hy ?_); case hy => rfl)
    | ((with_reducible first | refine x_guard_none ?hy ?_ | refine x_cond_false ?hy ?_); case hy => rfl)
    | ((with_reducible refine block_exit_ne ?hy ?_); case hy => decide))
  refine Pkisthmuslaw03.same_ok hi4.rds hl4 (by simp; omega) ?_
  have dt : decide (List.map Int.ofNat xs = List.map Int.ofNat xs) = true := by simp
  rw [dt]
  repeat' (first
    | (with_reducible first | refine seq_normal ?_ | (refine hK _ _ ?_; clear hK K) | refine x_seq (fun K hK => ?_) | refine x_nil ?_ | refine x_block ?_ | refine x_skip ?_ | refine x_exit ?_ | refine x_ret ?_ | refine x_label ?_ | refine x_scope ?_ | (refine seq_ret ?_; clear hK K) | (refine seq_exit ?_; clear hK K) | refine block_normal ?_ | refine block_ret ?_ | refine block_exit ?_ | refine loop_exit ?_ | refine loop_ret ?_)
    | ((with_reducible refine x_reg_lit ?hq ?_); case hq => rfl)
    | ((first | (with_reducible first | refine x_op (fun K hK => ?_) | refine end_ret ?_ | refine end_normal ?_) | ((with_reducible refine x_guard_yes ?hy (fun K hK => ?_)); case hy => rfl)); simp only [go_sem, Int.cast_ofNat_Int, Nat.reduceEqDiff, Nat.reduceAdd, Nat.reduceMul, Nat.reduceLeDiff, Nat.reduceLT, Int.reduceLT, Int.reduceLE, Int.reduceEq, Int.reduceNeg, Int.reduceToNat, Nat.reducePow, reduceIte, reduceCtorEq, hcell_push, hcell_top, okW_push, okW_top, hcell_hset_ne, hcell_hset_off, hcell_hset_eq, okW_hset, hset_size, Array.size_push, Nat.lt_add_one, ne_add_one, add_one_ne, Nat.add_assoc, add_same, add_lt_same, Nat.reduceEqDiff, lt_add_k, add_k_ne, ne_add_k])
    | ((with_reducible first | refine x_guard_no ?hy ?_ | refine x_cond_true ?hy ?_); case hy => rfl)
    | ((with_reducible first | refine x_guard_none ?hy ?_ | refine x_cond_false ?hy ?_); case hy => rfl)
    | ((with_reducible refine block_exit_ne ?hy ?_); case hy => decide))
  generalize hH5 : hset _ _ _ = H5
  have hb5 : Blk H5 H4.size (aggCells Agg.zero) := by rw [← hH5]; exact (agg_new H4 Agg.zero _).1
  have hf45 : Fr (fun _ => False) H4 H5 := by rw [← hH5]; exact (by ((repeat (first | refine Fr.set ?_ (by simp) _ | refine Fr.push ?_ _)); exact Fr.refl _ _))
  clear hH5
  have hF5 := hF4.grow hf45
  have hl5 := hl4.frame hf45 fun _ _ h => h
  have ho5 := ho4.frame hf45 fun _ _ h => h
  have hb15 := hb4.frame hf45 fun h => h
  have hl_lt : ∀ b, B = some b → b < H.size := fun b hb => by
    rw [hBl] at hb
    obtain rfl := Option.some.inj hb
    exact hcell_lt cz
  have ho_lt : ∀ b, C = some b → b < H.size := fun b hb => by
    obtain ⟨bo, oo, co, hCo, _, q0, _⟩ := ho.read (i := 0) (x := S.it w) (by rw [List.getElem?_map, hw]; rfl)
    rw [hCo] at hb
    obtain rfl := Option.some.inj hb
    exact hcell_lt q0
  have hs1 := hf1.size
  have hs4 := hf04.size
  have hb1l := hb4.lt
  refine pieceLoop (b := H4.size) hl5 ho5 (fun x h => hF5.may (hxf x h)) hlen (fun x h => hF5.pos (hxf x h)) hfl hb5 (fun h => by have := hl_lt _ h; omega) (fun h => by have := ho_lt _ h; omega) rfl rfl rfl rfl rfl rfl ?_
  rintro e6 H6 ⟨k9, k10, k11, k12, k14, k15, k16⟩ j17 hb6 hf56
  have hF6 := hF5.frame hf56 fun b hb e => by have := hF4.lt hb; omega
  have hb16 := hb15.frame hf56 (by show ¬ H1.size = H4.size; omega)
  have a0 := hb16.cellOf (i := 0) rfl
  have a1 := hb16.cellOf (i := 1) rfl
  have a2 := hb16.cellOf (i := 2) rfl
  have a3 := hb16.cellOf (i := 3) rfl
  have a4 := hb16.cellOf (i := 4) rfl
  have b0 := hb6.cellOf (i := 0) rfl
  have b1 := hb6.cellOf (i := 1) rfl
  have b2 := hb6.cellOf (i := 2) rfl
  have b3 := hb6.cellOf (i := 3) rfl
  have b4 := hb6.cellOf (i := 4) rfl
  have hffin : Fr T H H6 := (hf04.trans (hf45.mono fun _ _ h => h.elim)).trans' hf56 fun b hb e => by omega
  rw [← hF0] at j17
  have z1 : ((F0 : Int) == (F0 : Int)) = true := by simp
  cases hf : firstF S.it fl xs with
  | none =>
    rw [hf] at hF0 hE0
    have z2 : ((F0 : Int) != 0) = false := by rw [hF0]; rfl
    have z3 : (E0 == 0) = false := by rw [hE0]; rfl
    have z4 : (E0 == 35) = true := by rw [hE0]; rfl
    repeat' (first
      | (with_reducible first | refine seq_normal ?_ | (refine hK _ _ ?_; clear hK K) | refine x_seq (fun K hK => ?_) | refine x_nil ?_ | refine x_block ?_ | refine x_skip ?_ | refine x_exit ?_ | refine x_ret ?_ | refine x_label ?_ | refine x_scope ?_ | (refine seq_ret ?_; clear hK K) | (refine seq_exit ?_; clear hK K) | refine block_normal ?_ | refine block_ret ?_ | refine block_exit ?_ | refine loop_exit ?_ | refine loop_ret ?_)
      | ((with_reducible refine x_reg_lit ?hq ?_); case hq => rfl)
      | ((first | (with_reducible first | refine x_op (fun K hK => ?_) | refine end_ret ?_ | refine end_normal ?_) | ((with_reducible refine x_guard_yes ?hy (fun K hK => ?_)); case hy => rfl)); simp only [go_sem, Int.cast_ofNat_Int, Nat.reduceEqDiff, Nat.reduceAdd, Nat.reduceMul, Nat.reduceLeDiff, Nat.reduceLT, Int.reduceLT, Int.reduceLE, Int.reduceEq, Int.reduceNeg, Int.reduceToNat, Nat.reducePow, reduceIte, reduceCtorEq, k9, k10, k11, k12, k14, k15, k16, j17, z1, z2, z3, z4, a0, a1, a2, a3, a4, b0, b1, b2, b3, b4])
      | ((with_reducible first | refine x_guard_no ?hy ?_ | refine x_cond_true ?hy ?_); case hy => rfl)
      | ((with_reducible first | refine x_guard_none ?hy ?_ | refine x_cond_false ?hy ?_); case hy => rfl)
      | ((with_reducible refine block_exit_ne ?hy ?_); case hy => decide))
    refine agg_eq (op := .eql) (a := aggOf S.it xs) (b := aggOf S.it xs) ?_
    simp only [decide_true]
    repeat' (first
      | (with_reducible first | refine seq_normal ?_ | (refine hK _ _ ?_; clear hK K) | refine x_seq (fun K hK => ?_) | refine x_nil ?_ | refine x_block ?_ | refine x_skip ?_ | refine x_exit ?_ | refine x_ret ?_ | refine x_label ?_ | refine x_scope ?_ | (refine seq_ret ?_; clear hK K) | (refine seq_exit ?_; clear hK K) | refine block_normal ?_ | refine block_ret ?_ | refine block_exit ?_ | refine loop_exit ?_ | refine loop_ret ?_)
      | ((with_reducible refine x_reg_lit ?hq ?_); case hq => rfl)
      | ((first | (with_reducible first | refine x_op (fun K hK => ?_) | refine end_ret ?_ | refine end_normal ?_) | ((with_reducible refine x_guard_yes ?hy (fun K hK => ?_)); case hy => rfl)); simp only [go_sem, Int.cast_ofNat_Int, Nat.reduceEqDiff, Nat.reduceAdd, Nat.reduceMul, Nat.reduceLeDiff, Nat.reduceLT, Int.reduceLT, Int.reduceLE, Int.reduceEq, Int.reduceNeg, Int.reduceToNat, Nat.reducePow, reduceIte, reduceCtorEq, k9, k10, k11, k12, k14, k15, k16, j17])
      | ((with_reducible first | refine x_guard_no ?hy ?_ | refine x_cond_true ?hy ?_); case hy => rfl)
      | ((with_reducible first | refine x_guard_none ?hy ?_ | refine x_cond_false ?hy ?_); case hy => rfl)
      | ((with_reducible refine block_exit_ne ?hy ?_); case hy => decide))
    exact fin _ hF6 hffin
  | some j =>
    rw [hf] at hF0 hE0
    have hjx : j ∈ xs := List.mem_of_find?_eq_some hf
    have hjp := hF5.pos (hxf j hjx)
    have z2 : ((F0 : Int) != 0) = true := by
      have : F0 = j := hF0
      simp; omega
    have z3 : (E0 == 0) = true := by rw [hE0]; rfl
    repeat' (first
      | (with_reducible first | refine seq_normal ?_ | (refine hK _ _ ?_; clear hK K) | refine x_seq (fun K hK => ?_) | refine x_nil ?_ | refine x_block ?_ | refine x_skip ?_ | refine x_exit ?_ | refine x_ret ?_ | refine x_label ?_ | refine x_scope ?_ | (refine seq_ret ?_; clear hK K) | (refine seq_exit ?_; clear hK K) | refine block_normal ?_ | refine block_ret ?_ | refine block_exit ?_ | refine loop_exit ?_ | refine loop_ret ?_)
      | ((with_reducible refine x_reg_lit ?hq ?_); case hq => rfl)
      | ((first | (with_reducible first | refine x_op (fun K hK => ?_) | refine end_ret ?_ | refine end_normal ?_) | ((with_reducible refine x_guard_yes ?hy (fun K hK => ?_)); case hy => rfl)); simp only [go_sem, Int.cast_ofNat_Int, Nat.reduceEqDiff, Nat.reduceAdd, Nat.reduceMul, Nat.reduceLeDiff, Nat.reduceLT, Int.reduceLT, Int.reduceLE, Int.reduceEq, Int.reduceNeg, Int.reduceToNat, Nat.reducePow, reduceIte, reduceCtorEq, k9, k10, k11, k12, k14, k15, k16, j17, z1, z2, z3, a0, a1, a2, a3, a4, b0, b1, b2, b3, b4])
      | ((with_reducible first | refine x_guard_no ?hy ?_ | refine x_cond_true ?hy ?_); case hy => rfl)
      | ((with_reducible first | refine x_guard_none ?hy ?_ | refine x_cond_false ?hy ?_); case hy => rfl)
      | ((with_reducible refine block_exit_ne ?hy ?_); case hy => decide))
    refine agg_eq (op := .eql) (a := aggOf S.it xs) (b := aggOf S.it xs) ?_
    simp only [decide_true]
    repeat' (first
      | (with_reducible first | refine seq_normal ?_ | (refine hK _ _ ?_; clear hK K) | refine x_seq (fun K hK => ?_) | refine x_nil ?_ | refine x_block ?_ | refine x_skip ?_ | refine x_exit ?_ | refine x_ret ?_ | refine x_label ?_ | refine x_scope ?_ | (refine seq_ret ?_; clear hK K) | (refine seq_exit ?_; clear hK K) | refine block_normal ?_ | refine block_ret ?_ | refine block_exit ?_ | refine loop_exit ?_ | refine loop_ret ?_)
      | ((with_reducible refine x_reg_lit ?hq ?_); case hq => rfl)
      | ((first | (with_reducible first | refine x_op (fun K hK => ?_) | refine end_ret ?_ | refine end_normal ?_) | ((with_reducible refine x_guard_yes ?hy (fun K hK => ?_)); case hy => rfl)); simp only [go_sem, Int.cast_ofNat_Int, Nat.reduceEqDiff, Nat.reduceAdd, Nat.reduceMul, Nat.reduceLeDiff, Nat.reduceLT, Int.reduceLT, Int.reduceLE, Int.reduceEq, Int.reduceNeg, Int.reduceToNat, Nat.reducePow, reduceIte, reduceCtorEq, k9, k10, k11, k12, k14, k15, k16, j17])
      | ((with_reducible first | refine x_guard_no ?hy ?_ | refine x_cond_true ?hy ?_); case hy => rfl)
      | ((with_reducible first | refine x_guard_none ?hy ?_ | refine x_cond_false ?hy ?_); case hy => rfl)
      | ((with_reducible refine block_exit_ne ?hy ?_); case hy => decide))
    exact fin _ hF6 hffin
end
end Go.Proofs.Ytndkbhlfbeiniaa
