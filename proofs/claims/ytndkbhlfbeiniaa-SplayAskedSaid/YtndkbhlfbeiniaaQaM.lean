/-
  Splay forests, asked and changed: every call's answer and what it leaves, as functions.
-/
import Derived.Test.YtndkbhlfbeiniaaM5
namespace Go.Sp
open Go Go.Hp
set_option linter.unusedVariables false
def Sq.hasB (S : Sq) (i : Int) : Bool := decide (0 ≤ i) && S.rows.flatten.contains i.toNat
def Sq.rowOf (S : Sq) (k : Nat) : List Nat := (S.rows.find? fun xs => xs.contains k).getD []
theorem Sq.hasB_iff {S : Sq} {i : Int} : S.hasB i = true ↔ S.Has i := by
  unfold Sq.hasB Sq.Has
  rw [Bool.and_eq_true, decide_eq_true_iff, List.contains_iff_mem]
  constructor
  · rintro ⟨h1, h2⟩
    exact ⟨i.toNat, by omega, h2⟩
  · rintro ⟨k, rfl, h⟩
    exact ⟨by omega, by simpa using h⟩
theorem Sq.rowOf_spec {S : Sq} {k : Nat} (h : k ∈ S.rows.flatten) : S.rowOf k ∈ S.rows ∧ k ∈ S.rowOf k := by
  obtain ⟨xs, hx, hk⟩ := List.mem_flatten.1 h
  unfold Sq.rowOf
  cases hf : S.rows.find? fun xs => xs.contains k with
  | none => exact absurd (by simpa using hk) (List.find?_eq_none.1 hf xs hx)
  | some ys =>
    have h1 := List.mem_of_find?_eq_some hf
    have h2 := List.find?_some hf
    exact ⟨h1, by simpa using h2⟩
def Sq.getQ (S : Sq) (i : Int) : Item × Int := if S.hasB i then (S.it i.toNat, 0) else (Item.zero, 31)
def Sq.sameQ (S : Sq) (a b : Int) : Bool × Int := if S.hasB a && S.hasB b then (decide (S.rowOf b.toNat = S.rowOf a.toNat), 0) else (false, 31)
def Sq.rankQ (S : Sq) (i : Int) : Int × Int := if S.hasB i then (((S.rowOf i.toNat).idxOf i.toNat : Nat), 0) else (0, 31)
def Sq.atQ (S : Sq) (i n : Int) : Int × Int := if S.hasB i then (if 0 ≤ n then match (S.rowOf i.toNat)[n.toNat]? with | some j => ((j : Int), 0) | none => (0, 34) else (0, 34)) else (0, 31)
def Sq.sumQ (S : Sq) (i : Int) : Agg × Int := if S.hasB i then (aggOf S.it (S.rowOf i.toNat), 0) else (Agg.zero, 31)
def Sq.flaggedQ (S : Sq) (i n : Int) : Int × Int := if S.hasB i then (if 0 ≤ n ∧ n < 256 then match firstF S.it n.toNat (S.rowOf i.toNat) with | some j => ((j : Int), 0) | none => (0, 35) else (0, 1)) else (0, 31)
def Sq.allQ (S : Sq) (i : Int) : List Nat × Int := if S.hasB i then (S.rowOf i.toNat, 0) else ([], 31)
end Go.Sp
namespace Go.Proofs.Ytndkbhlfbeiniaa
open Go Go.Hp Go.Sp
set_option linter.all false
set_option maxRecDepth 100000
set_option maxHeartbeats 1600000

def Sq.makeQ (S : Sq) (x : Sp.Item) : (Int × Int) × Sq := if mayB x = false then ((0, 1), S) else if S.rows.flatten.length = S.room then ((0, 30), S) else (((S.next : Nat), 0), S.made x)
def Sq.freeQ (S : Sq) (i : Int) : Int × Sq := if S.hasB i then (if S.rowOf i.toNat = [i.toNat] then (0, S.freed i.toNat (S.rows.erase [i.toNat])) else (32, S)) else (31, S)
def Sq.setQ (S : Sq) (i : Int) (x : Sp.Item) : Int × Sq := if S.hasB i then (if mayB x = false then (1, S) else (0, { S with it := fun j => if j = i.toNat then x else S.it j })) else (31, S)
def Sq.joinQ (S : Sq) (a b : Int) : Int × Sq := if S.hasB a && S.hasB b then (if S.rowOf a.toNat = S.rowOf b.toNat then (33, S) else (0, { S with rows := (S.rowOf a.toNat ++ S.rowOf b.toNat) :: (S.rows.erase (S.rowOf a.toNat)).erase (S.rowOf b.toNat) })) else (31, S)
def Sq.splitQ (S : Sq) (i : Int) : Int × Sq := if S.hasB i then (if (S.rowOf i.toNat).idxOf i.toNat = 0 then (0, S) else (0, { S with rows := (S.rowOf i.toNat).take ((S.rowOf i.toNat).idxOf i.toNat) :: (S.rowOf i.toNat).drop ((S.rowOf i.toNat).idxOf i.toNat) :: S.rows.erase (S.rowOf i.toNat) })) else (31, S)
section
variable {H H' : Heap} {f : Nat} {T : Nat → Prop} {S : Sq} {K : Value → Heap → Prop} {k j : Nat}
theorem idx_split {xs : List Nat} {k : Nat} (h : k ∈ xs) : xs = xs.take (xs.idxOf k) ++ k :: xs.drop (xs.idxOf k + 1) ∧ (xs.take (xs.idxOf k)).length = xs.idxOf k ∧ xs.drop (xs.idxOf k) = k :: xs.drop (xs.idxOf k + 1) := by
  have hlt := List.idxOf_lt_length_of_mem h
  have he : xs[xs.idxOf k] = k := List.getElem_idxOf hlt
  have hd : xs.drop (xs.idxOf k) = k :: xs.drop (xs.idxOf k + 1) := by rw [List.drop_eq_getElem_cons hlt, he]
  exact ⟨by rw [← hd, List.take_append_drop], by rw [List.length_take]; omega, hd⟩
theorem no_has {i : Int} (h : S.hasB i = false) : ¬ S.Has i := fun hh => by rw [Sq.hasB_iff.2 hh] at h; cases h
theorem has_nat {i : Int} (h : S.hasB i = true) : ∃ k : Nat, i = (k : Int) ∧ k ∈ S.rows.flatten ∧ i.toNat = k := by
  obtain ⟨k, hk, h2⟩ := Sq.hasB_iff.1 h
  exact ⟨k, hk, h2, by omega⟩
theorem q_get {i : Int} (hM : FoM H f T S) (fin : ∀ H', FoM H' f T S → Fr T H H' → K (.tuple #[(S.getQ i).1.val, .int .i64 (S.getQ i).2]) H') : CallsH Try.prog 16 #[.pointer (some ⟨f, 0, none⟩), .int .i64 i] H K := by
  unfold Sq.getQ at fin
  cases h : S.hasB i with
  | false => rw [h] at fin; exact m_get_none hM (no_has h) fin
  | true =>
    obtain ⟨k, rfl, hk, e⟩ := has_nat h
    rw [h] at fin
    simp only [if_true, e] at fin
    exact m_get hM hk fin
theorem q_same {a b : Int} (hM : FoM H f T S) (fin : ∀ H', FoM H' f T S → Fr T H H' → K (.tuple #[.bool (S.sameQ a b).1, .int .i64 (S.sameQ a b).2]) H') : CallsH Try.prog 27 #[.pointer (some ⟨f, 0, none⟩), .int .i64 a, .int .i64 b] H K := by
  unfold Sq.sameQ at fin
  cases h : S.hasB a with
  | false => rw [h] at fin; exact m_same_none hM (.inl (no_has h)) (fin H hM (.refl _ _))
  | true =>
    cases h' : S.hasB b with
    | false => rw [h, h'] at fin; exact m_same_none hM (.inr (no_has h')) (fin H hM (.refl _ _))
    | true =>
      obtain ⟨k, rfl, hk, e⟩ := has_nat h
      obtain ⟨j, rfl, hj, e'⟩ := has_nat h'
      rw [h, h'] at fin
      simp only [Bool.and_self, if_true, e, e'] at fin
      obtain ⟨h1, h2⟩ := Sq.rowOf_spec hk
      obtain ⟨h3, h4⟩ := Sq.rowOf_spec hj
      refine m_same hM h1 h2 h3 h4 fun H' b hF hf hb => ?_
      have : b = decide (S.rowOf j = S.rowOf k) := by
        cases b with
        | true => rw [hb.1 rfl]; simp
        | false =>
          have : ¬ S.rowOf j = S.rowOf k := fun h => by have := hb.2 h; cases this
          simp [this]
      rw [this]
      exact fin H' hF hf
theorem q_rank {i : Int} (hM : FoM H f T S) (fin : ∀ H', FoM H' f T S → Fr T H H' → K (.tuple #[.int .i64 (S.rankQ i).1, .int .i64 (S.rankQ i).2]) H') : CallsH Try.prog 18 #[.pointer (some ⟨f, 0, none⟩), .int .i64 i] H K := by
  unfold Sq.rankQ at fin
  cases h : S.hasB i with
  | false => rw [h] at fin; exact m_rank_none hM (no_has h) (fin H hM (.refl _ _))
  | true =>
    obtain ⟨k, rfl, hk, e⟩ := has_nat h
    rw [h] at fin
    simp only [if_true, e] at fin
    obtain ⟨h1, h2⟩ := Sq.rowOf_spec hk
    obtain ⟨h3, h4, _⟩ := idx_split h2
    refine m_rank hM h1 h3 fun H' hF hf => ?_
    rw [h4]
    exact fin H' hF hf
theorem q_at {i n : Int} (hM : FoM H f T S) (fin : ∀ H', FoM H' f T S → Fr T H H' → K (.tuple #[.int .i64 (S.atQ i n).1, .int .i64 (S.atQ i n).2]) H') : CallsH Try.prog 19 #[.pointer (some ⟨f, 0, none⟩), .int .i64 i, .int .i64 n] H K := by
  unfold Sq.atQ at fin
  cases h : S.hasB i with
  | false => rw [h] at fin; exact m_at_none hM (no_has h) (fin H hM (.refl _ _))
  | true =>
    obtain ⟨k, rfl, hk, e⟩ := has_nat h
    rw [h] at fin
    simp only [if_true, e] at fin
    obtain ⟨h1, h2⟩ := Sq.rowOf_spec hk
    by_cases hn : 0 ≤ n
    · rw [if_pos hn] at fin
      obtain ⟨m, rfl⟩ := Int.eq_ofNat_of_zero_le hn
      rw [Int.toNat_natCast] at fin
      cases hj : (S.rowOf k)[m]? with
      | none =>
        rw [hj] at fin
        refine m_at_bad hM h1 h2 (.inr ?_) fin
        have := List.getElem?_eq_none_iff.1 hj
        omega
      | some j =>
        rw [hj] at fin
        exact m_at hM h1 h2 hj fin
    · rw [if_neg hn] at fin
      exact m_at_bad hM h1 h2 (.inl (by omega)) fin
theorem q_sum {i : Int} (hM : FoM H f T S) (fin : ∀ H', FoM H' f T S → Fr T H H' → K (.tuple #[(S.sumQ i).1.val, .int .i64 (S.sumQ i).2]) H') : CallsH Try.prog 20 #[.pointer (some ⟨f, 0, none⟩), .int .i64 i] H K := by
  unfold Sq.sumQ at fin
  cases h : S.hasB i with
  | false => rw [h] at fin; exact m_sum_none hM (no_has h) fin
  | true =>
    obtain ⟨k, rfl, hk, e⟩ := has_nat h
    rw [h] at fin
    simp only [if_true, e] at fin
    obtain ⟨h1, h2⟩ := Sq.rowOf_spec hk
    exact m_sum hM h1 h2 fin
theorem q_flagged {i n : Int} (hM : FoM H f T S) (hn1 : -9223372036854775808 ≤ n) (hn2 : n ≤ 9223372036854775807) (fin : ∀ H', FoM H' f T S → Fr T H H' → K (.tuple #[.int .i64 (S.flaggedQ i n).1, .int .i64 (S.flaggedQ i n).2]) H') : CallsH Try.prog 37 #[.pointer (some ⟨f, 0, none⟩), .int .i64 i, .int .i64 n] H K := by
  unfold Sq.flaggedQ at fin
  cases h : S.hasB i with
  | false => rw [h] at fin; exact m_flagged_none hM (no_has h) (fin H hM (.refl _ _))
  | true =>
    obtain ⟨k, rfl, hk, e⟩ := has_nat h
    rw [h] at fin
    simp only [if_true, e] at fin
    obtain ⟨h1, h2⟩ := Sq.rowOf_spec hk
    by_cases hn : 0 ≤ n ∧ n < 256
    · rw [if_pos hn] at fin
      obtain ⟨fl, rfl⟩ := Int.eq_ofNat_of_zero_le hn.1
      rw [Int.toNat_natCast] at fin
      refine m_flagged hM h1 h2 (by omega) fun H' hF hf => ?_
      have := fin H' hF hf
      cases hj : firstF S.it fl (S.rowOf k) with
      | none => rw [hj] at this; exact this
      | some j => rw [hj] at this; exact this
    · rw [if_neg hn] at fin
      exact m_flagged_bad hM hk hn1 hn2 hn (fin H hM (.refl _ _))
theorem q_all {i : Int} (hM : FoM H f T S) (fin : ∀ H' B v, FoM H' f T S → IR H' B v ((S.allQ i).1.map Int.ofNat) → (∀ b, B = some b → H.size ≤ b) → Fr T H H' → K (.tuple #[v, .int .i64 (S.allQ i).2]) H') : CallsH Try.prog 35 #[.pointer (some ⟨f, 0, none⟩), .int .i64 i] H K := by
  unfold Sq.allQ at fin
  cases h : S.hasB i with
  | false => rw [h] at fin; exact m_all_none hM (no_has h) (fin H none _ hM (IR.nil H) (fun b h => by cases h) (.refl _ _))
  | true =>
    obtain ⟨k, rfl, hk, e⟩ := has_nat h
    rw [h] at fin
    simp only [if_true, e] at fin
    obtain ⟨h1, h2⟩ := Sq.rowOf_spec hk
    exact m_all hM h1 h2 fin
theorem q_make {x : Sp.Item} (hM : FoM H f T S) (hx : Fits x) (fin : ∀ H' T', FoM H' f T' (Sq.makeQ S x).2 → Fr T H H' → (∀ b, T' b → T b ∨ H.size ≤ b) → K (.tuple #[.int .i64 (Sq.makeQ S x).1.1, .int .i64 (Sq.makeQ S x).1.2]) H') :
    CallsH Try.prog 21 #[.pointer (some ⟨f, 0, none⟩), x.val] H K := by
  unfold Sq.makeQ at fin
  cases hm : mayB x with
  | false =>
    rw [hm] at fin
    refine make_bad hM hx (fun h => by rw [mayB_iff.2 h] at hm; cases hm) fun H' hf => fin H' T (hM.grow hf) (hf.mono fun _ _ h => h.elim) fun b hb => .inl hb
  | true =>
    rw [hm] at fin
    simp only [Bool.true_eq_false, if_false] at fin
    by_cases hr : S.rows.flatten.length = S.room
    · rw [if_pos hr] at fin
      exact make_full hM hx (mayB_iff.1 hm) hr fun H' hf => fin H' T (hM.grow hf) (hf.mono fun _ _ h => h.elim) fun b hb => .inl hb
    · rw [if_neg hr] at fin
      have := hM.room.1
      exact make_ok hM hx (mayB_iff.1 hm) (by omega) fun H' T' hF hf hT _ => fin H' T' hF hf hT
theorem q_free {i : Int} (hM : FoM H f T S) (fin : ∀ H', FoM H' f T (Sq.freeQ S i).2 → Fr T H H' → K (.int .i64 (Sq.freeQ S i).1) H') : CallsH Try.prog 22 #[.pointer (some ⟨f, 0, none⟩), .int .i64 i] H K := by
  unfold Sq.freeQ at fin
  cases h : S.hasB i with
  | false => rw [h] at fin; exact free_none hM (no_has h) (fin H hM (.refl _ _))
  | true =>
    obtain ⟨k, rfl, hk, e⟩ := has_nat h
    rw [h] at fin
    simp only [if_true, e] at fin
    obtain ⟨h1, h2⟩ := Sq.rowOf_spec hk
    by_cases hr : S.rowOf k = [k]
    · rw [if_pos hr] at fin
      rw [hr] at h1
      exact free_ok hM (List.perm_cons_erase h1) fin
    · rw [if_neg hr] at fin
      refine free_busy hM h1 h2 ?_ fin
      rcases Nat.lt_or_ge 1 (S.rowOf k).length with h | h
      · exact h
      · have : (S.rowOf k).length = 1 := by have := List.length_pos_of_mem h2; omega
        obtain ⟨y, hy⟩ := List.length_eq_one_iff.1 this
        rw [hy] at h2 hr
        simp at h2
        exact absurd (by rw [h2]) hr
theorem q_set {i : Int} {x : Sp.Item} (hM : FoM H f T S) (hx : Fits x) (fin : ∀ H', FoM H' f T (Sq.setQ S i x).2 → Fr T H H' → K (.int .i64 (Sq.setQ S i x).1) H') : CallsH Try.prog 15 #[.pointer (some ⟨f, 0, none⟩), .int .i64 i, x.val] H K := by
  unfold Sq.setQ at fin
  cases h : S.hasB i with
  | false => rw [h] at fin; exact m_set_none hM (no_has h) fin
  | true =>
    obtain ⟨k, rfl, hk, e⟩ := has_nat h
    rw [h] at fin
    simp only [if_true, e] at fin
    cases hm : mayB x with
    | false =>
      rw [hm] at fin
      exact m_set_bad hM hk hx (fun h => by rw [mayB_iff.2 h] at hm; cases hm) fin
    | true =>
      rw [hm] at fin
      exact m_set hM hk hx (mayB_iff.1 hm) fin
theorem q_join {a b : Int} (hM : FoM H f T S) (fin : ∀ H', FoM H' f T (Sq.joinQ S a b).2 → Fr T H H' → K (.int .i64 (Sq.joinQ S a b).1) H') : CallsH Try.prog 24 #[.pointer (some ⟨f, 0, none⟩), .int .i64 a, .int .i64 b] H K := by
  unfold Sq.joinQ at fin
  cases h : S.hasB a with
  | false => rw [h] at fin; exact m_join_none hM (.inl (no_has h)) (fin H hM (.refl _ _))
  | true =>
    cases h' : S.hasB b with
    | false => rw [h, h'] at fin; exact m_join_none hM (.inr (no_has h')) (fin H hM (.refl _ _))
    | true =>
      obtain ⟨k, rfl, hk, e⟩ := has_nat h
      obtain ⟨j, rfl, hj, e'⟩ := has_nat h'
      rw [h, h'] at fin
      simp only [Bool.and_self, if_true, e, e'] at fin
      obtain ⟨h1, h2⟩ := Sq.rowOf_spec hk
      obtain ⟨h3, h4⟩ := Sq.rowOf_spec hj
      by_cases hr : S.rowOf k = S.rowOf j
      · rw [if_pos hr] at fin
        exact m_join_same hM h1 h2 (by rw [hr]; exact h4) fin
      · rw [if_neg hr] at fin
        refine m_join hM ?_ h2 h4 fin
        refine (List.perm_cons_erase h1).trans (List.Perm.cons _ (List.perm_cons_erase ?_))
        exact (List.mem_erase_of_ne (fun h => hr h.symm)).2 h3
theorem q_split {i : Int} (hM : FoM H f T S) (fin : ∀ H', FoM H' f T (Sq.splitQ S i).2 → Fr T H H' → K (.int .i64 (Sq.splitQ S i).1) H') : CallsH Try.prog 23 #[.pointer (some ⟨f, 0, none⟩), .int .i64 i] H K := by
  unfold Sq.splitQ at fin
  cases h : S.hasB i with
  | false => rw [h] at fin; exact m_split_none hM (no_has h) (fin H hM (.refl _ _))
  | true =>
    obtain ⟨k, rfl, hk, e⟩ := has_nat h
    rw [h] at fin
    simp only [if_true, e] at fin
    obtain ⟨h1, h2⟩ := Sq.rowOf_spec hk
    obtain ⟨h3, h4, h5⟩ := idx_split h2
    by_cases h0 : (S.rowOf k).idxOf k = 0
    · rw [if_pos h0] at fin
      refine m_split_first (r := (S.rowOf k).drop 1) hM ?_ fin
      rw [h0] at h5
      rw [List.drop_zero] at h5
      rw [← h5]
      exact h1
    · rw [if_neg h0, h5] at fin
      refine m_split hM ((List.perm_cons_erase h1).trans (by rw [← h3])) (fun hh => ?_) fin
      rw [hh] at h4
      exact h0 h4.symm
end
end Go.Proofs.Ytndkbhlfbeiniaa
