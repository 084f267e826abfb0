/-
  Trees of a splay forest, plain: what is kept at each node, and what turns do to it.
-/
import Derived.Test.YtndkbhlfbeiniaaSpN
import Derived.Test.YtndkbhlfbeiniaaHpE
namespace Go.Sp
open Go Go.Hp
set_option linter.unusedVariables false

/-- An item that may be. -/
structure May (x : Item) : Prop where
  lo : -1099511627776 ≤ x.value
  hi : x.value ≤ 1099511627776
  f0 : 0 ≤ x.flags
  f1 : x.flags < 256
def valsL (xs : List Item) : List Int := (xs.filter (·.counts)).map (·.value)
def minL : List Int → Int
  | [] => 0
  | [v] => v
  | v :: w :: vs => minI v (minL (w :: vs))
def maxL : List Int → Int
  | [] => 0
  | [v] => v
  | v :: w :: vs => maxI v (maxL (w :: vs))
def flagsL : List Item → Nat
  | [] => 0
  | x :: xs => x.flags.toNat ||| flagsL xs
def aggL (xs : List Item) : Agg := ⟨((valsL xs).length : Nat), (valsL xs).sum, minL (valsL xs), maxL (valsL xs), (flagsL xs : Nat)⟩
theorem minI_assoc (a b c : Int) : minI (minI a b) c = minI a (minI b c) := by unfold minI; split <;> split <;> (try split) <;> (try split) <;> omega
theorem maxI_assoc (a b c : Int) : maxI (maxI a b) c = maxI a (maxI b c) := by unfold maxI; split <;> split <;> (try split) <;> (try split) <;> omega
theorem minL_append : ∀ (xs ys : List Int), minL (xs ++ ys) = if xs = [] then minL ys else if ys = [] then minL xs else minI (minL xs) (minL ys)
  | [], ys => by simp
  | [v], [] => by simp
  | [v], w :: ys => by simp [minL]
  | v :: w :: xs, ys => by
    have ih := minL_append (w :: xs) ys
    simp only [List.cons_append, reduceCtorEq, if_false] at ih ⊢
    cases ys with
    | nil => simp
    | cons y ys =>
      simp only [reduceCtorEq, if_false] at ih ⊢
      simp only [minL]
      rw [ih, minI_assoc]
theorem maxL_append : ∀ (xs ys : List Int), maxL (xs ++ ys) = if xs = [] then maxL ys else if ys = [] then maxL xs else maxI (maxL xs) (maxL ys)
  | [], ys => by simp
  | [v], [] => by simp
  | [v], w :: ys => by simp [maxL]
  | v :: w :: xs, ys => by
    have ih := maxL_append (w :: xs) ys
    simp only [List.cons_append, reduceCtorEq, if_false] at ih ⊢
    cases ys with
    | nil => simp
    | cons y ys =>
      simp only [reduceCtorEq, if_false] at ih ⊢
      simp only [maxL]
      rw [ih, maxI_assoc]
theorem flagsL_append : ∀ (xs ys : List Item), flagsL (xs ++ ys) = flagsL xs ||| flagsL ys
  | [], ys => by simp [flagsL]
  | x :: xs, ys => by simp [flagsL, flagsL_append xs ys, Nat.or_assoc]
theorem flagsL_lt : ∀ {xs : List Item}, (∀ x ∈ xs, May x) → flagsL xs < 256
  | [], _ => by simp [flagsL]
  | x :: xs, h => by
    have h1 := h x (.head _)
    have h2 := flagsL_lt fun y hy => h y (.tail _ hy)
    unfold flagsL
    exact Nat.or_lt_two_pow (n := 8) (by have := h1.f0; have := h1.f1; omega) h2
theorem or64_nat {a b : Nat} (ha : a < 256) (hb : b < 256) : or64 (a : Int) (b : Int) = ((a ||| b : Nat) : Int) := by
  have h : a ||| b < 2 ^ 8 := Nat.or_lt_two_pow (n := 8) ha hb
  have e : (BitVec.ofInt IntKind.i64.bits (a : Int) ||| BitVec.ofInt IntKind.i64.bits (b : Int)).toNat = a ||| b := by
    have e1 : ∀ n : Nat, n < 256 → (BitVec.ofInt IntKind.i64.bits (n : Int)).toNat = n := fun n hn => by
      show (BitVec.ofInt 64 (n : Int)).toNat = n
      rw [BitVec.toNat_ofInt]
      omega
    rw [BitVec.toNat_or, e1 a ha, e1 b hb]
  unfold or64 bitOr
  rw [e, wrap_i64] <;> omega
theorem sum_bound : ∀ {xs : List Item}, (∀ x ∈ xs, May x) → -(1099511627776 * (xs.length : Int)) ≤ (valsL xs).sum ∧ (valsL xs).sum ≤ 1099511627776 * (xs.length : Int)
  | [], _ => by simp [valsL]
  | x :: xs, h => by
    have h1 := h x (.head _)
    have h2 := sum_bound fun y hy => h y (.tail _ hy)
    have := h1.lo
    have := h1.hi
    unfold valsL at h2 ⊢
    cases hc : x.counts <;> simp only [List.filter_cons, hc, if_true, if_false, Bool.false_eq_true, List.map_cons, List.sum_cons, List.length_cons] <;> omega
theorem valsL_append (xs ys : List Item) : valsL (xs ++ ys) = valsL xs ++ valsL ys := by simp [valsL]
theorem valsL_length (xs : List Item) : (valsL xs).length ≤ xs.length := by unfold valsL; rw [List.length_map]; exact List.length_filter_le _ _
theorem plusA_aggL {xs ys : List Item} (hx : ∀ x ∈ xs, May x) (hy : ∀ y ∈ ys, May y) (hl : xs.length + ys.length ≤ 1048576) : plusA (aggL xs) (aggL ys) = aggL (xs ++ ys) := by
  have lx := valsL_length xs
  have ly := valsL_length ys
  have sx := sum_bound hx
  have sy := sum_bound hy
  unfold plusA aggL
  simp only [valsL_append, minL_append, maxL_append, flagsL_append, List.length_append, List.sum_append, Agg.mk.injEq]
  have zx : (((valsL xs).length : Nat) : Int) = 0 ↔ valsL xs = [] := by rw [← List.length_eq_zero_iff]; omega
  have zy : (((valsL ys).length : Nat) : Int) = 0 ↔ valsL ys = [] := by rw [← List.length_eq_zero_iff]; omega
  refine ⟨?_, ?_, ?_, ?_, or64_nat (flagsL_lt hx) (flagsL_lt hy)⟩
  · unfold w64; rw [wrap_i64] <;> omega
  · unfold w64; rw [wrap_i64] <;> omega
  · simp only [zx, zy]
  · simp only [zx, zy]
theorem ownA_aggL {x : Item} (h : May x) : ownA x = aggL [x] := by
  have := h.f0
  unfold ownA aggL valsL flagsL flagsL
  cases hc : x.counts <;> simp [hc, minL, maxL] <;> omega
/-! ### trees -/
inductive Tr where
  | nil
  | node (l : Tr) (h : Nat) (r : Tr)
namespace Tr
def root : Tr → Nat
  | nil => 0
  | node _ h _ => h
def list : Tr → List Nat
  | nil => []
  | node l h r => l.list ++ h :: r.list
end Tr
def aggOf (it : Nat → Item) (l : List Nat) : Agg := aggL (l.map it)
/-- What node h keeps. -/
def recOf (it : Nat → Item) (up l h r : Nat) (xs : List Nat) : Rec := ⟨it h, up, l, r, (xs.length : Nat), aggOf it xs⟩
def TrAt (N : Nodes) (it : Nat → Item) : Nat → Tr → Prop
  | _, .nil => True
  | up, .node l h r => h ≠ 0 ∧ N h = recOf it up l.root h r.root (l.list ++ h :: r.list) ∧ TrAt N it h l ∧ TrAt N it h r
structure Fm where
  side : Bool
  h : Nat
  sib : Tr
def plug : Tr → List Fm → Tr
  | t, [] => t
  | t, ⟨false, h, s⟩ :: ps => plug (.node t h s) ps
  | t, ⟨true, h, s⟩ :: ps => plug (.node s h t) ps
def upOf : List Fm → Nat
  | [] => 0
  | f :: _ => f.h
def PathAt (N : Nodes) (it : Nat → Item) : Nat → List Nat → List Fm → Prop
  | _, _, [] => True
  | x, xs, ⟨false, h, s⟩ :: ps => h ≠ 0 ∧ N h = recOf it (upOf ps) x h s.root (xs ++ h :: s.list) ∧ TrAt N it h s ∧ PathAt N it h (xs ++ h :: s.list) ps
  | x, xs, ⟨true, h, s⟩ :: ps => h ≠ 0 ∧ N h = recOf it (upOf ps) s.root h x (s.list ++ h :: xs) ∧ TrAt N it h s ∧ PathAt N it h (s.list ++ h :: xs) ps
theorem trAt_plug {N : Nodes} {it : Nat → Item} : ∀ (ps : List Fm) (t : Tr), TrAt N it 0 (plug t ps) ↔ TrAt N it (upOf ps) t ∧ PathAt N it t.root t.list ps
  | [], t => by simp [plug, upOf, PathAt]
  | ⟨false, h, s⟩ :: ps, t => by
    have := trAt_plug (N := N) (it := it) ps (.node t h s)
    simp only [plug, upOf, PathAt] at this ⊢
    rw [this]
    simp only [TrAt, Tr.root, Tr.list]
    constructor
    · rintro ⟨⟨a, b, c, d⟩, e⟩; exact ⟨c, a, b, d, e⟩
    · rintro ⟨c, a, b, d, e⟩; exact ⟨⟨a, b, c, d⟩, e⟩
  | ⟨true, h, s⟩ :: ps, t => by
    have := trAt_plug (N := N) (it := it) ps (.node s h t)
    simp only [plug, upOf, PathAt] at this ⊢
    rw [this]
    simp only [TrAt, Tr.root, Tr.list]
    constructor
    · rintro ⟨⟨a, b, c, d⟩, e⟩; exact ⟨d, a, b, c, e⟩
    · rintro ⟨d, a, b, c, e⟩; exact ⟨⟨a, b, c, d⟩, e⟩
theorem TrAt.congr {N N' : Nodes} {it : Nat → Item} : ∀ {t : Tr} {up : Nat}, TrAt N it up t → (∀ h ∈ t.list, N' h = N h) → TrAt N' it up t
  | .nil, _, _, _ => trivial
  | .node l h r, up, ⟨a, b, c, d⟩, hN => by
    simp only [Tr.list, List.mem_append, List.mem_cons] at hN
    exact ⟨a, by rw [hN h (.inr (.inl rfl))]; exact b, c.congr fun k hk => hN k (.inl hk), d.congr fun k hk => hN k (.inr (.inr hk))⟩
/-- Its root hung elsewhere. -/
theorem TrAt.hung {N N' : Nodes} {it : Nat → Item} {t : Tr} {up up' : Nat} (h : TrAt N it up t) (hd : t.list.Nodup) (h1 : t.root ≠ 0 → N' t.root = { N t.root with up := up' }) (h2 : ∀ k ∈ t.list, k ≠ t.root → N' k = N k) : TrAt N' it up' t := by
  cases t with
  | nil => trivial
  | node l k r =>
    obtain ⟨a, b, c, d⟩ := h
    simp only [Tr.list, Tr.root, List.mem_append, List.mem_cons] at hd h1 h2
    rw [List.nodup_append] at hd
    obtain ⟨n1, n2, n3⟩ := hd
    rw [List.nodup_cons] at n2
    refine ⟨a, ?_, c.congr fun i hi => h2 i (.inl hi) (fun e => n3 i hi k (.head _) e), d.congr fun i hi => h2 i (.inr (.inr hi)) (fun e => n2.1 (e ▸ hi))⟩
    rw [h1 a, b]
    rfl
theorem TrAt.ne_zero {N : Nodes} {it : Nat → Item} : ∀ {t : Tr} {up : Nat}, TrAt N it up t → 0 ∉ t.list
  | .nil, _, _ => by simp [Tr.list]
  | .node l h r, up, ⟨a, b, c, d⟩ => by
    simp only [Tr.list, List.mem_append, List.mem_cons, not_or]
    exact ⟨c.ne_zero, Ne.symm a, d.ne_zero⟩
theorem Tr.root_mem {t : Tr} (h : t.root ≠ 0) : t.root ∈ t.list := by
  cases t with
  | nil => exact absurd rfl h
  | node l k r => simp [Tr.root, Tr.list]
end Go.Sp
