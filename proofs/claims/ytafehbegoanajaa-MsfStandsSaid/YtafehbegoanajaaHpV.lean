/-
  Slices that are read: rows of ints within a block; picking.
-/
import Derived.Test.YtafehbegoanajaaHpT
namespace Go.Hp
open Go
set_option linter.unusedVariables false

def pickN (c n : Int) : Int := (if c < 0 then -(c + 1) else c) % n
theorem pickN_range (c : Int) {n : Int} (hn : 0 < n) : 0 ≤ pickN c n ∧ pickN c n < n := by
  unfold pickN
  exact ⟨Int.emod_nonneg _ (by omega), Int.emod_lt_of_pos _ hn⟩
/-- The slice v reads as xs; what it reads lies in the block B. -/
def Rds (H : Heap) (B : Option Nat) (v : Value) (xs : List Int) : Prop :=
  ∃ a c, v = .slice a xs.length c ∧ ∀ i x, xs[i]? = some x → ∃ b o, B = some b ∧ a = some ⟨b, o, none⟩ ∧ hcell H ⟨b, o + i, none⟩ = some (.int .i64 x)
theorem IR.rds {H : Heap} {B : Option Nat} {v : Value} {xs : List Int} (h : IR H B v xs) : Rds H B v xs := by
  obtain ⟨a, c, hv⟩ := h.slice
  refine ⟨a, c, hv, fun i x hi => ?_⟩
  obtain ⟨g, c', h1, h2, h3⟩ := h.read hi
  rw [hv] at h2
  simp only [Value.slice.injEq] at h2
  exact ⟨g, 0, h1, h2.1, by rw [Nat.zero_add]; exact h3⟩
theorem Rds.frame {S : Nat → Prop} {H H' : Heap} {B : Option Nat} {v : Value} {xs : List Int} (h : Rds H B v xs) (hf : Fr S H H') (hb : ∀ g, B = some g → ¬ S g) : Rds H' B v xs := by
  obtain ⟨a, c, hv, hr⟩ := h
  refine ⟨a, c, hv, fun i x hi => ?_⟩
  obtain ⟨b, o, h1, h2, h3⟩ := hr i x hi
  exact ⟨b, o, h1, h2, by rw [hf.cell (hcell_lt h3) (hb b h1)]; exact h3⟩
theorem Rds.read {H : Heap} {B : Option Nat} {v : Value} {xs : List Int} (h : Rds H B v xs) {i : Nat} {x : Int} (hi : xs[i]? = some x) :
    ∃ b o c, B = some b ∧ v = .slice (some ⟨b, o, none⟩) xs.length c ∧ hcell H ⟨b, o + i, none⟩ = some (.int .i64 x) := by
  obtain ⟨a, c, hv, hr⟩ := h
  obtain ⟨b, o, h1, h2, h3⟩ := hr i x hi
  exact ⟨b, o, c, h1, by rw [hv, h2], h3⟩
theorem Rds.slice {H : Heap} {B : Option Nat} {v : Value} {xs : List Int} (h : Rds H B v xs) : ∃ a c, v = .slice a xs.length c := ⟨_, _, h.choose_spec.choose_spec.1⟩
theorem IR.rowAt {H : Heap} {B : Option Nat} {v : Value} {xs : List Int} (h : IR H B v xs) {i : Nat} (hi : i < xs.length) :
    ∃ g c, B = some g ∧ v = .slice (some ⟨g, 0, none⟩) xs.length c ∧ (∀ k x, xs[k]? = some x → hcell H ⟨g, k, none⟩ = some (.int .i64 x)) ∧ xs.length ≤ c := by
  obtain ⟨g, c, rest, h1, h2, h3, h4, h5⟩ := h.row (by intro e; rw [e] at hi; cases hi)
  refine ⟨g, c, h1, h2, fun k x hk => h3.cellOf ?_, h5⟩
  have hlt := (List.getElem?_eq_some_iff.1 hk).1
  rw [List.getElem?_append_left (by simpa using hlt), List.getElem?_map, hk]
  rfl
/-- What a part of a row reads as. -/
theorem IR.readL {H : Heap} {g n c : Nat} {xs : List Int} (h : IR H (some g) (.slice (some ⟨g, 0, none⟩) n c) xs) {o m : Nat} (hm : o + m ≤ xs.length) :
    readL H ⟨g, o, none⟩ 0 m = some (((xs.drop o).take m).map (Value.int .i64)) := by
  obtain ⟨hl, h | ⟨g', c', rest, h1, h2, h3, h4, h5⟩⟩ := h
  · cases h.1
  · obtain rfl := Option.some.inj h1
    rw [readL_blk h3 m o 0 (by simp; omega), Nat.add_zero, List.drop_append_of_le_length (by simp; omega), List.take_append_of_le_length (by simp; omega), List.map_take, List.map_drop]
/-- append(xs, part of a row..) -/
theorem append_irs {P : Program} {t e : TypeId} {te : TL} {s : Value} {H : Heap} {B : Option Nat} {b o m d : Nat} {xs ys : List Int} {K : Value → Heap → Prop}
    (he : elems P t = some (none, e, 1)) (ht : tl P e = some te) (h : IR H B s xs) (hy : readL H ⟨b, o, none⟩ 0 m = some (ys.map (Value.int .i64))) (hm : ys.length = m) (hb0 : 0 < te.bytes) (hb : 2 * (xs.length + m) * te.bytes ≤ 2 ^ 48) (hz : te.zero.cells.size = 1)
    (hk : ∀ v' H' B', IR H' B' v' (xs ++ ys) → Fr (fun b => B = some b) H H' → (B' = B ∨ ∃ g, B' = some g ∧ H.size ≤ g) → K v' H') : appendX P t s (.slice (some ⟨b, o, none⟩) m d) H K := by
  refine append_own he ht h (.inl ⟨_, _, rfl, by rw [Nat.mul_one]; exact hy⟩) (by intro v hv; obtain ⟨x, _, rfl⟩ := List.mem_map.1 hv; rfl) hb0 hb (by simp [hm]) hz ?_
  intro v' H' B' ho hf hB
  exact hk v' H' B' (by unfold IR; simpa [hm] using ho) hf hB
end Go.Hp
