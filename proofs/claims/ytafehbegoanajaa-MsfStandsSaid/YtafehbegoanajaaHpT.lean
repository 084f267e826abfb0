/-
  Cells behind pushes and stores, as rules.
-/
import Derived.Test.YtafehbegoanajaaHpS
import Derived.Test.YtafehbegoanajaaHpR
import Derived.Test.YtafehbegoanajaaHpK
namespace Go.Hp
open Go
set_option linter.unusedVariables false

theorem hcell_top {H : Heap} {b i : Nat} {cs : Array Value} {T : TypeId} (h : b = H.size) : hcell (H.push (.cells cs T)) ⟨b, i, none⟩ = cs[i]? := by
  subst h
  have := hcell_new (H := H) (l := cs.toList) (T := T) (i := i)
  simpa using this
theorem hfrozen_push {H : Heap} {a : Addr} {o : Obj} (h : a.block < H.size) : hfrozen (H.push o) a = hfrozen H a := by
  unfold hfrozen; rw [Array.getElem?_push, if_neg (by omega)]
theorem okW_push {H : Heap} {a : Addr} {o : Obj} (h : a.block < H.size) : okW (H.push o) a = okW H a := by
  unfold okW; rw [hfrozen_push h, hcell_push h]
theorem okW_top {H : Heap} {b i : Nat} {cs : Array Value} {T : TypeId} (h : b = H.size) (hi : i < cs.size) : okW (H.push (.cells cs T)) ⟨b, i, none⟩ = True := by
  subst h
  have := (Blk.new H cs.toList T).okW (i := i) (by simpa using hi)
  have e : cs.toList.toArray = cs := by simp
  rw [e] at this
  exact eq_true this
theorem ne_add_one {n : Nat} : (n = n + 1) = False := by simp
theorem add_one_ne {n : Nat} : (n + 1 = n) = False := by simp
theorem lt_add_k {n k : Nat} : (n < n + (k + 1)) = True := by simp
theorem add_k_ne {n k : Nat} : (n + (k + 1) = n) = False := by simp
theorem ne_add_k {n k : Nat} : (n = n + (k + 1)) = False := by simp
theorem add_same {n i j : Nat} : (n + i = n + j) = (i = j) := by simp
theorem add_lt_same {n i j : Nat} : (n + i < n + j) = (i < j) := by simp
/-- These cells hold these values. -/
def Cells : List (Nat × Nat × Value) → Heap → Prop
  | [], _ => True
  | (b, o, v) :: l, H => hcell H ⟨b, o, none⟩ = some v ∧ Cells l H
theorem Cells.frame {S : Nat → Prop} {H H' : Heap} (hf : Fr S H H') : ∀ {l : List (Nat × Nat × Value)}, Cells l H → (∀ x ∈ l, ¬ S x.1) → Cells l H'
  | [], _, _ => trivial
  | (b, o, v) :: l, ⟨h1, h2⟩, hn => ⟨by rw [hf.cell (hcell_lt h1) (hn _ (.head _))]; exact h1, Cells.frame hf h2 fun x hx => hn x (.tail _ hx)⟩
theorem Cells.grow {H H' : Heap} {l : List (Nat × Nat × Value)} (h : Cells l H) (hf : Fr (fun _ => False) H H') : Cells l H' := h.frame hf fun _ _ h => h
end Go.Hp
