/-
  What a law's walk is told of slices that came in.
-/
import Derived.Test.YtdhepjcdlkahnaaDoorHpN
import Derived.WalkKit
import Derived.ProofKit
import Derived.OpenShut
import Derived.ShutString
import Derived.ChangeOld
import Derived.Below
import Derived.Deep.Fields
namespace Go.Hp
open Go Go.ChangeShapes Go.WideShapes Go.RowKit
set_option linter.unusedVariables false
section
variable {E : Type} {enc : TypeId × Value → E} {P : Program} {w : World} {base : Nat} {spare : Nat → Bool} {held : Bool}
theorem cells_in {t e : TypeId} {a : Option Addr} {len cap : Nat} {d : DataW E} {p : List MemPlace} (ht : P.underlying t = some (.slice e)) (h : DataW.Trod enc P w base spare held t (.slice a len cap) d p) :
    len ≤ 9223372036854775807 ∧ ∀ i, i < len → ∃ (q : Addr) (cs : List Value) (m : Nat) (y : DataW E × List MemPlace), a = some q ∧ w.cells? base (q.add (i * P.cellsOf e)) (P.cellsOf e) = some cs ∧ DataW.trod enc P w base spare held m e cs = some y := by
  obtain ⟨fuel, hf⟩ := h
  rcases DataW.trod_slice ht hf with ⟨h0, _⟩ | ⟨a', len', cap', elems, rest, n, _, h0, _, hb, hl, hm, hlen, hel, hsp, hns⟩
  · simp [Value.cells] at h0
    obtain ⟨rfl, rfl, rfl⟩ := h0
    exact ⟨by omega, fun i hi => absurd hi (by omega)⟩
  · simp [Value.cells] at h0
    obtain ⟨rfl, rfl, rfl⟩ := h0
    refine ⟨by unfold maxLen at hm; omega, fun i hi => ?_⟩
    have h1 := hel i hi
    rw [List.getElem?_eq_getElem (by omega)] at h1
    obtain ⟨cs, hcs, hy⟩ := Option.bind_eq_some_iff.1 h1
    exact ⟨a', cs, n, _, rfl, hcs, hy⟩
theorem fit_of_wf {n : Int} (h : (Lit.int .i64 n).wf = true) : -9223372036854775808 ≤ n ∧ n ≤ 9223372036854775807 := by
  have hb := bounds_i64 h
  omega
theorem ints_in {t e : TypeId} {a : Option Addr} {len cap : Nat} {d : DataW E} {p : List MemPlace} (ht : P.underlying t = some (.slice e)) (he : P.underlying e = some (.int .i64)) (hc : P.cellsOf e = 1) (h : DataW.Trod enc P w base spare held t (.slice a len cap) d p) :
    len ≤ 9223372036854775807 ∧ ∃ zs, InInts w.heap a len zs := by
  obtain ⟨hl, hi⟩ := cells_in ht h
  refine ⟨hl, ?_⟩
  have each : ∀ i, i < len → ∃ (q : Addr) (n : Int), a = some q ∧ w.cell? (q.add i) = some (.int .i64 n) ∧ (Lit.int .i64 n).wf = true := fun i hlt => by
    obtain ⟨q, cs, m, y, h1, h2, h3⟩ := hi i hlt
    obtain ⟨n, rfl, _, hw⟩ := DataW.trod_int he h3
    rw [hc, Nat.mul_one] at h2
    obtain ⟨_, _, h4⟩ := World.cells?_some h2
    refine ⟨q, n, h1, ?_, hw⟩
    have := h4 0 (by omega)
    simpa [Addr.add] using this
  refine ⟨fun i => if h : i < len then (each i h).choose_spec.choose else 0, fun i hlt => ?_⟩
  have e := (each i hlt).choose_spec.choose_spec
  refine ⟨_, e.1, ?_, ?_⟩
  · simp only [hlt, dif_pos]
    exact e.2.1
  · simp only [hlt, dif_pos]
    exact fit_of_wf e.2.2
/-- A field of one cell of an element that came in. -/
theorem field_in {e : TypeId} {fs : Array Field} {q : Addr} {n : Nat} {cs : List Value} {m : Nat} {y : DataW E × List MemPlace} (he : P.underlying e = some (.struct fs)) (h2 : w.cells? base q n = some cs) (h3 : DataW.trod enc P w base spare held m e cs = some y)
    (i : Nat) {f : Field} (hf : fs[i]? = some f) (hc : P.cellsOf f.type = 1) (ho : f.offset < n) :
    ∃ (v : Value) (z : DataW E × List MemPlace) (m' : Nat), w.cell? (q.add f.offset) = some v ∧ DataW.trod enc P w base spare held m' f.type [v] = some z := by
  obtain ⟨xs, n', _, _, hlen, hxl, hfs⟩ := DataW.trod_struct he h3
  obtain ⟨_, hcl, hcell⟩ := World.cells?_some h2
  have h4 := hfs i f hf
  have hlt : i < fs.size := (Array.getElem?_eq_some_iff.1 hf).1
  rw [hc, List.getElem?_eq_getElem (by omega)] at h4
  have hd : (cs.drop f.offset).take 1 = [cs[f.offset]'(by omega)] := by
    rw [List.drop_eq_getElem_cons (by omega)]; rfl
  rw [hd] at h4
  refine ⟨_, _, n', ?_, h4⟩
  rw [hcell f.offset ho, List.getElem?_eq_getElem (by omega)]
end
theorem add_zero_addr (q : Addr) : q.add 0 = q := rfl
theorem add_succ_addr (q : Addr) (n : Nat) : q.add (n + 1) = ⟨q.block, q.off + (n + 1), none⟩ := by
  unfold Addr.add; rw [if_neg (by omega)]
end Go.Hp
