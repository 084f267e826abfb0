/-
  What a law's walk is told of slices of edges that came in.
-/
import Derived.Test.YtafehbegoanajaaG8
import Derived.Test.YtafehbegoanajaaG6
namespace Go.Proofs.Ytafehbegoanajaa
open Go Go.Hp Go.Li Go.Br Go.ChangeShapes Go.WideShapes Go.RowKit
set_option linter.unusedVariables false
section
variable {E : Type} {enc : TypeId × Value → E} {P : Program} {w : World} {base : Nat} {spare : Nat → Bool} {held : Bool}
theorem part_in {e : TypeId} {fs : Array Field} {cs : List Value} {m : Nat} {y : DataW E × List MemPlace} (he : P.underlying e = some (.struct fs)) (h3 : DataW.trod enc P w base spare held m e cs = some y) (i : Nat) {f : Field} (hf : fs[i]? = some f) :
  ∃ (z : DataW E × List MemPlace) (m' : Nat), DataW.trod enc P w base spare held m' f.type ((cs.drop f.offset).take (P.cellsOf f.type)) = some z := by
 obtain ⟨xs, n', _, _, hlen, hxl, hfs⟩ := DataW.trod_struct he h3
 have hlt : i < fs.size := (Array.getElem?_eq_some_iff.1 hf).1
 exact ⟨_, n', (hfs i f hf).trans (List.getElem?_eq_getElem (by omega))⟩
theorem one_at {cs : List Value} {o : Nat} {v : Value} (h : (cs.drop o).take 1 = [v]) : cs[o]? = some v := by
 have := congrArg (fun l => l[0]?) h
 simp only [List.getElem?_cons_zero] at this
 rw [List.getElem?_take_of_lt (by omega), List.getElem?_drop] at this
 exact this
theorem cap_in {t e : TypeId} {a : Option Addr} {len cap : Nat} {d : DataW E} {p : List MemPlace} (ht : P.underlying t = some (.slice e)) (h : DataW.Trod enc P w base spare held t (.slice a len cap) d p) : len ≤ cap ∧ (a = none → cap = 0) := by
 obtain ⟨fuel, hf⟩ := h
 rcases DataW.trod_slice ht hf with ⟨h0, _⟩ | ⟨a', len', cap', elems, rest, n, _, h0, _, hb, hl, hm, hlen, hel, hsp, hns⟩
 ·simp [Value.cells] at h0
  obtain ⟨rfl, rfl, rfl⟩ := h0
  exact ⟨Nat.le_refl _, fun _ => rfl⟩
 ·simp [Value.cells] at h0
  obtain ⟨rfl, rfl, rfl⟩ := h0
  exact ⟨hl, nofun⟩
theorem eds_in {t : TypeId} {a : Option Addr} {len cap : Nat} {d : DataW E} {p : List MemPlace} (ht : Try.prog.underlying t = some (.slice 30)) (h : DataW.Trod enc Try.prog w base spare held t (.slice a len cap) d p) :
  len ≤ 9223372036854775807 ∧ ∃ zs, InEds w.heap a len cap zs := by
 obtain ⟨hl, hi⟩ := cells_in ht h
 obtain ⟨hcap, hnil⟩ := cap_in ht h
 have hc : Try.prog.cellsOf 30 = 4 := by kernel_rfl
 have c1 : Try.prog.cellsOf 3 = 1 := by kernel_rfl
 rw [hc] at hi
 have each : ∀ i, i < len → ∃ (q : Addr) (o : Ed), a = some q ∧ (∀ j v, o.cells[j]? = some v → hcell w.heap (q.add (i * 4 + j)) = some v) ∧ FitE o := fun i hlt => by
  obtain ⟨q, cs, m, y, h1, h2, h3⟩ := hi i hlt
  obtain ⟨_, hcl, hcell'⟩ := World.cells?_some h2
  obtain ⟨z0, m0, t0⟩ := part_in Try.underlying30 h3 0 rfl
  obtain ⟨z1, m1, t1⟩ := part_in Try.underlying30 h3 1 rfl
  obtain ⟨z2, m2, t2⟩ := part_in Try.underlying30 h3 2 rfl
  obtain ⟨z3, m3, t3⟩ := part_in Try.underlying30 h3 3 rfl
  obtain ⟨k0, e0, _, w0⟩ := DataW.trod_int Try.underlying3 t0
  obtain ⟨k1, e1, _, w1⟩ := DataW.trod_int Try.underlying3 t1
  obtain ⟨k2, e2, _, w2⟩ := DataW.trod_int Try.underlying3 t2
  obtain ⟨k3, e3, _, w3⟩ := DataW.trod_int Try.underlying3 t3
  have e0 : (cs.drop 0).take (Try.prog.cellsOf 3) = [.int .i64 k0] := e0
  have e1 : (cs.drop 1).take (Try.prog.cellsOf 3) = [.int .i64 k1] := e1
  have e2 : (cs.drop 2).take (Try.prog.cellsOf 3) = [.int .i64 k2] := e2
  have e3 : (cs.drop 3).take (Try.prog.cellsOf 3) = [.int .i64 k3] := e3
  rw [c1] at e0 e1 e2 e3
  have r0 := one_at e0
  have r1 := one_at e1
  have r2 := one_at e2
  have r3 := one_at e3
  refine ⟨q, ⟨k0, k1, k2, k3⟩, h1, fun j v hj => ?_, ⟨fit_of_wf w0, fit_of_wf w1⟩, fit_of_wf w2, fit_of_wf w3⟩
  have g : ∀ j v, j < 4 → cs[j]? = some v → hcell w.heap (q.add (i * 4 + j)) = some v := fun j v hj hv => by
   have := hcell' j hj
   rw [hv, add_add] at this
   exact this
  unfold Ed.cells at hj
  match j with
  | 0 => obtain rfl := Option.some.inj hj; exact g 0 _ (by omega) r0
  | 1 => obtain rfl := Option.some.inj hj; exact g 1 _ (by omega) r1
  | 2 => obtain rfl := Option.some.inj hj; exact g 2 _ (by omega) r2
  | 3 => obtain rfl := Option.some.inj hj; exact g 3 _ (by omega) r3
  | j + 4 => simp at hj
 refine ⟨hl, fun i => if h : i < len then (each i h).choose_spec.choose else ⟨0, 0, 0, 0⟩, ⟨by simpa using hcap, hnil, fun i x hx => ?_⟩, fun i hlt => ?_⟩
 ·have hlt := (List.getElem?_eq_some_iff.1 hx).1
  rw [List.length_map, List.length_range] at hlt
  rw [List.getElem?_map, List.getElem?_range hlt] at hx
  simp only [Option.map_some, hlt, dif_pos, Option.some.injEq] at hx
  subst hx
  exact ⟨_, (each i hlt).choose_spec.choose_spec.1, (each i hlt).choose_spec.choose_spec.2.1⟩
 ·simp only [hlt, dif_pos]
  exact (each i hlt).choose_spec.choose_spec.2.2
end
end Go.Proofs.Ytafehbegoanajaa
