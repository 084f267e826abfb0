/-
  What a law's walk is told of slices of calls that came in.
  A script that came in is no longer than memory holds.
-/
import Derived.Test.YtndkbhlfbeiniaaG8
import Derived.SizedLaws
namespace Go.Proofs.Ytndkbhlfbeiniaa
open Go Go.Hp Go.Sp Go.ChangeShapes Go.WideShapes Go.RowKit
set_option linter.unusedVariables false
section
variable {E : Type} {enc : TypeId × Value → E} {P : Program} {w : World} {base : Nat} {spare : Nat → Bool} {held : Bool}
theorem part_in {e : TypeId} {fs : Array Field} {cs : List Value} {m : Nat} {y : DataW E × List MemPlace} (he : P.underlying e = some (.struct fs)) (h3 : DataW.trod enc P w base spare held m e cs = some y) (i : Nat) {f : Field} (hf : fs[i]? = some f) :
  ∃ (z : DataW E × List MemPlace) (m' : Nat), DataW.trod enc P w base spare held m' f.type ((cs.drop f.offset).take (P.cellsOf f.type)) = some z := by
 obtain ⟨xs, n', _, _, hlen, hxl, hfs⟩ := DataW.trod_struct he h3
 have hlt : i < fs.size := (Array.getElem?_eq_some_iff.1 hf).1
 exact ⟨_, n', (hfs i f hf).trans (List.getElem?_eq_getElem (by omega))⟩
theorem one_at {cs : List Value} {o : Nat} {v : Value} (h : (cs.drop o).take 1 = [v]) : cs[o]? = some v := by
 have := congrArg (fun l => l[0]?) h
 simp only [List.getElem?_cons_zero] at this
 rw [List.getElem?_take_of_lt (by omega), List.getElem?_drop] at this
 exact this
theorem ops_in {t : TypeId} {a : Option Addr} {len cap : Nat} {d : DataW E} {p : List MemPlace} (ht : Try.prog.underlying t = some (.slice 68)) (h : DataW.Trod enc Try.prog w base spare held t (.slice a len cap) d p) :
  len ≤ 9223372036854775807 ∧ ∃ zs, InOps w.heap a len zs := by
 obtain ⟨hl, hi⟩ := cells_in ht h
 have hc : Try.prog.cellsOf 68 = 7 := by kernel_rfl
 have c1 : Try.prog.cellsOf 3 = 1 := by kernel_rfl
 have cb : Try.prog.cellsOf 4 = 1 := by kernel_rfl
 have c3 : Try.prog.cellsOf 31 = 3 := by kernel_rfl
 rw [hc] at hi
 have each : ∀ i, i < len → ∃ (q : Addr) (o : OpR), a = some q ∧ (hcell w.heap (q.add (i * 7)) = some (.int .i64 o.kind) ∧ hcell w.heap ⟨(q.add (i * 7)).block, (q.add (i * 7)).off + 1, none⟩ = some (.int .i64 o.a) ∧ hcell w.heap ⟨(q.add (i * 7)).block, (q.add (i * 7)).off + 2, none⟩ = some (.int .i64 o.b) ∧
   hcell w.heap ⟨(q.add (i * 7)).block, (q.add (i * 7)).off + 3, none⟩ = some (.int .i64 o.x.value) ∧ hcell w.heap ⟨(q.add (i * 7)).block, (q.add (i * 7)).off + 4, none⟩ = some (.bool o.x.counts) ∧ hcell w.heap ⟨(q.add (i * 7)).block, (q.add (i * 7)).off + 5, none⟩ = some (.int .i64 o.x.flags) ∧
   hcell w.heap ⟨(q.add (i * 7)).block, (q.add (i * 7)).off + 6, none⟩ = some (.bool o.other)) ∧ o.Fit := fun i hlt => by
  obtain ⟨q, cs, m, y, h1, h2, h3⟩ := hi i hlt
  obtain ⟨_, hcl, hcell'⟩ := World.cells?_some h2
  obtain ⟨z0, m0, t0⟩ := part_in Try.underlying68 h3 0 rfl
  obtain ⟨z1, m1, t1⟩ := part_in Try.underlying68 h3 1 rfl
  obtain ⟨z2, m2, t2⟩ := part_in Try.underlying68 h3 2 rfl
  obtain ⟨z3, m3, t3⟩ := part_in Try.underlying68 h3 3 rfl
  obtain ⟨z4, m4, t4⟩ := part_in Try.underlying68 h3 4 rfl
  obtain ⟨y0, n0, s0⟩ := part_in Try.underlying31 t3 0 rfl
  obtain ⟨y1, n1, s1⟩ := part_in Try.underlying31 t3 1 rfl
  obtain ⟨y2, n2, s2⟩ := part_in Try.underlying31 t3 2 rfl
  obtain ⟨k0, e0, _, w0⟩ := DataW.trod_int Try.underlying3 t0
  obtain ⟨k1, e1, _, w1⟩ := DataW.trod_int Try.underlying3 t1
  obtain ⟨k2, e2, _, w2⟩ := DataW.trod_int Try.underlying3 t2
  obtain ⟨b4, e4, _⟩ := DataW.trod_bool Try.underlying4 t4
  obtain ⟨x0, f0, _, v0⟩ := DataW.trod_int Try.underlying3 s0
  obtain ⟨x1, f1, _⟩ := DataW.trod_bool Try.underlying4 s1
  obtain ⟨x2, f2, _, v2⟩ := DataW.trod_int Try.underlying3 s2
  have e0 : (cs.drop 0).take (Try.prog.cellsOf 3) = [.int .i64 k0] := e0
  have e1 : (cs.drop 1).take (Try.prog.cellsOf 3) = [.int .i64 k1] := e1
  have e2 : (cs.drop 2).take (Try.prog.cellsOf 3) = [.int .i64 k2] := e2
  have e4 : (cs.drop 6).take (Try.prog.cellsOf 4) = [.bool b4] := e4
  have f0 : (((cs.drop 3).take (Try.prog.cellsOf 31)).drop 0).take (Try.prog.cellsOf 3) = [.int .i64 x0] := f0
  have f1 : (((cs.drop 3).take (Try.prog.cellsOf 31)).drop 1).take (Try.prog.cellsOf 4) = [.bool x1] := f1
  have f2 : (((cs.drop 3).take (Try.prog.cellsOf 31)).drop 2).take (Try.prog.cellsOf 3) = [.int .i64 x2] := f2
  rw [c1] at e0 e1 e2
  rw [cb] at e4
  rw [c3, c1] at f0 f2
  rw [c3, cb] at f1
  have r0 := one_at e0
  have r1 := one_at e1
  have r2 := one_at e2
  have r6 := one_at e4
  have r3 := one_at f0
  have r4 := one_at f1
  have r5 := one_at f2
  rw [List.getElem?_take_of_lt (by omega), List.getElem?_drop] at r3 r4 r5
  have g : ∀ j v, j < 7 → cs[j]? = some v → hcell w.heap (if j = 0 then q.add (i * 7) else ⟨(q.add (i * 7)).block, (q.add (i * 7)).off + j, none⟩) = some v := fun j v hj hv => by
   have := hcell' j hj
   rw [hv] at this
   cases j with
   | zero => exact this
   | succ j =>
    rw [if_neg (by omega)]
    rw [add_succ_addr] at this
    exact this
  exact ⟨q, ⟨k0, k1, k2, ⟨x0, x1, x2⟩, b4⟩, h1, ⟨g 0 _ (by omega) r0, g 1 _ (by omega) r1, g 2 _ (by omega) r2, g 3 _ (by omega) r3, g 4 _ (by omega) r4, g 5 _ (by omega) r5, g 6 _ (by omega) r6⟩, ⟨⟨fit_of_wf v0, fit_of_wf v2⟩, (fit_of_wf w2).1, (fit_of_wf w2).2⟩⟩
 refine ⟨hl, fun i => if h : i < len then (each i h).choose_spec.choose else ⟨0, 0, 0, Sp.Item.zero, false⟩, fun i hlt => ?_⟩
 have e := (each i hlt).choose_spec.choose_spec
 simp only [hlt, dif_pos]
 exact ⟨_, e.1, e.2.1, e.2.2⟩
end
section
variable {E : Type} {enc : TypeId × Value → E} {P : Program} {w : World} {base : Nat} {spare : Nat → Bool} {held : Bool}
theorem ops_size {a : Option Addr} {len cap : Nat} {d : DataW E} {p : List MemPlace} (hw : ∀ n ∈ d.weights Try.prog 57, n ≤ reachBytes) (h : DataW.Trod enc Try.prog w base spare held 57 (.slice a len cap) d p) : len ≤ 2999999999999 := by
 have hb8 : Try.prog.bytesOf 68 = 56 := by kernel_rfl
 obtain ⟨fuel, hf⟩ := h
 rcases DataW.trod_slice Try.underlying57 hf with ⟨g0, _⟩ | ⟨la, ln, lc, el, rs, nn, _, g0, gx, gb, gl, gm, glen, gel, _, _⟩
 ·simp [Value.cells] at g0
  obtain ⟨rfl, rfl, rfl⟩ := g0
  omega
 simp [Value.cells] at g0
 obtain ⟨rfl, rfl, rfl⟩ := g0
 simp only [Prod.mk.injEq] at gx
 have hwl := hw ((el.map (·.1)).length * 56 + (rs.map (·.1)).length * 56) (by
  rw [gx.1]
  unfold DataW.weights
  rw [Try.underlying57]
  simp only []
  rw [hb8, Nat.add_mul]
  exact List.mem_cons_self)
 rw [List.length_map, glen] at hwl
 have hr := reachBytes_lt
 rw [show (2 : Nat) ^ 47 = 140737488355328 by decide] at hr
 generalize reachBytes = RB at hr hwl
 omega
end
end Go.Proofs.Ytndkbhlfbeiniaa
