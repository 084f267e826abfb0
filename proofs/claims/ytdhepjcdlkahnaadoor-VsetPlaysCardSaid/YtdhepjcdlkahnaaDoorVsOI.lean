/-
  A script of VsetPlays that came in.
-/
import Derived.Test.YtdhepjcdlkahnaaDoorLawIn
import Derived.Test.YtdhepjcdlkahnaaDoorVsPl
import Derived.SizedLaws
namespace Go.Proofs.YtdhepjcdlkahnaaDoor
open Go Go.Hp Go.Vs Go.ChangeShapes Go.WideShapes Go.RowKit
set_option linter.unusedVariables false
set_option maxRecDepth 100000
section
variable {E : Type} {enc : TypeId × Value → E} {P : Program} {w : World} {base : Nat} {spare : Nat → Bool} {held : Bool}
theorem part_in {e : TypeId} {fs : Array Field} {cs : List Value} {m : Nat} {y : DataW E × List MemPlace} (he : P.underlying e = some (.struct fs)) (h3 : DataW.trod enc P w base spare held m e cs = some y) :
    ∃ xs : List (DataW E × List MemPlace), y.1 = .agg (xs.map (·.1)) ∧ ∀ (i : Nat) (f : Field), fs[i]? = some f → ∃ (z : DataW E × List MemPlace) (m' : Nat), xs[i]? = some z ∧ DataW.trod enc P w base spare held m' f.type ((cs.drop f.offset).take (P.cellsOf f.type)) = some z := by
  obtain ⟨xs, n', e1, e2, hlen, hxl, hfs⟩ := DataW.trod_struct he h3
  refine ⟨xs, by rw [e2], fun i f hf => ?_⟩
  have hlt : i < fs.size := (Array.getElem?_eq_some_iff.1 hf).1
  have hx : xs[i]? = some (xs[i]'(by omega)) := List.getElem?_eq_getElem (by omega)
  exact ⟨_, n', hx, (hfs i f hf).trans hx⟩
theorem one_at {cs : List Value} {o : Nat} {v : Value} (h : (cs.drop o).take 1 = [v]) : cs[o]? = some v := by
  have := congrArg (fun l => l[0]?) h
  simp only [List.getElem?_cons_zero] at this
  rw [List.getElem?_take_of_lt (by omega), List.getElem?_drop] at this
  exact this
theorem weights_all {e : TypeId} : ∀ {l : List (DataW E)} {d : DataW E} {n : Nat}, d ∈ l → n ∈ d.weights P e → n ∈ DataW.weightsAll P e l
  | [], d, n, h, _ => by cases h
  | a :: l, d, n, h, hn => by
    unfold DataW.weightsAll
    rcases List.mem_cons.1 h with rfl | h
    · exact List.mem_append_left _ hn
    · exact List.mem_append_right _ (weights_all h hn)
theorem vops_in {a : Option Addr} {len cap : Nat} {d : DataW E} {p : List MemPlace} (hw : ∀ n ∈ d.weights Tryd.prog 37, n ≤ reachBytes) (h : DataW.Trod enc Tryd.prog w base spare held 37 (.slice a len cap) d p) :
    len ≤ 9223372036854775807 ∧ ∃ zs, InVOps w.heap a len zs := by
  have hc : Tryd.prog.cellsOf 49 = 5 := by kernel_rfl
  have c1 : Tryd.prog.cellsOf 3 = 1 := by kernel_rfl
  have cs1 : Tryd.prog.cellsOf 22 = 1 := by kernel_rfl
  have hb8 : Tryd.prog.bytesOf 3 = 8 := by kernel_rfl
  have hsp := h
  obtain ⟨fuel, hf⟩ := h
  rcases DataW.trod_slice Tryd.underlying37 hf with ⟨h0, _⟩ | ⟨a', len', cap', elems, rest, n, _, h0, hx, hb, hl, hm, hlen, hel, hsp, hns⟩
  · simp [Value.cells] at h0
    obtain ⟨rfl, rfl, rfl⟩ := h0
    exact ⟨by omega, fun _ => (), fun i hi => absurd hi (by omega)⟩
  simp [Value.cells] at h0
  obtain ⟨rfl, rfl, rfl⟩ := h0
  simp only [Prod.mk.injEq] at hx
  refine ⟨by unfold maxLen at hm; omega, fun _ => (), fun i hlt => ?_⟩
  have h1 := hel i hlt
  rw [List.getElem?_eq_getElem (by omega)] at h1
  obtain ⟨cs, hcs, h3⟩ := Option.bind_eq_some_iff.1 h1
  rw [hc] at hcs
  have hmem : (elems[i]'(by omega)).1 ∈ elems.map (·.1) := List.mem_map.2 ⟨_, List.getElem_mem _, rfl⟩
  generalize elems[i]'(by omega) = y at h3 hmem h1
  obtain ⟨_, hcl, hcell'⟩ := World.cells?_some hcs
  obtain ⟨xs, ey, parts⟩ := part_in Tryd.underlying49 h3
  obtain ⟨z0, m0, x0, t0⟩ := parts 0 _ rfl
  obtain ⟨z1, m1, x1, t1⟩ := parts 1 _ rfl
  obtain ⟨z2, m2, x2, t2⟩ := parts 2 _ rfl
  obtain ⟨z3, m3, x3, t3⟩ := parts 3 _ rfl
  obtain ⟨z4', m4, x4, t4⟩ := parts 4 _ rfl
  obtain ⟨k0, e0, _, w0⟩ := DataW.trod_int Tryd.underlying3 t0
  obtain ⟨k1, e1, _, w1⟩ := DataW.trod_int Tryd.underlying3 t1
  obtain ⟨k2, e2, _, w2⟩ := DataW.trod_int Tryd.underlying3 t2
  obtain ⟨k3, e3, _, w3⟩ := DataW.trod_int Tryd.underlying3 t3
  have e0 : (cs.drop 0).take (Tryd.prog.cellsOf 3) = [.int .i64 k0] := e0
  have e1 : (cs.drop 1).take (Tryd.prog.cellsOf 3) = [.int .i64 k1] := e1
  have e2 : (cs.drop 2).take (Tryd.prog.cellsOf 3) = [.int .i64 k2] := e2
  have e3 : (cs.drop 3).take (Tryd.prog.cellsOf 3) = [.int .i64 k3] := e3
  rw [c1] at e0 e1 e2 e3
  have t4' : DataW.trod enc Tryd.prog w base spare held m4 22 ((cs.drop 4).take (Tryd.prog.cellsOf 22)) = some z4' := t4
  rw [cs1] at t4'
  have hz4 : z4'.1 ∈ xs.map (·.1) := List.mem_map.2 ⟨_, List.mem_of_getElem? x4, rfl⟩
  -- its list
  have wl : ∀ m ∈ z4'.1.weights Tryd.prog 22, m ≤ reachBytes := fun m hm' => by
    refine hw m ?_
    rw [hx.1]
    unfold DataW.weights
    rw [Tryd.underlying37]
    refine List.mem_cons_of_mem _ (List.mem_append_left _ (weights_all hmem ?_))
    rw [ey]
    unfold DataW.weights
    rw [Tryd.underlying49]
    exact DataW.weights_mem_each (j := 4) (t := 22) (d := z4'.1) rfl (by rw [List.getElem?_map, x4]; rfl) m hm'
  have list : ∃ (la : Option Addr) (ln lc : Nat) (zs : Nat → Int), (cs.drop 4).take 1 = [.slice la ln lc] ∧ InInts w.heap la ln zs ∧ 2 * (ln + 1) * 8 ≤ 2 ^ 48 := by
    rcases DataW.trod_slice Tryd.underlying22 t4' with ⟨g0, _⟩ | ⟨la, ln, lc, el, rs, nn, _, g0, gx, gb, gl, gm, glen, gel, _, _⟩
    · exact ⟨none, 0, 0, fun _ => 0, g0, fun i hi => absurd hi (by omega), by decide⟩
    · have htr : DataW.Trod enc Tryd.prog w base spare held 22 (.slice (some la) ln lc) z4'.1 z4'.2 := ⟨m4, by rw [g0] at t4'; exact t4'⟩
      obtain ⟨_, zs, hzs⟩ := ints_in Tryd.underlying22 Tryd.underlying3 c1 htr
      have hwl := wl ((el.map (·.1)).length * 8 + (rs.map (·.1)).length * 8) (by
        rw [gx]
        unfold DataW.weights
        rw [Tryd.underlying22]
        simp only []
        rw [hb8, Nat.add_mul]
        exact List.mem_cons_self)
      rw [List.length_map, glen] at hwl
      have hr := reachBytes_lt
      rw [show (2 : Nat) ^ 47 = 140737488355328 by decide] at hr
      generalize reachBytes = RB at hr hwl
      refine ⟨some la, ln, lc, zs, g0, hzs, ?_⟩
      rw [show (2 : Nat) ^ 48 = 281474976710656 by decide]
      omega
  obtain ⟨la, ln, lc, zs, e4, hin, hsz⟩ := list
  have r0 := one_at e0
  have r1 := one_at e1
  have r2 := one_at e2
  have r3 := one_at e3
  have r4 := one_at e4
  have g : ∀ j v, j < 5 → cs[j]? = some v → hcell w.heap ((a'.add (i * 5)).add j) = some v := fun j v hj hv => by
    have := hcell' j hj
    rw [hv] at this
    exact this
  have hspot : a'.spot = none := by
    have h2 := hel 0 (by omega)
    rw [List.getElem?_eq_getElem (by omega)] at h2
    obtain ⟨cs', hcs', _⟩ := Option.bind_eq_some_iff.1 h2
    rw [hc] at hcs'
    obtain ⟨_, hcl', hcell2⟩ := World.cells?_some hcs'
    have := hcell2 0 (by omega)
    rw [List.getElem?_eq_getElem (by omega)] at this
    have : hcell w.heap ((a'.add (0 * 5)).add 0) = some _ := this
    unfold hcell Addr.add at this
    simp only [Nat.zero_mul, if_true] at this
    obtain ⟨qb, qo, qs⟩ := a'
    cases qs with
    | none => rfl
    | some x =>
      exfalso
      split at this
      · simp at this
      · cases this
  obtain ⟨qb, qo, qs⟩ := a'
  simp only at hspot
  subst hspot
  have ad : ∀ j, (((⟨qb, qo, none⟩ : Addr).add (i * 5)).add j) = ⟨qb, qo + i * 5 + j, none⟩ := fun j => by rw [add_mk, add_mk]
  simp only [ad] at g
  exact ⟨qb, qo, k0, k1, k2, k3, la, ln, lc, zs, rfl, ⟨by have := g 0 _ (by omega) r0; exact this, by have := g 1 _ (by omega) r1; exact this, by have := g 2 _ (by omega) r2; exact this, by have := g 3 _ (by omega) r3; exact this, by have := g 4 _ (by omega) r4; exact this, trivial⟩, fit_of_wf w1, fit_of_wf w2, fit_of_wf w3, hin, hsz⟩
end
end Go.Proofs.YtdhepjcdlkahnaaDoor
