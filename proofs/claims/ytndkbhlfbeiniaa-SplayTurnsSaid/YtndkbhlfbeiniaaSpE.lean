/-
  Splay forests as sequences: splay.
-/
import Derived.Test.YtndkbhlfbeiniaaSpD
import Derived.Test.YtndkbhlfbeiniaaSpW
namespace Go.Sp
open Go Go.Hp
set_option linter.unusedVariables false

/-- A forest for whoever uses it: items by handle, the sequences. -/
structure Fo where
  it : Nat → Item
  rows : List (List Nat)
theorem find_path {k : Nat} : ∀ {t : Tr}, k ∈ t.list → ∃ (a b : Tr) (ps : List Fm), plug (.node a k b) ps = t
  | .nil, h => by simp [Tr.list] at h
  | .node l h r, hk => by
    have app : ∀ (ps qs : List Fm) (t : Tr), plug t (ps ++ qs) = plug (plug t ps) qs := by
      intro ps
      induction ps with
      | nil => intro qs t; rfl
      | cons f ps ih =>
        intro qs t
        obtain ⟨side, u, c⟩ := f
        cases side
        · exact ih qs _
        · exact ih qs _
    simp only [Tr.list, List.mem_append, List.mem_cons] at hk
    rcases hk with hk | rfl | hk
    · obtain ⟨a, b, ps, e⟩ := find_path hk
      exact ⟨a, b, ps ++ [⟨false, h, r⟩], by rw [app, e]; rfl⟩
    · exact ⟨l, r, [], rfl⟩
    · obtain ⟨a, b, ps, e⟩ := find_path hk
      exact ⟨a, b, ps ++ [⟨true, h, l⟩], by rw [app, e]; rfl⟩
end Go.Sp
namespace Go.Proofs.Ytndkbhlfbeiniaa
open Go Go.Hp Go.Sp
set_option linter.all false
set_option maxRecDepth 100000
set_option maxHeartbeats 1600000

structure FoAt (H : Heap) (f p g : Nat) (A : Ar) (nb : Nat → Nat) (N : Nodes) (S : Fo) : Prop where
  mem : FAt H f p g A nb N
  trees : ∀ xs ∈ S.rows, ∃ t, TrAt N S.it 0 t ∧ t.list = xs
  nodup : S.rows.flatten.Nodup
  use : ∀ h, h ∈ S.rows.flatten ↔ U A h
  may : ∀ h, U A h → May (S.it h)
section
variable {H H' : Heap} {f p g : Nat} {A : Ar} {nb : Nat → Nat} {N : Nodes} {S : Fo} {xs : List Nat} {k : Nat}
theorem FoAt.grow (h : FoAt H f p g A nb N S) (hf : Fr (fun _ => False) H H') : FoAt H' f p g A nb N S := ⟨h.mem.grow hf, h.trees, h.nodup, h.use, h.may⟩
theorem FoAt.len (h : FoAt H f p g A nb N S) : S.rows.flatten.length ≤ 4096 := by
  have hp : S.rows.flatten.Perm A.handles := by
    unfold Ar.handles
    rw [List.perm_ext_iff_of_nodup h.nodup (List.nodup_range.filter _)]
    intro i
    rw [h.use i]
    simp only [List.mem_filter, List.mem_range]
    refine ⟨fun hu => ?_, fun hu => hu.2⟩
    obtain ⟨v, hv⟩ := Option.isSome_iff_exists.1 hu
    exact ⟨Ar.get_some_lt hv, hu⟩
  have hm : A.many = A.handles.length := by
    have e : A.vals = (List.range A.vals.length).map A.get := by
      apply List.ext_getElem?
      intro i
      rcases Nat.lt_or_ge i A.vals.length with h' | h'
      · rw [Ar.get_eq h']; simp [h']
      · rw [List.getElem?_eq_none h', List.getElem?_eq_none (by simpa using h')]
    unfold Ar.many Ar.handles
    conv => lhs; rw [e]
    rw [List.filter_map, List.length_map]
    rfl
  rw [hp.length_eq, ← hm]
  exact Nat.le_trans h.mem.ar.ok.most h.mem.ar.ok.room
theorem FoAt.row (h : FoAt H f p g A nb N S) (hx : xs ∈ S.rows) : Row S.it xs where
  nd := (List.sublist_flatten_of_mem hx).nodup h.nodup
  may := fun i hi => h.may i ((h.use i).1 (List.mem_flatten.2 ⟨xs, hx, hi⟩))
  len := Nat.le_trans (List.sublist_flatten_of_mem hx).length_le h.len
theorem splay_row {K : Value → Heap → Prop} (hF : FoAt H f p g A nb N S) (hx : xs ∈ S.rows) (hk : k ∈ xs)
    (hd : ∀ ys ∈ S.rows, ys = xs ∨ ∀ i ∈ ys, i ∉ xs)
    (fin : ∀ H' N' a b, FoAt H' f p g A nb N' S → TrAt N' S.it 0 (.node a k b) → a.list ++ k :: b.list = xs → Fr (NB A nb) H H' → (∀ i, i ∉ xs → N' i = N i) → K (.tuple #[]) H') :
    CallsH Try.prog 40 #[.pointer (some ⟨f, 0, none⟩), .int .i64 k] H K := by
  obtain ⟨t, ht, e⟩ := hF.trees xs hx
  obtain ⟨a, b, ps, ep⟩ := find_path (t := t) (k := k) (by rw [e]; exact hk)
  have hU : U A k := (hF.use k).1 (List.mem_flatten.2 ⟨xs, hx, hk⟩)
  have hr := hF.row hx
  refine splay_ok (P := Below S.it k xs N) (m := ps.length) hF.mem hU ⟨⟨a, b, ps, rfl, by rw [ep]; exact ht, by rw [ep]; exact e⟩, fun _ _ => rfl⟩ (below_step hr) ?_
  rintro H' N' m' hF' ⟨⟨a', b', ps', rfl, ht', e'⟩, hoff⟩ hz hf
  have hup := (up_of ht').1
  have hps : ps' = [] := by
    cases ps' with
    | nil => rfl
    | cons fm ps' =>
      obtain ⟨_, hpath⟩ := (trAt_plug _ _).1 ht'
      have hf1 : fm.h ∈ ctx (fm :: ps') := by cases fm; simp [ctx]
      rw [hz] at hup
      exact absurd hf1 (by rw [show fm.h = 0 from hup.symm]; exact hpath.ne_zero)
  subst hps
  refine fin H' N' a' b' ⟨hF', fun ys hy => ?_, hF.nodup, hF.use, hF.may⟩ ht' e' hf hoff
  rcases hd ys hy with rfl | hdis
  · exact ⟨_, ht', e'⟩
  · obtain ⟨t2, h1, h2⟩ := hF.trees ys hy
    exact ⟨t2, h1.congr fun i hi => hoff i (hdis i (by rw [← h2]; exact hi)), h2⟩
end
end Go.Proofs.Ytndkbhlfbeiniaa
