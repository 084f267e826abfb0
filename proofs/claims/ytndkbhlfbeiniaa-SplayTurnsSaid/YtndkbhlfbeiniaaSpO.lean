/-
  Splay forests for whoever uses them: what hides the nodes' places.
-/
import Derived.Test.YtndkbhlfbeiniaaSpM
namespace Go.Sp
open Go Go.Hp
set_option linter.unusedVariables false
structure Sq where
  room : Nat
  top : Nat
  free : List Nat
  it : Nat → Item
  rows : List (List Nat)
/-- A node is there. -/
def Sq.Has (S : Sq) (i : Int) : Prop := ∃ k : Nat, i = (k : Int) ∧ k ∈ S.rows.flatten
/-- A node more in a forest: its handle. -/
def Sq.next (S : Sq) : Nat := S.free.headD S.top
def Sq.made (S : Sq) (x : Item) : Sq := { S with top := if S.free = [] then S.top + 1 else S.top, free := S.free.tail, it := fun i => if i = S.next then x else S.it i, rows := [S.next] :: S.rows }
def Sq.freed (S : Sq) (h : Nat) (R : List (List Nat)) : Sq := { S with free := h :: S.free, rows := R }
end Go.Sp
namespace Go.Proofs.Ytndkbhlfbeiniaa
open Go Go.Hp Go.Sp
set_option linter.all false
set_option maxRecDepth 100000
set_option maxHeartbeats 1600000

/-- A forest in memory, header at f, all of it within the blocks T. -/
def FoM (H : Heap) (f : Nat) (T : Nat → Prop) (S : Sq) : Prop :=
  ∃ p g A nb N, FoAt H f p g A nb N ⟨S.it, S.rows⟩ ∧ A.room = S.room ∧ A.vals.length = S.top ∧ A.free = S.free ∧ (∀ b, Foot f p g A nb b → T b) ∧ (∀ b, T b → b < H.size)
section
variable {H H' : Heap} {f : Nat} {T : Nat → Prop} {S : Sq}
theorem FoM.lt (h : FoM H f T S) {b : Nat} (hb : T b) : b < H.size := by
  obtain ⟨p, g, A, nb, N, _, _, _, _, _, h6⟩ := h
  exact h6 b hb
theorem FoM.frame {T0 : Nat → Prop} (h : FoM H f T S) (hf : Fr T0 H H') (hT : ∀ b, T b → ¬ T0 b) : FoM H' f T S := by
  obtain ⟨p, g, A, nb, N, h1, h2, h3, h4, h5, h6⟩ := h
  exact ⟨p, g, A, nb, N, h1.frame hf fun b hb => hT b (h5 b hb), h2, h3, h4, h5, fun b hb => Nat.lt_of_lt_of_le (h6 b hb) hf.size⟩
theorem FoM.grow (h : FoM H f T S) (hf : Fr (fun _ => False) H H') : FoM H' f T S := h.frame hf fun _ _ h => h
theorem FoM.perm (h : FoM H f T S) {R : List (List Nat)} (hr : S.rows.Perm R) : FoM H f T { S with rows := R } := by
  obtain ⟨p, g, A, nb, N, h1, h2, h3, h4, h5, h6⟩ := h
  exact ⟨p, g, A, nb, N, h1.perm hr, h2, h3, h4, h5, h6⟩
theorem FoM.nodup (h : FoM H f T S) : S.rows.flatten.Nodup := by
  obtain ⟨p, g, A, nb, N, h1, _⟩ := h
  exact h1.nodup
theorem FoM.may (h : FoM H f T S) {k : Nat} (hk : k ∈ S.rows.flatten) : May (S.it k) := by
  obtain ⟨p, g, A, nb, N, h1, _⟩ := h
  exact h1.may k ((h1.use k).1 hk)
theorem FoM.pos (h : FoM H f T S) {k : Nat} (hk : k ∈ S.rows.flatten) : 1 ≤ k := by
  obtain ⟨p, g, A, nb, N, h1, _⟩ := h
  exact h1.mem.pos ((h1.use k).1 hk)
theorem FoM.len (h : FoM H f T S) : S.rows.flatten.length ≤ 4096 := by
  obtain ⟨p, g, A, nb, N, h1, _⟩ := h
  exact h1.len
theorem FoAt.many {p g : Nat} {A : Ar} {nb : Nat → Nat} {N : Nodes} {S : Fo} (h : FoAt H f p g A nb N S) : S.rows.flatten.length = A.many := by
  have hp : S.rows.flatten.Perm A.handles := by
    unfold Ar.handles
    rw [List.perm_ext_iff_of_nodup h.nodup (List.nodup_range.filter _)]
    intro i
    rw [h.use i]
    simp only [List.mem_filter, List.mem_range]
    refine ⟨fun hu => ?_, fun hu => hu.2⟩
    obtain ⟨v, hv⟩ := Option.isSome_iff_exists.1 hu
    exact ⟨Ar.get_some_lt hv, hu⟩
  have hm : A.many = A.handles.length := by
    have e : A.vals = (List.range A.vals.length).map A.get := by
      apply List.ext_getElem?
      intro i
      rcases Nat.lt_or_ge i A.vals.length with h' | h'
      · rw [Ar.get_eq h']; simp [h']
      · rw [List.getElem?_eq_none h', List.getElem?_eq_none (by simpa using h')]
    unfold Ar.many Ar.handles
    conv => lhs; rw [e]
    rw [List.filter_map, List.length_map]
    rfl
  rw [hp.length_eq, ← hm]
theorem FoM.room (h : FoM H f T S) : S.rows.flatten.length ≤ S.room ∧ S.room ≤ 4096 ∧ S.rows.flatten.length + S.free.length + 1 = S.top := by
  obtain ⟨p, g, A, nb, N, h1, h2, h3, h4, _⟩ := h
  have hm := h1.many
  have h5 := h1.mem.ar.ok.most
  have h6 := h1.mem.ar.ok.room
  have h7 := Ar.count_free A h1.mem.ar.ok
  simp only [] at hm
  rw [hm, ← h2, ← h3, ← h4]
  exact ⟨h5, h6, h7⟩
theorem FoM.free_mem (h : FoM H f T S) (i : Nat) : i ∈ S.free ↔ 1 ≤ i ∧ i < S.top ∧ i ∉ S.rows.flatten := by
  obtain ⟨p, g, A, nb, N, h1, h2, h3, h4, _⟩ := h
  rw [← h4, ← h3, h1.mem.ar.ok.mem i]
  have := h1.use i
  simp only [] at this
  rw [this]
  unfold U
  simp
theorem FoM.lt_top (h : FoM H f T S) {k : Nat} (hk : k ∈ S.rows.flatten) : k < S.top := by
  obtain ⟨p, g, A, nb, N, h1, h2, h3, h4, _⟩ := h
  have := (h1.use k).1 hk
  obtain ⟨v, hv⟩ := Option.isSome_iff_exists.1 this
  rw [← h3]
  exact Ar.get_some_lt hv
theorem FoAt.none {p g : Nat} {A : Ar} {nb : Nat → Nat} {N : Nodes} {S : Fo} {i : Int} (h : FoAt H f p g A nb N S) (hi : ¬ ∃ k : Nat, i = (k : Int) ∧ k ∈ S.rows.flatten) : i < 1 ∨ A.get i.toNat = none := by
  rcases Int.lt_or_le i 1 with h1 | h1
  · exact .inl h1
  · refine .inr ?_
    obtain ⟨k, rfl⟩ := Int.eq_ofNat_of_zero_le (show 0 ≤ i by omega)
    cases hg : A.get k with
    | none => simpa using hg
    | some v => exact absurd ⟨k, rfl, (h.use k).2 (by unfold U; rw [hg]; rfl)⟩ hi
end
end Go.Proofs.Ytndkbhlfbeiniaa
