/-
  Splay forests as sequences: a node more, a node less, in memory; the forest for whoever uses it.
-/
import Derived.Test.YtndkbhlfbeiniaaSpJ
import Derived.Test.YtndkbhlfbeiniaaSpK
import Derived.Test.YtndkbhlfbeiniaaSpL
import Derived.Test.YtndkbhlfbeiniaaArKeepsP
namespace Go.Sp
open Go Go.Hp
set_option linter.unusedVariables false
theorem TrAt.links {N : Nodes} {it : Nat → Item} {i : Nat} : ∀ {t : Tr} {up : Nat}, TrAt N it up t → i ∈ t.list →
    ((N i).up = up ∨ (N i).up ∈ t.list) ∧ ((N i).l = 0 ∨ (N i).l ∈ t.list) ∧ ((N i).r = 0 ∨ (N i).r ∈ t.list)
  | .nil, _, _, h => by simp [Tr.list] at h
  | .node l h r, up, ⟨a, b, c, d⟩, hi => by
    simp only [Tr.list, List.mem_append, List.mem_cons] at hi ⊢
    rcases hi with hi | rfl | hi
    · obtain ⟨h1, h2, h3⟩ := c.links hi
      refine ⟨.inr ?_, ?_, ?_⟩
      · rcases h1 with h1 | h1
        · exact .inr (.inl h1)
        · exact .inl h1
      · rcases h2 with h2 | h2
        · exact .inl h2
        · exact .inr (.inl h2)
      · rcases h3 with h3 | h3
        · exact .inl h3
        · exact .inr (.inl h3)
    · rw [b]
      refine ⟨.inl rfl, ?_, ?_⟩
      · by_cases e : l.root = 0
        · exact .inl e
        · exact .inr (.inl (Tr.root_mem e))
      · by_cases e : r.root = 0
        · exact .inl e
        · exact .inr (.inr (.inr (Tr.root_mem e)))
    · obtain ⟨h1, h2, h3⟩ := d.links hi
      refine ⟨.inr ?_, ?_, ?_⟩
      · rcases h1 with h1 | h1
        · exact .inr (.inl h1)
        · exact .inr (.inr h1)
      · rcases h2 with h2 | h2
        · exact .inl h2
        · exact .inr (.inr (.inr h2))
      · rcases h3 with h3 | h3
        · exact .inl h3
        · exact .inr (.inr (.inr h3))
end Go.Sp
namespace Go.Proofs.Ytndkbhlfbeiniaa
open Go Go.Hp Go.Sp
set_option linter.all false
set_option maxRecDepth 100000
set_option maxHeartbeats 1600000

section
variable {H H' : Heap} {f p g : Nat} {A : Ar} {nb : Nat → Nat} {N : Nodes} {S : Fo} {xs : List Nat} {k : Nat} {R : List (List Nat)}
theorem FAt.made {H1 : Heap} {b g' h : Nat} {A' : Ar} {r : Rec} (hF : FAt H1 f p g A nb N) (hb : Blk H1 b r.cells) (hbn : ∀ i, U A i → nb i ≠ b) (hb3 : b ≠ f ∧ b ≠ p ∧ b ≠ g) (hr : r.up = 0 ∧ r.l = 0 ∧ r.r = 0)
    (hA' : ArAt H' p g' 1 [.pointer none] A') (hn : A.get h = none) (hg : ∀ i, A'.get i = if i = h then some [.pointer (some ⟨b, 0, none⟩)] else A.get i) (hf : Fr (fun y => y = g ∨ y = p) H1 H') (hgg : g' = g ∨ H1.size ≤ g') :
    FAt H' f p g' A' (fun i => if i = h then b else nb i) (upd N h r) := by
  have hU : ∀ i, U A' i ↔ i = h ∨ U A i := fun i => by
    unfold U
    rw [hg]
    by_cases e : i = h
    · simp [e]
    · simp [e]
  have hnh : ∀ i, U A i → i ≠ h := fun i hi e => by subst e; unfold U at hi; rw [hn] at hi; cases hi
  have hlt : ∀ b', b' < H1.size → b' ≠ g → b' ≠ g' := fun b' h1 h2 => by
    rcases hgg with e | e
    · rw [e]; exact h2
    · omega
  refine ⟨hF.ff.frame hf (by have := hF.fp; omega), hA', fun i v hv => ?_, fun i hi => ?_, fun i j hi hj e => ?_, fun i hi => ?_, ⟨hF.fp.1, hlt _ hF.ff.lt hF.fp.2⟩, ?_⟩
  · rw [hg] at hv
    by_cases e : i = h
    · rw [if_pos e] at hv; rw [if_pos e]; exact (Option.some.inj hv).symm
    · rw [if_neg e] at hv; rw [if_neg e]; exact hF.use i v hv
  · rcases (hU i).1 hi with rfl | hi
    · simp only [if_true, upd_same]
      exact hb.frame hf (by omega)
    · have hne := hnh i hi
      simp only [hne, if_false]
      rw [upd_ne _ _ hne]
      have := hF.dis i hi
      exact (hF.nd i hi).frame hf (by omega)
  · rcases (hU i).1 hi with e1 | hi <;> rcases (hU j).1 hj with e2 | hj
    · rw [e1, e2]
    · rw [if_pos e1, if_neg (hnh j hj)] at e
      exact absurd e.symm (hbn j hj)
    · rw [if_pos e2, if_neg (hnh i hi)] at e
      exact absurd e (hbn i hi)
    · rw [if_neg (hnh i hi), if_neg (hnh j hj)] at e
      exact hF.inj i j hi hj e
  · rcases (hU i).1 hi with rfl | hi
    · simp only [if_true]
      exact ⟨hb3.1, hb3.2.1, hlt _ hb.lt hb3.2.2⟩
    · have hne := hnh i hi
      simp only [hne, if_false]
      have := hF.dis i hi
      exact ⟨this.1, this.2.1, hlt _ (hF.nd i hi).lt this.2.2⟩
  · have lift : ∀ x, x = 0 ∨ U A x → x = 0 ∨ U A' x := fun x hx => hx.imp id fun h => (hU x).2 (.inr h)
    refine ⟨fun i hi => ?_, fun i hi => ?_, fun i hi => ?_⟩
    all_goals
      rcases (hU i).1 hi with rfl | hi
      · rw [upd_same]; simp [hr]
      · rw [upd_ne _ _ (hnh i hi)]
        first | exact lift _ (hF.cl.up i hi) | exact lift _ (hF.cl.l i hi) | exact lift _ (hF.cl.r i hi)
theorem FoAt.made {H1 : Heap} {b g' h : Nat} {A' : Ar} {x : Sp.Item} (hF : FoAt H1 f p g A nb N S) (hx : May x) (hh : 1 ≤ h) (hb : Blk H1 b (Rec.mk x 0 0 0 1 (ownA x)).cells) (hbn : ∀ i, U A i → nb i ≠ b) (hb3 : b ≠ f ∧ b ≠ p ∧ b ≠ g)
    (hA' : ArAt H' p g' 1 [.pointer none] A') (hn : A.get h = none) (hg : ∀ i, A'.get i = if i = h then some [.pointer (some ⟨b, 0, none⟩)] else A.get i) (hf : Fr (fun y => y = g ∨ y = p) H1 H') (hgg : g' = g ∨ H1.size ≤ g') :
    FoAt H' f p g' A' (fun i => if i = h then b else nb i) (upd N h (Rec.mk x 0 0 0 1 (ownA x))) ⟨fun i => if i = h then x else S.it i, [h] :: S.rows⟩ := by
  have hU : ∀ i, U A' i ↔ i = h ∨ U A i := fun i => by
    unfold U
    rw [hg]
    by_cases e : i = h
    · simp [e]
    · simp [e]
  have hhU : ¬ U A h := fun hi => by unfold U at hi; rw [hn] at hi; cases hi
  have hhr : h ∉ S.rows.flatten := fun hi => hhU ((hF.use h).1 hi)
  refine ⟨hF.mem.made hb hbn hb3 ⟨rfl, rfl, rfl⟩ hA' hn hg hf hgg, fun ys hy => ?_, ?_, fun i => ?_, fun i hi => ?_⟩
  · rcases List.mem_cons.1 hy with rfl | hy
    · refine ⟨.node .nil h .nil, ⟨by omega, ?_, trivial, trivial⟩, rfl⟩
      rw [upd_same]
      unfold recOf aggOf
      simp [Tr.list, Tr.root, ownA_aggL hx]
    · obtain ⟨t, h1, h2⟩ := hF.trees ys hy
      have hni : ∀ i ∈ t.list, i ≠ h := fun i hi e => hhr (List.mem_flatten.2 ⟨ys, hy, by rw [← h2, ← e]; exact hi⟩)
      exact ⟨t, (h1.congr fun i hi => upd_ne _ _ (hni i hi)).items fun i hi => if_neg (hni i hi), h2⟩
  · rw [List.flatten_cons, List.singleton_append, List.nodup_cons]
    exact ⟨hhr, hF.nodup⟩
  · rw [hU, ← hF.use i]; simp
  · rcases (hU i).1 hi with rfl | hi
    · simp only [if_true]; exact hx
    · have : i ≠ h := fun e => hhU (e ▸ hi)
      simp only [this, if_false]
      exact hF.may i hi
theorem FoAt.freed {h : Nat} (hF : FoAt H f p g A nb N S) (hr : S.rows.Perm ([h] :: R)) (hA' : ArAt H' p g 1 [.pointer none] (A.drop h)) (hf : Fr (fun y => y = g ∨ y = p) H H') : FoAt H' f p g (A.drop h) nb N ⟨S.it, R⟩ := by
  have hx : [h] ∈ S.rows := hr.mem_iff.2 (.head _)
  have hUh := hF.u hx (.head _)
  obtain ⟨v, hv⟩ := Option.isSome_iff_exists.1 hUh
  have hgd := Ar.get_drop hv
  have hU : ∀ i, U (A.drop h) i ↔ i ≠ h ∧ U A i := fun i => by
    unfold U
    rw [hgd]
    by_cases e : i = h
    · simp [e]
    · simp [e]
  have hn2 : ([h] :: R).flatten.Nodup := (hr.flatten.nodup_iff).1 hF.nodup
  rw [List.flatten_cons, List.singleton_append, List.nodup_cons] at hn2
  have huse : ∀ i, i ∈ R.flatten ↔ U (A.drop h) i := fun i => by
    rw [hU, ← hF.use i, hr.flatten.mem_iff, List.flatten_cons, List.singleton_append, List.mem_cons]
    constructor
    · intro hi
      exact ⟨fun e => hn2.1 (e ▸ hi), .inr hi⟩
    · rintro ⟨h1, h2 | h2⟩
      · exact absurd h2 h1
      · exact h2
  have links : ∀ i, U (A.drop h) i → ((N i).up = 0 ∨ U (A.drop h) (N i).up) ∧ ((N i).l = 0 ∨ U (A.drop h) (N i).l) ∧ ((N i).r = 0 ∨ U (A.drop h) (N i).r) := fun i hi => by
    obtain ⟨ys, hy, hiy⟩ := List.mem_flatten.1 ((huse i).2 hi)
    obtain ⟨t, h1, h2⟩ := hF.trees ys (hr.mem_iff.2 (.tail _ hy))
    have hl := h1.links (i := i) (by rw [h2]; exact hiy)
    have lift : ∀ x, x ∈ t.list → U (A.drop h) x := fun x hx => (huse x).1 (List.mem_flatten.2 ⟨ys, hy, by rw [← h2]; exact hx⟩)
    exact ⟨hl.1.imp id (lift _), hl.2.1.imp id (lift _), hl.2.2.imp id (lift _)⟩
  refine ⟨⟨hF.mem.ff.frame hf (by have := hF.mem.fp; omega), hA', fun i v hv => ?_, fun i hi => ?_, fun i j hi hj e => hF.mem.inj i j ((hU i).1 hi).2 ((hU j).1 hj).2 e, fun i hi => hF.mem.dis i ((hU i).1 hi).2, hF.mem.fp, ⟨fun i hi => (links i hi).1, fun i hi => (links i hi).2.1, fun i hi => (links i hi).2.2⟩⟩,
    fun ys hy => hF.trees ys (hr.mem_iff.2 (.tail _ hy)), hn2.2, huse, fun i hi => hF.may i ((hU i).1 hi).2⟩
  · rw [hgd] at hv
    by_cases e : i = h
    · rw [if_pos e] at hv; cases hv
    · rw [if_neg e] at hv; exact hF.mem.use i v hv
  · have := hF.mem.dis i ((hU i).1 hi).2
    exact (hF.mem.nd i ((hU i).1 hi).2).frame hf (by omega)
/-- A node's item laid anew. -/
theorem FAt.item (hF : FAt H f p g A nb N) {x : Sp.Item} (hk : U A k) :
    (∀ j, j < 3 → okW H ⟨nb k, j, none⟩) ∧ FAt (hset (hset (hset H ⟨nb k, 0, none⟩ (.int .i64 x.value)) ⟨nb k, 1, none⟩ (.bool x.counts)) ⟨nb k, 2, none⟩ (.int .i64 x.flags)) f p g A nb (upd N k { N k with item := x }) ∧
      Fr (NB A nb) H (hset (hset (hset H ⟨nb k, 0, none⟩ (.int .i64 x.value)) ⟨nb k, 1, none⟩ (.bool x.counts)) ⟨nb k, 2, none⟩ (.int .i64 x.flags)) := by
  have hn := hF.nd k hk
  have hfr : Fr (· = nb k) H (hset (hset (hset H ⟨nb k, 0, none⟩ (.int .i64 x.value)) ⟨nb k, 1, none⟩ (.bool x.counts)) ⟨nb k, 2, none⟩ (.int .i64 x.flags)) := by
    have step : ∀ {H' : Heap} (o : Nat) (v : Value), Fr (· = nb k) H H' → Fr (· = nb k) H (hset H' ⟨nb k, o, none⟩ v) := fun o v h => Fr.set (S := (· = nb k)) (a := ⟨nb k, o, none⟩) h (.inl rfl) v
    exact step 2 _ (step 1 _ (step 0 _ (Fr.refl _ _)))
  refine ⟨fun j hj => hn.okW (by simp [Rec.cells]; omega), hF.set hk hfr ?_ ?_, NB.of hk hfr⟩
  · exact ((hn.set_same 0 (.int .i64 x.value)).set_same 1 (.bool x.counts)).set_same 2 (.int .i64 x.flags)
  · exact hF.cl.upd (hF.cl.up k hk) (hF.cl.l k hk) (hF.cl.r k hk)
end
end Go.Proofs.Ytndkbhlfbeiniaa
