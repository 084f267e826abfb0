/-
  Splay forests, plain: two trees hung together; the last of a tree.
-/
import Derived.Test.YtndkbhlfbeiniaaSpU
import Derived.Test.YtndkbhlfbeiniaaSpV
namespace Go.Sp
open Go Go.Hp
set_option linter.unusedVariables false

theorem join_tree {N : Nodes} {it : Nat → Item} {a t : Tr} {k : Nat} (ht : TrAt N it 0 (.node a k .nil)) (hs : TrAt N it 0 t) (h0 : t.root ≠ 0) (hd : (a.list ++ k :: t.list).Nodup) (hm : ∀ i ∈ a.list ++ k :: t.list, May (it i)) (hl : (a.list ++ k :: t.list).length ≤ 4096) :
    TrAt (pullN (hangN N k 1 t.root) k) it 0 (.node a k t) ∧ ∀ i, i ∉ a.list ++ k :: t.list → pullN (hangN N k 1 t.root) k i = N i := by
  generalize hM : hangN N k 1 t.root = M
  obtain ⟨k0, ek, hta, _⟩ := ht
  simp only [List.nodup_append, List.nodup_cons, List.mem_cons] at hd
  obtain ⟨na, ⟨kb, nb'⟩, dab⟩ := hd
  have hka : k ∉ a.list := fun e => dab k e k (.inl rfl) rfl
  have hrt := Tr.root_mem h0
  have hkr : t.root ≠ k := fun e => kb (by rw [← e]; exact hrt)
  have eM : M = upd (upd N k ((N k).setKid 1 t.root)) t.root { upd N k ((N k).setKid 1 t.root) t.root with up := k } := by
    rw [← hM]; unfold hangN; rw [if_neg h0]
  have Mk : M k = (N k).setKid 1 t.root := by
    rw [eM, upd_ne _ _ (Ne.symm hkr), upd_same]
  have Mo : ∀ i, i ≠ k → i ≠ t.root → M i = N i := fun i h1 h2 => by
    rw [eM, upd_ne _ _ h2, upd_ne _ _ h1]
  have Mt : M t.root = { N t.root with up := k } := by
    rw [eM, upd_same, upd_ne _ _ hkr]
  have htaM : TrAt M it k a := hta.congr fun i hi => Mo i (fun e => hka (e ▸ hi)) (fun e => dab i hi i (.inr (by rw [e]; exact hrt)) rfl)
  have htM : TrAt M it k t := hs.hung nb' (fun _ => Mt) (fun i hi hne => Mo i (fun e => kb (e ▸ hi)) hne)
  have pk : pullR M k = recOf it 0 a.root k t.root (a.list ++ k :: t.list) := by
    refine pullR_of htaM.below htM.below (by rw [Mk, ek]; rfl) (by rw [Mk, ek]; rfl) (by rw [Mk, ek]; rfl) (by rw [Mk]; rfl) hm hl
  have eP : pullN M k = upd M k (recOf it 0 a.root k t.root (a.list ++ k :: t.list)) := by unfold pullN; rw [pk]
  rw [eP]
  refine ⟨⟨k0, by rw [upd_same], htaM.congr fun i hi => upd_ne _ _ (fun e => hka (e ▸ hi)), htM.congr fun i hi => upd_ne _ _ (fun e => kb (e ▸ hi))⟩, fun i hi => ?_⟩
  simp only [List.mem_append, List.mem_cons, not_or] at hi
  rw [upd_ne _ _ hi.2.1]
  exact Mo i hi.2.1 (fun e => hi.2.2 (e ▸ hrt))
/-- A node reckoned anew that stands as its tree's root, with another item. -/
theorem set_tree {N : Nodes} {it : Nat → Item} {a b : Tr} {k : Nat} {x : Item} (ht : TrAt N it 0 (.node a k b)) (hd : (a.list ++ k :: b.list).Nodup) (hx : May x) (hm : ∀ i ∈ a.list ++ k :: b.list, May (it i)) (hl : (a.list ++ k :: b.list).length ≤ 4096) :
    TrAt (pullN (upd N k { N k with item := x }) k) (fun i => if i = k then x else it i) 0 (.node a k b) ∧ ∀ i, i ≠ k → pullN (upd N k { N k with item := x }) k i = N i := by
  obtain ⟨k0, ek, hta, htb⟩ := ht
  simp only [List.nodup_append, List.nodup_cons, List.mem_cons] at hd
  obtain ⟨na, ⟨kb, nb'⟩, dab⟩ := hd
  have hka : k ∉ a.list := fun e => dab k e k (.inl rfl) rfl
  have re : ∀ {t : Tr} {up : Nat}, TrAt N it up t → k ∉ t.list → TrAt (upd N k { N k with item := x }) (fun i => if i = k then x else it i) up t := by
    intro t
    induction t with
    | nil => intros; trivial
    | node l h r ihl ihr =>
      rintro up ⟨p1, p2, p3, p4⟩ hk
      simp only [Tr.list, List.mem_append, List.mem_cons, not_or] at hk
      refine ⟨p1, ?_, ihl p3 hk.1, ihr p4 hk.2.2⟩
      rw [upd_ne _ _ (Ne.symm hk.2.1), p2]
      unfold recOf
      have e2 : aggOf (fun i => if i = k then x else it i) (l.list ++ h :: r.list) = aggOf it (l.list ++ h :: r.list) := by
        unfold aggOf
        congr 1
        apply List.map_congr_left
        intro i hi
        have : i ≠ k := fun e => by
          subst e
          simp only [List.mem_append, List.mem_cons] at hi
          rcases hi with hi | hi | hi
          · exact hk.1 hi
          · exact hk.2.1 hi
          · exact hk.2.2 hi
        exact if_neg this
      rw [e2]
      simp only [if_neg (Ne.symm hk.2.1)]
  have hta' := re hta hka
  have htb' := re htb kb
  have pk : pullR (upd N k { N k with item := x }) k = recOf (fun i => if i = k then x else it i) 0 a.root k b.root (a.list ++ k :: b.list) := by
    refine pullR_of hta'.below htb'.below (by rw [upd_same]; simp) (by rw [upd_same, ek]; rfl) (by rw [upd_same, ek]; rfl) (by rw [upd_same, ek]; rfl) (fun i hi => ?_) hl
    by_cases e : i = k
    · simp only [e, if_true]; exact hx
    · simp only [e, if_false]; exact hm i hi
  have eP : pullN (upd N k { N k with item := x }) k = upd (upd N k { N k with item := x }) k (recOf (fun i => if i = k then x else it i) 0 a.root k b.root (a.list ++ k :: b.list)) := by unfold pullN; rw [pk]
  rw [eP]
  refine ⟨⟨k0, by rw [upd_same], hta'.congr fun i hi => upd_ne _ _ (fun e => hka (e ▸ hi)), htb'.congr fun i hi => upd_ne _ _ (fun e => kb (e ▸ hi))⟩, fun i hi => ?_⟩
  rw [upd_ne _ _ hi, upd_ne _ _ hi]
/-- Items of others do not bear upon a tree. -/
theorem TrAt.items {N : Nodes} {it it' : Nat → Item} : ∀ {t : Tr} {up : Nat}, TrAt N it up t → (∀ h ∈ t.list, it' h = it h) → TrAt N it' up t
  | .nil, _, _, _ => trivial
  | .node l h r, up, ⟨a, b, c, d⟩, hN => by
    have e2 : aggOf it' (l.list ++ h :: r.list) = aggOf it (l.list ++ h :: r.list) := by
      unfold aggOf; congr 1
      exact List.map_congr_left fun i hi => hN i hi
    have e1 : it' h = it h := hN h (by simp [Tr.list])
    refine ⟨a, ?_, c.items fun k hk => hN k (by simp [Tr.list, hk]), d.items fun k hk => hN k (by simp [Tr.list, hk])⟩
    unfold recOf at b ⊢
    rw [b, e1, e2]
theorem flagsL_and : ∀ {xs : List Item} {fl : Nat}, flagsL xs &&& fl = 0 ↔ ∀ x ∈ xs, x.flags.toNat &&& fl = 0
  | [], fl => by simp [flagsL]
  | x :: xs, fl => by
    have ih := flagsL_and (xs := xs) (fl := fl)
    simp only [flagsL, Nat.and_or_distrib_right, Nat.or_eq_zero_iff, ih, List.mem_cons, forall_eq_or_imp]
theorem list_ne_nil {t : Tr} (h : t.root ≠ 0) : t.list ≠ [] := by
  cases t with
  | nil => exact absurd rfl h
  | node l k r => simp [Tr.list]
theorem root_of_list {N : Nodes} {it : Nat → Item} {t : Tr} {up : Nat} (h : TrAt N it up t) (hl : t.list ≠ []) : t.root ≠ 0 := by
  cases t with
  | nil => exact absurd rfl hl
  | node l k r => exact h.1
theorem nil_of_root {N : Nodes} {it : Nat → Item} {t : Tr} {up : Nat} (h : TrAt N it up t) (h0 : t.root = 0) : t = .nil := by
  cases t with
  | nil => rfl
  | node l k r => exact absurd h0 h.1
end Go.Sp
