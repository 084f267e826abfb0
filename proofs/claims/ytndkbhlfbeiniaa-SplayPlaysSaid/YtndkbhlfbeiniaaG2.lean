/-
  A turn in a tree.
  Steps of a splay in a tree: the node comes up, what stands in order stays.
  Splay forests as sequences: splay.
  Splay forests as sequences: what only asks.
  Splay forests as sequences: Get, Rank.
  Splay forests as sequences: what changes: Split.
  Splay forests as sequences: same.
  Splay forests, plain: two trees hung together; the last of a tree.
  Flags as numbers: what &^ and & come to.
  What ArenaKeeps keeps: handles hs they were given, what was laid there; plain.
  Splay forests as sequences: a node more, a node less, in memory; the forest for whoever uses it.
  Splay forests for whoever uses them: what hides the nodes' places.
  Splay forests as sequences: may, New, Make, Free, Set.
-/
import Derived.Test.YtndkbhlfbeiniaaG1
import Derived.Test.YtndkbhlfbeiniaaHpE
import Derived.Test.YtndkbhlfbeiniaaG0
namespace Go.Sp
open Go Go.Hp
set_option linter.unusedVariables false
set_option linter.unusedSimpArgs false

def ctx : List Fm → List Nat
 | [] => []
 | ⟨_, h, s⟩ :: ps => h :: (s.list ++ ctx ps)
theorem plug_perm : ∀ (ps : List Fm) (t : Tr), (plug t ps).list.Perm (t.list ++ ctx ps)
 | [], t => by simp [plug, ctx]
 | ⟨false, h, s⟩ :: ps, t => by
  have := plug_perm ps (.node t h s)
  simpa [plug, ctx, Tr.list] using this
 | ⟨true, h, s⟩ :: ps, t => by
  have h1 := plug_perm ps (.node s h t)
  simp only [plug, ctx, Tr.list] at h1 ⊢
  refine h1.trans ?_
  rw [List.append_assoc, List.cons_append]
  have e1 : (s.list ++ h :: (t.list ++ ctx ps)).Perm (h :: s.list ++ (t.list ++ ctx ps)) := List.perm_middle
  refine e1.trans ?_
  rw [← List.append_assoc]
  have e2 : (h :: s.list ++ t.list).Perm (t.list ++ (h :: s.list)) := List.perm_append_comm
  have := e2.append_right (ctx ps)
  simpa using this
theorem PathAt.congr {N N' : Nodes} {it : Nat → Item} : ∀ {ps : List Fm} {x : Nat} {xs : List Nat}, PathAt N it x xs ps → (∀ i ∈ ctx ps, N' i = N i) → PathAt N' it x xs ps
 | [], _, _, _, _ => trivial
 | ⟨false, h, s⟩ :: ps, x, xs, ⟨a, b, c, d⟩, hN => by
  simp only [ctx, List.mem_cons, List.mem_append] at hN
  exact ⟨a, by rw [hN h (.inl rfl)]; exact b, c.congr fun i hi => hN i (.inr (.inl hi)), d.congr fun i hi => hN i (.inr (.inr hi))⟩
 | ⟨true, h, s⟩ :: ps, x, xs, ⟨a, b, c, d⟩, hN => by
  simp only [ctx, List.mem_cons, List.mem_append] at hN
  exact ⟨a, by rw [hN h (.inl rfl)]; exact b, c.congr fun i hi => hN i (.inr (.inl hi)), d.congr fun i hi => hN i (.inr (.inr hi))⟩
theorem PathAt.ne_zero {N : Nodes} {it : Nat → Item} : ∀ {ps : List Fm} {x : Nat} {xs : List Nat}, PathAt N it x xs ps → 0 ∉ ctx ps
 | [], _, _, _ => by simp [ctx]
 | ⟨false, h, s⟩ :: ps, x, xs, ⟨a, b, c, d⟩ => by
  simp only [ctx, List.mem_cons, List.mem_append, not_or]
  exact ⟨Ne.symm a, c.ne_zero, d.ne_zero⟩
 | ⟨true, h, s⟩ :: ps, x, xs, ⟨a, b, c, d⟩ => by
  simp only [ctx, List.mem_cons, List.mem_append, not_or]
  exact ⟨Ne.symm a, c.ne_zero, d.ne_zero⟩
theorem PathAt.swap {N N' : Nodes} {it : Nat → Item} {ps : List Fm} {u k : Nat} {xs : List Nat} (h : PathAt N it u xs ps) (hu : u ≠ 0) (hn : u ∉ ctx ps) (hd : (ctx ps).Nodup)
  (ht : upOf ps ≠ 0 → N' (upOf ps) = (N (upOf ps)).setKid (sideN N (upOf ps) u) k) (ho : ∀ i ∈ ctx ps, i ≠ upOf ps → N' i = N i) : PathAt N' it k xs ps := by
 cases ps with
 | nil => trivial
 | cons f ps =>
  obtain ⟨side, h', s⟩ := f
  simp only [ctx, List.nodup_cons, List.mem_append, not_or, upOf, List.mem_cons] at hn hd ht ho
  have hsr : s.root ≠ u := fun e => by
   have h0 : s.root ≠ 0 := by rw [e]; exact hu
   exact hn.2.1 (e ▸ Tr.root_mem h0)
  cases side with
  | false =>
   obtain ⟨a, b, c, d⟩ := h
   refine ⟨a, ?_, c.congr fun i hi => ho i (.inr (.inl hi)) (fun e => hd.1.1 (e ▸ hi)), d.congr fun i hi => ho i (.inr (.inr hi)) (fun e => hd.1.2 (e ▸ hi))⟩
   rw [ht a]
   have e1 : sideN N h' u = 0 := by unfold sideN; rw [b]; exact if_neg hsr
   rw [e1, b]
   rfl
  | true =>
   obtain ⟨a, b, c, d⟩ := h
   refine ⟨a, ?_, c.congr fun i hi => ho i (.inr (.inl hi)) (fun e => hd.1.1 (e ▸ hi)), d.congr fun i hi => ho i (.inr (.inr hi)) (fun e => hd.1.2 (e ▸ hi))⟩
   rw [ht a]
   have e1 : sideN N h' u = 1 := by unfold sideN; rw [b]; exact if_pos rfl
   rw [e1, b]
   rfl
theorem upOf_mem {ps : List Fm} (h : upOf ps ≠ 0) : upOf ps ∈ ctx ps := by
 cases ps with
 | nil => exact absurd rfl h
 | cons f ps => simp [upOf, ctx]
theorem rot_left {N : Nodes} {it : Nat → Item} {a b c : Tr} {k u : Nat} {ps : List Fm} (h : TrAt N it 0 (plug (.node a k b) (⟨false, u, c⟩ :: ps))) (hd : ((a.list ++ k :: b.list) ++ (u :: (c.list ++ ctx ps))).Nodup)
  (hm : ∀ i ∈ (a.list ++ k :: b.list) ++ u :: c.list, May (it i)) (hl : ((a.list ++ k :: b.list) ++ u :: c.list).length ≤ 4096) : TrAt (turnN N k) it 0 (plug (.node a k (.node b u c)) ps) := by
 obtain ⟨⟨k0, ek, ha, hb⟩, u0, eu, hc, hp⟩ := (trAt_plug _ _).1 h
 simp only [upOf, Tr.root, Tr.list] at ek eu hp
 have za := ha.ne_zero
 have zb := hb.ne_zero
 have zc := hc.ne_zero
 have zp := hp.ne_zero
 have hd0 := hd
 simp only [List.nodup_append, List.nodup_cons, List.mem_append, List.mem_cons, not_or] at hd
 obtain ⟨⟨na, ⟨kb, nb⟩, dab⟩, ⟨⟨uc, up⟩, nc, np, dcp⟩, dX⟩ := hd
 have hku : k ≠ u := dX k (.inr (.inl rfl)) u (.inl rfl)
 have hkc : k ∉ c.list := fun e => dX k (.inr (.inl rfl)) k (.inr (.inl e)) rfl
 have hkp : k ∉ ctx ps := fun e => dX k (.inr (.inl rfl)) k (.inr (.inr e)) rfl
 have hua : u ∉ a.list := fun e => dX u (.inl e) u (.inl rfl) rfl
 have hub : u ∉ b.list := fun e => dX u (.inr (.inr e)) u (.inl rfl) rfl
 have hka : k ∉ a.list := fun e => dab k e k (.inl rfl) rfl
 have hbr : b.root ≠ 0 → b.root ∈ b.list := Tr.root_mem
 have hup : upOf ps ≠ 0 → upOf ps ∈ ctx ps := upOf_mem
 have hkt : k ≠ upOf ps := fun e => hkp (e ▸ hup (e ▸ k0))
 have hut : u ≠ upOf ps := fun e => up (e ▸ hup (e ▸ u0))
 have hkx : k ≠ b.root := fun e => kb (e ▸ hbr (e ▸ k0))
 have hux : u ≠ b.root := fun e => hub (e ▸ hbr (e ▸ u0))
 have htx : upOf ps ≠ b.root ∨ b.root = 0 := by
  by_cases h0 : b.root = 0
  ·exact .inr h0
  ·refine .inl fun e => ?_
   have h1 := hbr h0
   exact dX b.root (.inr (.inr h1)) b.root (.inr (.inr (e ▸ hup (by rw [e]; exact h0)))) rfl
 have hcr : c.root ≠ k := fun e => hkc (e ▸ Tr.root_mem (by rw [e]; exact k0))
 have es : sideN N u k = 0 := by unfold sideN; rw [eu]; exact if_neg hcr
 have et : turnN N k = pullN (pullN (hung N k u (upOf ps) b.root 0) u) k := turnN_eq N (by rw [ek]; rfl) (by rw [eu]; rfl) es (by rw [ek]; rfl)
 generalize hM : hung N k u (upOf ps) b.root 0 = M at et
 have Mk : M k = { (N k).setKid 1 u with up := upOf ps } := by rw [← hM]; exact hung_k hku hkt hkx u0
 have Mu : M u = { (N u).setKid 0 b.root with up := k } := by rw [← hM]; exact hung_u hku hut hux u0
 have Mx : b.root ≠ 0 → M b.root = { N b.root with up := u } := fun h0 => by rw [← hM]; exact hung_x hkx hux (htx.resolve_right h0) u0 h0
 have Mt : upOf ps ≠ 0 → M (upOf ps) = (N (upOf ps)).setKid (sideN N (upOf ps) u) k := fun h0 => by
  rw [← hM]
  by_cases hb0 : b.root = 0
  ·rw [hb0]; exact hung_top hkt hut h0 u0 h0
  ·exact hung_top hkt hut (htx.resolve_right hb0) u0 h0
 have Mo : ∀ i, i ≠ k → i ≠ u → (i ≠ b.root ∨ b.root = 0) → (i ≠ upOf ps ∨ upOf ps = 0) → M i = N i := fun i h1 h2 h3 h4 => by rw [← hM]; exact hung_ne h1 h2 h3 h4 u0
 have inX : ∀ i, i ∈ a.list ∨ i ∈ b.list ∨ i ∈ c.list → i ≠ upOf ps ∨ upOf ps = 0 := fun i hi => by
  by_cases h0 : upOf ps = 0
  ·exact .inr h0
  ·refine .inl fun e => ?_
   have h1 := hup h0
   rw [← e] at h1
   rcases hi with hi | hi | hi
   ·exact dX i (.inl hi) i (.inr (.inr h1)) rfl
   ·exact dX i (.inr (.inr hi)) i (.inr (.inr h1)) rfl
   ·exact dcp i hi i h1 rfl
 have offb : ∀ i, (i ∈ a.list ∨ i ∈ c.list ∨ i ∈ ctx ps) → i ≠ b.root ∨ b.root = 0 := fun i hi => by
  by_cases h0 : b.root = 0
  ·exact .inr h0
  ·refine .inl fun e => ?_
   have h1 := hbr h0
   rw [← e] at h1
   rcases hi with hi | hi | hi
   ·exact dab i hi i (.inr h1) rfl
   ·exact dX i (.inr (.inr h1)) i (.inr (.inl hi)) rfl
   ·exact dX i (.inr (.inr h1)) i (.inr (.inr hi)) rfl
 have Ma : ∀ i ∈ a.list, M i = N i := fun i hi => Mo i (fun e => hka (e ▸ hi)) (fun e => hua (e ▸ hi)) (offb i (.inl hi)) (inX i (.inl hi))
 have Mc : ∀ i ∈ c.list, M i = N i := fun i hi => Mo i (fun e => hkc (e ▸ hi)) (fun e => uc (e ▸ hi)) (offb i (.inr (.inl hi))) (inX i (.inr (.inr hi)))
 have Mb : ∀ i ∈ b.list, i ≠ b.root → M i = N i := fun i hi hne => Mo i (fun e => kb (e ▸ hi)) (fun e => hub (e ▸ hi)) (.inl hne) (inX i (.inr (.inl hi)))
 have hbM : TrAt M it u b := hb.hung nb Mx Mb
 have hcM : TrAt M it u c := hc.congr Mc
 have p1 : pullR M u = recOf it k b.root u c.root (b.list ++ u :: c.list) := by
  refine pullR_of hbM.below hcM.below (by rw [Mu, eu]; rfl) (by rw [Mu]) (by rw [Mu]; rfl) (by rw [Mu, eu]; rfl) (fun i hi => hm i ?_) ?_
  ·simp only [List.mem_append, List.mem_cons] at hi ⊢
   rcases hi with hi | hi | hi
   ·exact .inl (.inr (.inr hi))
   ·exact .inr (.inl hi)
   ·exact .inr (.inr hi)
  ·simp only [List.length_append, List.length_cons] at hl ⊢; omega
 have N5 : pullN M u = upd M u (recOf it k b.root u c.root (b.list ++ u :: c.list)) := by unfold pullN; rw [p1]
 rw [N5] at et
 have haM : TrAt (upd M u (recOf it k b.root u c.root (b.list ++ u :: c.list))) it k a := ha.congr fun i hi => by
  rw [upd_ne (i := i) _ _ (show i ≠ u from fun e => hua (e ▸ hi))]; exact Ma i hi
 have p2 : pullR (upd M u (recOf it k b.root u c.root (b.list ++ u :: c.list))) k = recOf it (upOf ps) a.root k u (a.list ++ k :: (b.list ++ u :: c.list)) := by
  have e5 : upd M u (recOf it k b.root u c.root (b.list ++ u :: c.list)) k = M k := upd_ne _ _ hku
  refine pullR_of haM.below ?_ (by rw [e5, Mk, ek]; rfl) (by rw [e5, Mk]) (by rw [e5, Mk, ek]; rfl) (by rw [e5, Mk]; rfl) (fun i hi => hm i ?_) ?_
  ·unfold belowN
   rw [if_neg u0, upd_same]
   rfl
  ·simp only [List.mem_append, List.mem_cons] at hi ⊢
   rcases hi with hi | hi | hi | hi | hi
   ·exact .inl (.inl hi)
   ·exact .inl (.inr (.inl hi))
   ·exact .inl (.inr (.inr hi))
   ·exact .inr (.inl hi)
   ·exact .inr (.inr hi)
  ·simp only [List.length_append, List.length_cons] at hl ⊢; omega
 have N6 : turnN N k = upd (upd M u (recOf it k b.root u c.root (b.list ++ u :: c.list))) k (recOf it (upOf ps) a.root k u (a.list ++ k :: (b.list ++ u :: c.list))) := by
  rw [et]; unfold pullN; rw [p2]
 have old : ∀ i, i ≠ k → i ≠ u → turnN N k i = M i := fun i h1 h2 => by rw [N6, upd_ne _ _ h1, upd_ne _ _ h2]
 refine (trAt_plug _ _).2 ⟨⟨k0, by rw [N6, upd_same]; rfl, ha.congr fun i hi => ?_, u0, ?_, ?_, ?_⟩, ?_⟩
 ·rw [old i (fun e => hka (e ▸ hi)) (fun e => hua (e ▸ hi))]; exact Ma i hi
 ·rw [N6, upd_ne _ _ (Ne.symm hku), upd_same]
 ·exact hbM.congr fun i hi => old i (fun e => kb (e ▸ hi)) (fun e => hub (e ▸ hi))
 ·exact hcM.congr fun i hi => old i (fun e => hkc (e ▸ hi)) (fun e => uc (e ▸ hi))
 ·simp only [Tr.root, Tr.list]
  have e : a.list ++ k :: (b.list ++ u :: c.list) = (a.list ++ k :: b.list) ++ u :: c.list := by simp
  rw [e]
  refine hp.swap u0 up np (fun h0 => ?_) (fun i hi hne => ?_)
  ·rw [old _ (Ne.symm hkt) (Ne.symm hut)]; exact Mt h0
  ·rw [old i (fun e => hkp (e ▸ hi)) (fun e => up (e ▸ hi))]
   exact Mo i (fun e => hkp (e ▸ hi)) (fun e => up (e ▸ hi)) (offb i (.inr (.inr hi))) (.inl hne)
theorem rot_right {N : Nodes} {it : Nat → Item} {a b c : Tr} {k u : Nat} {ps : List Fm} (h : TrAt N it 0 (plug (.node a k b) (⟨true, u, c⟩ :: ps))) (hd : ((a.list ++ k :: b.list) ++ (u :: (c.list ++ ctx ps))).Nodup)
  (hm : ∀ i ∈ (a.list ++ k :: b.list) ++ u :: c.list, May (it i)) (hl : ((a.list ++ k :: b.list) ++ u :: c.list).length ≤ 4096) : TrAt (turnN N k) it 0 (plug (.node (.node c u a) k b) ps) := by
 obtain ⟨⟨k0, ek, ha, hb⟩, u0, eu, hc, hp⟩ := (trAt_plug _ _).1 h
 simp only [upOf, Tr.root, Tr.list] at ek eu hp
 have za := ha.ne_zero
 have zb := hb.ne_zero
 have zc := hc.ne_zero
 have zp := hp.ne_zero
 have hd0 := hd
 simp only [List.nodup_append, List.nodup_cons, List.mem_append, List.mem_cons, not_or] at hd
 obtain ⟨⟨na, ⟨kb, nb⟩, dab⟩, ⟨⟨uc, up⟩, nc, np, dcp⟩, dX⟩ := hd
 have hku : k ≠ u := dX k (.inr (.inl rfl)) u (.inl rfl)
 have hkc : k ∉ c.list := fun e => dX k (.inr (.inl rfl)) k (.inr (.inl e)) rfl
 have hkp : k ∉ ctx ps := fun e => dX k (.inr (.inl rfl)) k (.inr (.inr e)) rfl
 have hua : u ∉ a.list := fun e => dX u (.inl e) u (.inl rfl) rfl
 have hub : u ∉ b.list := fun e => dX u (.inr (.inr e)) u (.inl rfl) rfl
 have hka : k ∉ a.list := fun e => dab k e k (.inl rfl) rfl
 have hbr : a.root ≠ 0 → a.root ∈ a.list := Tr.root_mem
 have hup : upOf ps ≠ 0 → upOf ps ∈ ctx ps := upOf_mem
 have hkt : k ≠ upOf ps := fun e => hkp (e ▸ hup (e ▸ k0))
 have hut : u ≠ upOf ps := fun e => up (e ▸ hup (e ▸ u0))
 have hkx : k ≠ a.root := fun e => hka (e ▸ hbr (e ▸ k0))
 have hux : u ≠ a.root := fun e => hua (e ▸ hbr (e ▸ u0))
 have htx : upOf ps ≠ a.root ∨ a.root = 0 := by
  by_cases h0 : a.root = 0
  ·exact .inr h0
  ·refine .inl fun e => ?_
   have h1 := hbr h0
   exact dX a.root (.inl h1) a.root (.inr (.inr (e ▸ hup (by rw [e]; exact h0)))) rfl
 have es : sideN N u k = 1 := by unfold sideN; rw [eu]; exact if_pos rfl
 have et : turnN N k = pullN (pullN (hung N k u (upOf ps) a.root 1) u) k := turnN_eq N (by rw [ek]; rfl) (by rw [eu]; rfl) es (by rw [ek]; rfl)
 generalize hM : hung N k u (upOf ps) a.root 1 = M at et
 have Mk : M k = { (N k).setKid 0 u with up := upOf ps } := by rw [← hM]; exact hung_k hku hkt hkx u0
 have Mu : M u = { (N u).setKid 1 a.root with up := k } := by rw [← hM]; exact hung_u hku hut hux u0
 have Mx : a.root ≠ 0 → M a.root = { N a.root with up := u } := fun h0 => by rw [← hM]; exact hung_x hkx hux (htx.resolve_right h0) u0 h0
 have Mt : upOf ps ≠ 0 → M (upOf ps) = (N (upOf ps)).setKid (sideN N (upOf ps) u) k := fun h0 => by
  rw [← hM]
  by_cases hb0 : a.root = 0
  ·rw [hb0]; exact hung_top hkt hut h0 u0 h0
  ·exact hung_top hkt hut (htx.resolve_right hb0) u0 h0
 have Mo : ∀ i, i ≠ k → i ≠ u → (i ≠ a.root ∨ a.root = 0) → (i ≠ upOf ps ∨ upOf ps = 0) → M i = N i := fun i h1 h2 h3 h4 => by rw [← hM]; exact hung_ne h1 h2 h3 h4 u0
 have inX : ∀ i, i ∈ a.list ∨ i ∈ b.list ∨ i ∈ c.list → i ≠ upOf ps ∨ upOf ps = 0 := fun i hi => by
  by_cases h0 : upOf ps = 0
  ·exact .inr h0
  ·refine .inl fun e => ?_
   have h1 := hup h0
   rw [← e] at h1
   rcases hi with hi | hi | hi
   ·exact dX i (.inl hi) i (.inr (.inr h1)) rfl
   ·exact dX i (.inr (.inr hi)) i (.inr (.inr h1)) rfl
   ·exact dcp i hi i h1 rfl
 have offb : ∀ i, (i ∈ b.list ∨ i ∈ c.list ∨ i ∈ ctx ps) → i ≠ a.root ∨ a.root = 0 := fun i hi => by
  by_cases h0 : a.root = 0
  ·exact .inr h0
  ·refine .inl fun e => ?_
   have h1 := hbr h0
   rw [← e] at h1
   rcases hi with hi | hi | hi
   ·exact dab i h1 i (.inr hi) rfl
   ·exact dX i (.inl h1) i (.inr (.inl hi)) rfl
   ·exact dX i (.inl h1) i (.inr (.inr hi)) rfl
 have Mb : ∀ i ∈ b.list, M i = N i := fun i hi => Mo i (fun e => kb (e ▸ hi)) (fun e => hub (e ▸ hi)) (offb i (.inl hi)) (inX i (.inr (.inl hi)))
 have Mc : ∀ i ∈ c.list, M i = N i := fun i hi => Mo i (fun e => hkc (e ▸ hi)) (fun e => uc (e ▸ hi)) (offb i (.inr (.inl hi))) (inX i (.inr (.inr hi)))
 have Ma : ∀ i ∈ a.list, i ≠ a.root → M i = N i := fun i hi hne => Mo i (fun e => hka (e ▸ hi)) (fun e => hua (e ▸ hi)) (.inl hne) (inX i (.inl hi))
 have haM : TrAt M it u a := ha.hung na Mx Ma
 have hcM : TrAt M it u c := hc.congr Mc
 have p1 : pullR M u = recOf it k c.root u a.root (c.list ++ u :: a.list) := by
  refine pullR_of hcM.below haM.below (by rw [Mu, eu]; rfl) (by rw [Mu]) (by rw [Mu, eu]; rfl) (by rw [Mu]; rfl) (fun i hi => hm i ?_) ?_
  ·simp only [List.mem_append, List.mem_cons] at hi ⊢
   rcases hi with hi | hi | hi
   ·exact .inr (.inr hi)
   ·exact .inr (.inl hi)
   ·exact .inl (.inl hi)
  ·simp only [List.length_append, List.length_cons] at hl ⊢; omega
 have N5 : pullN M u = upd M u (recOf it k c.root u a.root (c.list ++ u :: a.list)) := by unfold pullN; rw [p1]
 rw [N5] at et
 have hbM : TrAt (upd M u (recOf it k c.root u a.root (c.list ++ u :: a.list))) it k b := hb.congr fun i hi => by
  rw [upd_ne (i := i) _ _ (show i ≠ u from fun e => hub (e ▸ hi))]; exact Mb i hi
 have p2 : pullR (upd M u (recOf it k c.root u a.root (c.list ++ u :: a.list))) k = recOf it (upOf ps) u k b.root ((c.list ++ u :: a.list) ++ k :: b.list) := by
  have e5 : upd M u (recOf it k c.root u a.root (c.list ++ u :: a.list)) k = M k := upd_ne _ _ hku
  refine pullR_of (xs := c.list ++ u :: a.list) ?_ hbM.below (by rw [e5, Mk, ek]; rfl) (by rw [e5, Mk]) (by rw [e5, Mk]; rfl) (by rw [e5, Mk, ek]; rfl) (fun i hi => hm i ?_) ?_
  ·unfold belowN
   rw [if_neg u0, upd_same]
   rfl
  ·simp only [List.mem_append, List.mem_cons] at hi ⊢
   rcases hi with (hi | hi | hi) | hi | hi
   ·exact .inr (.inr hi)
   ·exact .inr (.inl hi)
   ·exact .inl (.inl hi)
   ·exact .inl (.inr (.inl hi))
   ·exact .inl (.inr (.inr hi))
  ·simp only [List.length_append, List.length_cons] at hl ⊢; omega
 have N6 : turnN N k = upd (upd M u (recOf it k c.root u a.root (c.list ++ u :: a.list))) k (recOf it (upOf ps) u k b.root ((c.list ++ u :: a.list) ++ k :: b.list)) := by
  rw [et]; unfold pullN; rw [p2]
 have old : ∀ i, i ≠ k → i ≠ u → turnN N k i = M i := fun i h1 h2 => by rw [N6, upd_ne _ _ h1, upd_ne _ _ h2]
 refine (trAt_plug _ _).2 ⟨⟨k0, by rw [N6, upd_same]; rfl, ⟨u0, ?_, ?_, ?_⟩, hb.congr fun i hi => ?_⟩, ?_⟩
 ·rw [N6, upd_ne _ _ (Ne.symm hku), upd_same]
 ·exact hcM.congr fun i hi => old i (fun e => hkc (e ▸ hi)) (fun e => uc (e ▸ hi))
 ·exact haM.congr fun i hi => old i (fun e => hka (e ▸ hi)) (fun e => hua (e ▸ hi))
 ·rw [old i (fun e => kb (e ▸ hi)) (fun e => hub (e ▸ hi))]; exact Mb i hi
 ·simp only [Tr.root, Tr.list]
  have e : (c.list ++ u :: a.list) ++ k :: b.list = c.list ++ u :: (a.list ++ k :: b.list) := by simp
  rw [e]
  refine hp.swap u0 up np (fun h0 => ?_) (fun i hi hne => ?_)
  ·rw [old _ (Ne.symm hkt) (Ne.symm hut)]; exact Mt h0
  ·rw [old i (fun e => hkp (e ▸ hi)) (fun e => up (e ▸ hi))]
   exact Mo i (fun e => hkp (e ▸ hi)) (fun e => up (e ▸ hi)) (offb i (.inr (.inr hi))) (.inl hne)
end Go.Sp
namespace Go.Sp
open Go Go.Hp
set_option linter.unusedVariables false
set_option linter.unusedSimpArgs false

structure Row (it : Nat → Item) (xs : List Nat) : Prop where
 nd : xs.Nodup
 may : ∀ i ∈ xs, May (it i)
 len : xs.length ≤ 4096
theorem plug_list : ∀ (ps : List Fm) {t t' : Tr}, t.list = t'.list → (plug t ps).list = (plug t' ps).list
 | [], _, _, h => h
 | ⟨false, h, s⟩ :: ps, t, t', e => plug_list ps (t := .node t h s) (t' := .node t' h s) (by simp [Tr.list, e])
 | ⟨true, h, s⟩ :: ps, t, t', e => plug_list ps (t := .node s h t) (t' := .node s h t') (by simp [Tr.list, e])
section
variable {N : Nodes} {it : Nat → Item} {a b c : Tr} {k u : Nat} {ps : List Fm} {xs : List Nat}
theorem turn_left (h : TrAt N it 0 (plug (.node a k b) (⟨false, u, c⟩ :: ps))) (e : (plug (.node a k b) (⟨false, u, c⟩ :: ps)).list = xs) (r : Row it xs) :
  TrAt (turnN N k) it 0 (plug (.node a k (.node b u c)) ps) ∧ (plug (.node a k (.node b u c)) ps).list = xs := by
 have hp := plug_perm (⟨false, u, c⟩ :: ps) (.node a k b)
 rw [e] at hp
 simp only [Tr.list, ctx] at hp
 refine ⟨rot_left h ((hp.nodup_iff).1 r.nd) (fun i hi => r.may i (hp.mem_iff.2 ?_)) ?_, ?_⟩
 ·simp only [List.mem_append, List.mem_cons] at hi ⊢
  rcases hi with hi | hi | hi
  ·exact .inl hi
  ·exact .inr (.inl hi)
  ·exact .inr (.inr (.inl hi))
 ·have := hp.length_eq
  have := r.len
  simp only [List.length_append, List.length_cons] at this ⊢
  simp only [List.length_append, List.length_cons] at *
  omega
 ·rw [← e]
  exact plug_list ps (by simp [Tr.list])
theorem turn_right (h : TrAt N it 0 (plug (.node a k b) (⟨true, u, c⟩ :: ps))) (e : (plug (.node a k b) (⟨true, u, c⟩ :: ps)).list = xs) (r : Row it xs) :
  TrAt (turnN N k) it 0 (plug (.node (.node c u a) k b) ps) ∧ (plug (.node (.node c u a) k b) ps).list = xs := by
 have hp := plug_perm (⟨true, u, c⟩ :: ps) (.node a k b)
 rw [e] at hp
 simp only [Tr.list, ctx] at hp
 refine ⟨rot_right h ((hp.nodup_iff).1 r.nd) (fun i hi => r.may i (hp.mem_iff.2 ?_)) ?_, ?_⟩
 ·simp only [List.mem_append, List.mem_cons] at hi ⊢
  rcases hi with hi | hi | hi
  ·exact .inl hi
  ·exact .inr (.inl hi)
  ·exact .inr (.inr (.inl hi))
 ·have := hp.length_eq
  have := r.len
  simp only [List.length_append, List.length_cons] at *
  omega
 ·rw [← e]
  exact plug_list ps (by simp [Tr.list])
theorem up_of (h : TrAt N it 0 (plug (.node a k b) ps)) : (N k).up = upOf ps ∧ k ≠ 0 := by
 obtain ⟨⟨k0, ek, _⟩, _⟩ := (trAt_plug _ _).1 h
 exact ⟨by rw [ek]; rfl, k0⟩
theorem side_left (h : TrAt N it 0 (plug (.node a k b) (⟨false, u, c⟩ :: ps))) (e : (plug (.node a k b) (⟨false, u, c⟩ :: ps)).list = xs) (r : Row it xs) : sideN N u k = 0 := by
 obtain ⟨⟨k0, ek, _⟩, u0, eu, hc, hp⟩ := (trAt_plug _ _).1 h
 have hp := plug_perm (⟨false, u, c⟩ :: ps) (.node a k b)
 rw [e] at hp
 have hd := (hp.nodup_iff).1 r.nd
 simp only [Tr.list, ctx, List.nodup_append, List.nodup_cons, List.mem_append, List.mem_cons, not_or] at hd
 obtain ⟨_, _, dX⟩ := hd
 unfold sideN
 rw [eu]
 refine if_neg fun e => ?_
 have e' : c.root = k := e
 exact dX k (.inr (.inl rfl)) k (.inr (.inl (by have := Tr.root_mem (t := c) (by rw [e']; exact k0); rwa [e'] at this))) rfl
theorem side_right (h : TrAt N it 0 (plug (.node a k b) (⟨true, u, c⟩ :: ps))) : sideN N u k = 1 := by
 obtain ⟨⟨k0, ek, _⟩, u0, eu, hc, hp⟩ := (trAt_plug _ _).1 h
 unfold sideN
 rw [eu]
 exact if_pos rfl
end
theorem turnN_ne {N : Nodes} {k i : Nat} (h1 : i ≠ k) (h2 : i ≠ (N k).up) (h3 : ∀ s, i ≠ (N k).kid s ∨ (N k).kid s = 0) (h4 : i ≠ (N (N k).up).up ∨ (N (N k).up).up = 0) (hu : (N k).up ≠ 0) : turnN N k i = N i := by
 rw [turnN_eq N rfl rfl rfl rfl]
 unfold pullN
 rw [upd_ne _ _ h1, upd_ne _ _ h2]
 exact hung_ne h1 h2 (h3 _) h4 hu
theorem turn_off {N : Nodes} {it : Nat → Item} {a b : Tr} {k : Nat} {f : Fm} {ps : List Fm} {xs : List Nat} (h : TrAt N it 0 (plug (.node a k b) (f :: ps))) (e : (plug (.node a k b) (f :: ps)).list = xs) {i : Nat} (hi : i ∉ xs) : turnN N k i = N i := by
 have hp := plug_perm (f :: ps) (.node a k b)
 rw [e] at hp
 have hm : ∀ j, j ∈ a.list ∨ j = k ∨ j ∈ b.list ∨ j ∈ ctx (f :: ps) → j ∈ xs := fun j hj => hp.mem_iff.2 (by
  simp only [Tr.list, List.mem_append, List.mem_cons]
  rcases hj with hj | hj | hj | hj
  ·exact .inl (.inl hj)
  ·exact .inl (.inr (.inl hj))
  ·exact .inl (.inr (.inr hj))
  ·exact .inr hj)
 obtain ⟨hu, k0⟩ := up_of h
 obtain ⟨⟨_, ek, _⟩, hpath⟩ := (trAt_plug _ _).1 h
 have hf : f.h ∈ ctx (f :: ps) := by cases f; simp [ctx]
 have hu' : (N k).up = f.h := hu
 have u0 : f.h ≠ 0 := fun e0 => hpath.ne_zero (e0 ▸ hf)
 have eu : (N f.h).up = upOf ps := by
  obtain ⟨side, u, c⟩ := f
  cases side
  ·obtain ⟨_, eu, _⟩ := hpath; exact congrArg Rec.up eu
  ·obtain ⟨_, eu, _⟩ := hpath; exact congrArg Rec.up eu
 refine turnN_ne (fun e => hi (hm i (.inr (.inl e)))) (fun e => hi (hm i (.inr (.inr (.inr (by rw [e, hu']; exact hf)))))) (fun s => ?_) ?_ (by rw [hu']; exact u0)
 ·by_cases h0 : (N k).kid s = 0
  ·exact .inr h0
  ·refine .inl fun e => hi (hm i ?_)
   rw [ek] at h0 e
   unfold Rec.kid at h0 e
   by_cases hs : s = 0
   ·rw [if_pos hs] at h0 e
    exact .inl (by rw [e]; exact Tr.root_mem h0)
   ·rw [if_neg hs] at h0 e
    exact .inr (.inr (.inl (by rw [e]; exact Tr.root_mem h0)))
 ·rw [hu', eu]
  by_cases h0 : upOf ps = 0
  ·exact .inr h0
  ·refine .inl fun e => hi (hm i (.inr (.inr (.inr ?_))))
   have := upOf_mem h0
   rw [← e] at this
   obtain ⟨side, u, c⟩ := f
   simp only [ctx, List.mem_cons, List.mem_append]
   exact .inr (.inr this)
structure Below (it : Nat → Item) (k : Nat) (xs : List Nat) (N0 : Nodes) (m : Nat) (N : Nodes) : Prop where
 tree : ∃ (a b : Tr) (ps : List Fm), ps.length = m ∧ TrAt N it 0 (plug (.node a k b) ps) ∧ (plug (.node a k b) ps).list = xs
 off : ∀ i, i ∉ xs → N i = N0 i
theorem below_step {it : Nat → Item} {k : Nat} {xs : List Nat} {N0 : Nodes} (r : Row it xs) (m : Nat) (N : Nodes) (h : Below it k xs N0 m N) : (N k).up = 0 ∨ (stepOk N k ∧ ∃ m', m' < m ∧ Below it k xs N0 m' (stepN N k)) := by
 obtain ⟨⟨a, b, ps, rfl, ht, e⟩, hoff⟩ := h
 obtain ⟨hu, k0⟩ := up_of ht
 cases ps with
 | nil => exact .inl hu
 | cons f1 ps =>
  right
  have hup : (N k).up = f1.h := hu
  obtain ⟨⟨_, ek, _⟩, hpath⟩ := (trAt_plug _ _).1 ht
  have hf : f1.h ∈ ctx (f1 :: ps) := by cases f1; simp [ctx]
  have u0 : f1.h ≠ 0 := fun e0 => hpath.ne_zero (e0 ▸ hf)
  have eu : (N f1.h).up = upOf ps := by
   obtain ⟨side, u, c⟩ := f1
   cases side
   ·obtain ⟨_, eu, _⟩ := hpath; exact congrArg Rec.up eu
   ·obtain ⟨_, eu, _⟩ := hpath; exact congrArg Rec.up eu
  have off1 : ∀ i, i ∉ xs → turnN N k i = N0 i := fun i hi => by rw [turn_off ht e hi]; exact hoff i hi
  cases ps with
  | nil =>
   have ht0 : (N (N k).up).up = 0 := by rw [hup, eu]; rfl
   refine ⟨⟨by rw [hup]; exact u0, fun h => absurd ht0 h⟩, 0, by simp, ?_⟩
   have es : stepN N k = turnN N k := if_pos ht0
   rw [es]
   obtain ⟨side, u, c⟩ := f1
   cases side
   ·obtain ⟨h1, h2⟩ := turn_left ht e r
    exact ⟨⟨_, _, [], rfl, h1, h2⟩, off1⟩
   ·obtain ⟨h1, h2⟩ := turn_right ht e r
    exact ⟨⟨_, _, [], rfl, h1, h2⟩, off1⟩
  | cons f2 ps =>
   have ht0 : (N (N k).up).up = f2.h := by rw [hup, eu]; rfl
   have hf2 : f2.h ∈ ctx (f1 :: f2 :: ps) := by cases f1; cases f2; simp [ctx]
   have t0 : f2.h ≠ 0 := fun e0 => hpath.ne_zero (e0 ▸ hf2)
   have es : stepN N k = turnN (first N k) k := by
    unfold stepN first
    rw [if_neg (by rw [ht0]; exact t0)]
    split <;> rfl
   rw [es]
   have sides : sideN N (N (N k).up).up (N k).up = sideN N f2.h f1.h ∧ sideN N (N k).up k = sideN N f1.h k := by rw [ht0, hup]; exact ⟨rfl, rfl⟩
   have fin : ∀ (a' b' : Tr) (f : Fm), TrAt (first N k) it 0 (plug (.node a' k b') (f :: ps)) → (plug (.node a' k b') (f :: ps)).list = xs → (∀ i, i ∉ xs → first N k i = N0 i) →
     stepOk N k ∧ ∃ m', m' < (f1 :: f2 :: ps).length ∧ Below it k xs N0 m' (turnN (first N k) k) := by
    intro a' b' f h1 h2 h3
    obtain ⟨hu1, _⟩ := up_of h1
    obtain ⟨_, hpath1⟩ := (trAt_plug _ _).1 h1
    have hf1 : f.h ∈ ctx (f :: ps) := by cases f; simp [ctx]
    have f0 : f.h ≠ 0 := fun e0 => hpath1.ne_zero (e0 ▸ hf1)
    refine ⟨⟨by rw [hup]; exact u0, fun _ => by rw [hu1]; exact f0⟩, ps.length, by simp; omega, ?_⟩
    have off2 : ∀ i, i ∉ xs → turnN (first N k) k i = N0 i := fun i hi => by rw [turn_off h1 h2 hi]; exact h3 i hi
    obtain ⟨side, u, c⟩ := f
    cases side
    ·obtain ⟨h4, h5⟩ := turn_left h1 h2 r
     exact ⟨⟨_, _, ps, rfl, h4, h5⟩, off2⟩
    ·obtain ⟨h4, h5⟩ := turn_right h1 h2 r
     exact ⟨⟨_, _, ps, rfl, h4, h5⟩, off2⟩
   obtain ⟨sd1, u, c⟩ := f1
   obtain ⟨sd2, t, d⟩ := f2
   simp only [] at sides ht0 hup
   cases sd1 <;> cases sd2
   ·-- left, left
    have ht' : TrAt N it 0 (plug (.node (.node a k b) u c) (⟨false, t, d⟩ :: ps)) := ht
    have s1 := side_left ht e r
    have s2 := side_left ht' e r
    have ef : first N k = turnN N u := by unfold first; rw [sides.1, sides.2, s1, s2, if_pos rfl, hup]
    obtain ⟨h1, h2⟩ := turn_left ht' e r
    rw [← ef] at h1
    exact fin a b ⟨false, u, .node c t d⟩ h1 h2 (fun i hi => by rw [ef, turn_off ht' e hi]; exact hoff i hi)
   ·-- k left, u right
    have ht' : TrAt N it 0 (plug (.node (.node a k b) u c) (⟨true, t, d⟩ :: ps)) := ht
    have s1 := side_left ht e r
    have s2 := side_right ht'
    have ef : first N k = turnN N k := by unfold first; rw [sides.1, sides.2, s1, s2, if_neg (by omega)]
    obtain ⟨h1, h2⟩ := turn_left ht e r
    rw [← ef] at h1
    exact fin _ _ _ h1 h2 (fun i hi => by rw [ef]; exact off1 i hi)
   ·-- k right, u left
    have ht' : TrAt N it 0 (plug (.node c u (.node a k b)) (⟨false, t, d⟩ :: ps)) := ht
    have s1 := side_right ht
    have s2 := side_left ht' e r
    have ef : first N k = turnN N k := by unfold first; rw [sides.1, sides.2, s1, s2, if_neg (by omega)]
    obtain ⟨h1, h2⟩ := turn_right ht e r
    rw [← ef] at h1
    exact fin _ _ _ h1 h2 (fun i hi => by rw [ef]; exact off1 i hi)
   ·-- right, right
    have ht' : TrAt N it 0 (plug (.node c u (.node a k b)) (⟨true, t, d⟩ :: ps)) := ht
    have s1 := side_right ht
    have s2 := side_right ht'
    have ef : first N k = turnN N u := by unfold first; rw [sides.1, sides.2, s1, s2, if_pos rfl, hup]
    obtain ⟨h1, h2⟩ := turn_right ht' e r
    rw [← ef] at h1
    exact fin a b ⟨true, u, .node d t c⟩ h1 h2 (fun i hi => by rw [ef, turn_off ht' e hi]; exact hoff i hi)
end Go.Sp
namespace Go.Sp
open Go Go.Hp
set_option linter.unusedVariables false

structure Fo where
 it : Nat → Item
 rows : List (List Nat)
theorem find_path {k : Nat} : ∀ {t : Tr}, k ∈ t.list → ∃ (a b : Tr) (ps : List Fm), plug (.node a k b) ps = t
 | .nil, h => by simp [Tr.list] at h
 | .node l h r, hk => by
  have app : ∀ (ps qs : List Fm) (t : Tr), plug t (ps ++ qs) = plug (plug t ps) qs := by
   intro ps
   induction ps with
   | nil => intro qs t; rfl
   | cons f ps ih =>
    intro qs t
    obtain ⟨side, u, c⟩ := f
    cases side
    ·exact ih qs _
    ·exact ih qs _
  simp only [Tr.list, List.mem_append, List.mem_cons] at hk
  rcases hk with hk | rfl | hk
  ·obtain ⟨a, b, ps, e⟩ := find_path hk
   exact ⟨a, b, ps ++ [⟨false, h, r⟩], by rw [app, e]; rfl⟩
  ·exact ⟨l, r, [], rfl⟩
  ·obtain ⟨a, b, ps, e⟩ := find_path hk
   exact ⟨a, b, ps ++ [⟨true, h, l⟩], by rw [app, e]; rfl⟩
end Go.Sp
namespace Go.Proofs.Ytndkbhlfbeiniaa
open Go Go.Hp Go.Sp
set_option linter.all false
set_option maxRecDepth 100000
set_option maxHeartbeats 1600000

structure FoAt (H : Heap) (f p g : Nat) (A : Ar) (nb : Nat → Nat) (N : Nodes) (S : Fo) : Prop where
 mem : FAt H f p g A nb N
 trees : ∀ xs ∈ S.rows, ∃ t, TrAt N S.it 0 t ∧ t.list = xs
 nodup : S.rows.flatten.Nodup
 use : ∀ h, h ∈ S.rows.flatten ↔ U A h
 may : ∀ h, U A h → May (S.it h)
section
variable {H H' : Heap} {f p g : Nat} {A : Ar} {nb : Nat → Nat} {N : Nodes} {S : Fo} {xs : List Nat} {k : Nat}
theorem FoAt.grow (h : FoAt H f p g A nb N S) (hf : Fr (fun _ => False) H H') : FoAt H' f p g A nb N S := ⟨h.mem.grow hf, h.trees, h.nodup, h.use, h.may⟩
theorem FoAt.len (h : FoAt H f p g A nb N S) : S.rows.flatten.length ≤ 4096 := by
 have hp : S.rows.flatten.Perm A.handles := by
  unfold Ar.handles
  rw [List.perm_ext_iff_of_nodup h.nodup (List.nodup_range.filter _)]
  intro i
  rw [h.use i]
  simp only [List.mem_filter, List.mem_range]
  refine ⟨fun hu => ?_, fun hu => hu.2⟩
  obtain ⟨v, hv⟩ := Option.isSome_iff_exists.1 hu
  exact ⟨Ar.get_some_lt hv, hu⟩
 have hm : A.many = A.handles.length := by
  have e : A.vals = (List.range A.vals.length).map A.get := by
   apply List.ext_getElem?
   intro i
   rcases Nat.lt_or_ge i A.vals.length with h' | h'
   ·rw [Ar.get_eq h']; simp [h']
   ·rw [List.getElem?_eq_none h', List.getElem?_eq_none (by simpa using h')]
  unfold Ar.many Ar.handles
  conv => lhs; rw [e]
  rw [List.filter_map, List.length_map]
  rfl
 rw [hp.length_eq, ← hm]
 exact Nat.le_trans h.mem.ar.ok.most h.mem.ar.ok.room
theorem FoAt.row (h : FoAt H f p g A nb N S) (hx : xs ∈ S.rows) : Row S.it xs where
 nd := (List.sublist_flatten_of_mem hx).nodup h.nodup
 may := fun i hi => h.may i ((h.use i).1 (List.mem_flatten.2 ⟨xs, hx, hi⟩))
 len := Nat.le_trans (List.sublist_flatten_of_mem hx).length_le h.len
theorem splay_row {K : Value → Heap → Prop} (hF : FoAt H f p g A nb N S) (hx : xs ∈ S.rows) (hk : k ∈ xs)
  (hd : ∀ ys ∈ S.rows, ys = xs ∨ ∀ i ∈ ys, i ∉ xs)
  (fin : ∀ H' N' a b, FoAt H' f p g A nb N' S → TrAt N' S.it 0 (.node a k b) → a.list ++ k :: b.list = xs → Fr (NB A nb) H H' → (∀ i, i ∉ xs → N' i = N i) → K (.tuple #[]) H') :
  CallsH Try.prog 40 #[.pointer (some ⟨f, 0, none⟩), .int .i64 k] H K := by
 obtain ⟨t, ht, e⟩ := hF.trees xs hx
 obtain ⟨a, b, ps, ep⟩ := find_path (t := t) (k := k) (by rw [e]; exact hk)
 have hU : U A k := (hF.use k).1 (List.mem_flatten.2 ⟨xs, hx, hk⟩)
 have hr := hF.row hx
 refine splay_ok (P := Below S.it k xs N) (m := ps.length) hF.mem hU ⟨⟨a, b, ps, rfl, by rw [ep]; exact ht, by rw [ep]; exact e⟩, fun _ _ => rfl⟩ (below_step hr) ?_
 rintro H' N' m' hF' ⟨⟨a', b', ps', rfl, ht', e'⟩, hoff⟩ hz hf
 have hup := (up_of ht').1
 have hps : ps' = [] := by
  cases ps' with
  | nil => rfl
  | cons fm ps' =>
   obtain ⟨_, hpath⟩ := (trAt_plug _ _).1 ht'
   have hf1 : fm.h ∈ ctx (fm :: ps') := by cases fm; simp [ctx]
   rw [hz] at hup
   exact absurd hf1 (by rw [show fm.h = 0 from hup.symm]; exact hpath.ne_zero)
 subst hps
 refine fin H' N' a' b' ⟨hF', fun ys hy => ?_, hF.nodup, hF.use, hF.may⟩ ht' e' hf hoff
 rcases hd ys hy with rfl | hdis
 ·exact ⟨_, ht', e'⟩
 ·obtain ⟨t2, h1, h2⟩ := hF.trees ys hy
  exact ⟨t2, h1.congr fun i hi => hoff i (hdis i (by rw [← h2]; exact hi)), h2⟩
end
end Go.Proofs.Ytndkbhlfbeiniaa
namespace Go.Proofs.Ytndkbhlfbeiniaa
open Go Go.Hp Go.Sp
set_option linter.all false
set_option maxRecDepth 100000
set_option maxHeartbeats 1600000

theorem rows_apart {α : Type} : ∀ {l : List (List α)}, l.flatten.Nodup → ∀ {xs ys : List α}, xs ∈ l → ys ∈ l → ys = xs ∨ ∀ i ∈ ys, i ∉ xs
 | [], _, _, _, h, _ => by cases h
 | z :: l, hn, xs, ys, hx, hy => by
  rw [List.flatten_cons, List.nodup_append] at hn
  obtain ⟨h1, h2, h3⟩ := hn
  rcases List.mem_cons.1 hx with ex | hx'
  ·rcases List.mem_cons.1 hy with ey | hy'
   ·exact .inl (ey.trans ex.symm)
   ·exact .inr fun i hi hi' => h3 i (ex ▸ hi') i (List.mem_flatten.2 ⟨ys, hy', hi⟩) rfl
  ·rcases List.mem_cons.1 hy with ey | hy'
   ·exact .inr fun i hi hi' => h3 i (ey ▸ hi) i (List.mem_flatten.2 ⟨xs, hx', hi'⟩) rfl
   ·exact rows_apart h2 hx' hy'
section
variable {H H' : Heap} {f p g : Nat} {A : Ar} {nb : Nat → Nat} {N : Nodes} {S : Fo} {xs : List Nat} {k : Nat}
theorem FoAt.apart (h : FoAt H f p g A nb N S) (hx : xs ∈ S.rows) : ∀ ys ∈ S.rows, ys = xs ∨ ∀ i ∈ ys, i ∉ xs := fun ys hy => rows_apart h.nodup hx hy
theorem FoAt.u (h : FoAt H f p g A nb N S) (hx : xs ∈ S.rows) (hk : k ∈ xs) : U A k := (h.use k).1 (List.mem_flatten.2 ⟨xs, hx, hk⟩)
def Foot (f p g : Nat) (A : Ar) (nb : Nat → Nat) (b : Nat) : Prop := b = f ∨ b = p ∨ b = g ∨ NB A nb b
theorem FAt.frame {T : Nat → Prop} (h : FAt H f p g A nb N) (hf : Fr T H H') (hT : ∀ b, Foot f p g A nb b → ¬ T b) : FAt H' f p g A nb N :=
 ⟨h.ff.frame hf (hT _ (.inl rfl)), h.ar.frame hf (hT _ (.inr (.inl rfl))) (hT _ (.inr (.inr (.inl rfl)))), h.use, fun k hk => (h.nd k hk).frame hf (hT _ (.inr (.inr (.inr ⟨k, hk, rfl⟩)))), h.inj, h.dis, h.fp, h.cl⟩
theorem FAt.lt (h : FAt H f p g A nb N) {b : Nat} (hb : Foot f p g A nb b) : b < H.size := by
 obtain ⟨c, rest, b1, b2, _⟩ := h.ar.at_
 rcases hb with rfl | rfl | rfl | ⟨k, hk, rfl⟩
 ·exact h.ff.lt
 ·exact b1.lt
 ·exact b2.lt
 ·exact (h.nd k hk).lt
theorem FoAt.frame {T : Nat → Prop} (h : FoAt H f p g A nb N S) (hf : Fr T H H') (hT : ∀ b, Foot f p g A nb b → ¬ T b) : FoAt H' f p g A nb N S := ⟨h.mem.frame hf hT, h.trees, h.nodup, h.use, h.may⟩
theorem sum_ok {K : Value → Heap → Prop} (hF : FoAt H f p g A nb N S) (hx : xs ∈ S.rows) (hk : k ∈ xs)
  (fin : ∀ H' N', FoAt H' f p g A nb N' S → Fr (NB A nb) H H' → K (.tuple #[(aggOf S.it xs).val, .int .i64 0]) H') :
  CallsH Try.prog 20 #[.pointer (some ⟨f, 0, none⟩), .int .i64 k] H K := by
 have hU := hF.u hx hk
 have hlt := (hF.mem.nd k hU).lt
 have hF1 := hF.grow (H' := H.push (.cells #[.int .i64 0, .int .i64 0, .int .i64 0, .int .i64 0, .int .i64 0] 42)) ((Fr.refl _ _).push _)
 have hc1 : Cells [(H.size, 0, .int .i64 0), (H.size, 1, .int .i64 0), (H.size, 2, .int .i64 0), (H.size, 3, .int .i64 0), (H.size, 4, .int .i64 0)] (H.push (.cells #[.int .i64 0, .int .i64 0, .int .i64 0, .int .i64 0, .int .i64 0] 42)) := by
  simp only [go_sem, Nat.reduceEqDiff, Nat.reduceAdd, Nat.reduceMul, Nat.reduceLeDiff, Nat.reduceLT, Int.reduceLT, Int.reduceLE, Int.reduceEq, Int.reduceNeg, Int.reduceToNat, Nat.reducePow, reduceIte, reduceCtorEq, Cells, and_true, hcell_push, hcell_top, okW_push, okW_top, hcell_hset_ne, hcell_hset_off, hcell_hset_eq, okW_hset, hset_size, Array.size_push, Nat.lt_add_one, ne_add_one, add_one_ne, Nat.add_assoc, add_same, add_lt_same, Nat.reduceEqDiff, lt_add_k, add_k_ne, ne_add_k]
 have hblk := Blk.new H [.int .i64 0, .int .i64 0, .int .i64 0, .int .i64 0, .int .i64 0] 42
 refine call20 (by simp) ?_
 simp only [Try.f20, Option.getD_some]
 repeat' (first|(with_reducible first|refine jA ?_|(refine hK _ _ ?_;clear hK K)|refine jJ fun K hK=>?_|refine jK ?_|refine jL ?_|refine jM ?_|refine jN ?_|refine jO ?_|refine jP ?_|refine jQ ?_|(refine jB ?_;clear hK K)|(refine jC ?_;clear hK K)|refine jD ?_|refine jE ?_|refine jG ?_|refine jH ?_|refine jI ?_)|((with_reducible refine jR ?hq ?_);case hq=>rfl)|((first|(with_reducible first|refine jS fun K hK=>?_|refine jT ?_|refine jU ?_)|((with_reducible refine jV ?hy fun K hK=>?_);case hy=>rfl));simp only [go_sem, Nat.reduceEqDiff, Nat.reduceAdd, Nat.reduceMul, Nat.reduceLeDiff, Nat.reduceLT, Int.reduceLT, Int.reduceLE, Int.reduceEq, Int.reduceNeg, Int.reduceToNat, Nat.reducePow, reduceIte, reduceCtorEq])|((with_reducible first|refine jW ?hy ?_|refine jY ?hy ?_);case hy=>rfl)|((with_reducible first|refine jX ?hy ?_|refine jZ ?hy ?_);case hy=>rfl)|((with_reducible refine jF ?hy ?_);case hy=>decide))
 refine node_ok hF1.mem hU ?_
 repeat' (first|(with_reducible first|refine jA ?_|(refine hK _ _ ?_;clear hK K)|refine jJ fun K hK=>?_|refine jK ?_|refine jL ?_|refine jM ?_|refine jN ?_|refine jO ?_|refine jP ?_|refine jQ ?_|(refine jB ?_;clear hK K)|(refine jC ?_;clear hK K)|refine jD ?_|refine jE ?_|refine jG ?_|refine jH ?_|refine jI ?_)|((with_reducible refine jR ?hq ?_);case hq=>rfl)|((first|(with_reducible first|refine jS fun K hK=>?_|refine jT ?_|refine jU ?_)|((with_reducible refine jV ?hy fun K hK=>?_);case hy=>rfl));simp only [go_sem, Nat.reduceEqDiff, Nat.reduceAdd, Nat.reduceMul, Nat.reduceLeDiff, Nat.reduceLT, Int.reduceLT, Int.reduceLE, Int.reduceEq, Int.reduceNeg, Int.reduceToNat, Nat.reducePow, reduceIte, reduceCtorEq])|((with_reducible first|refine jW ?hy ?_|refine jY ?hy ?_);case hy=>rfl)|((with_reducible first|refine jX ?hy ?_|refine jZ ?hy ?_);case hy=>rfl)|((with_reducible refine jF ?hy ?_);case hy=>decide))
 refine splay_row hF1 hx hk (hF.apart hx) ?_
 intro H2 N2 a b hF2 ht e hf hoff
 have hn := hF2.mem.nd k hU
 have hne : ¬ H.size = nb k := by omega
 have hne' : ¬ nb k = H.size := by omega
 have hnb : ¬ NB A nb H.size := by
  rintro ⟨j, hj, ej⟩
  have := (hF.mem.nd j hj).lt
  omega
 have hb2 := hblk.frame hf hnb
 have w0 := hb2.okW (i := 0) (by simp)
 have w1 := hb2.okW (i := 1) (by simp)
 have w2 := hb2.okW (i := 2) (by simp)
 have w3 := hb2.okW (i := 3) (by simp)
 have w4 := hb2.okW (i := 4) (by simp)
 have eN : (N2 k).total = aggOf S.it xs := by
  obtain ⟨_, ek, _⟩ := ht
  rw [ek, ← e]
  rfl
 have c7 := hn.cellOf (i := 7) rfl
 have c8 := hn.cellOf (i := 8) rfl
 have c9 := hn.cellOf (i := 9) rfl
 have c10 := hn.cellOf (i := 10) rfl
 have c11 := hn.cellOf (i := 11) rfl
 rw [eN] at c7 c8 c9 c10 c11
 repeat' (first|(with_reducible first|refine jA ?_|(refine hK _ _ ?_;clear hK K)|refine jJ fun K hK=>?_|refine jK ?_|refine jL ?_|refine jM ?_|refine jN ?_|refine jO ?_|refine jP ?_|refine jQ ?_|(refine jB ?_;clear hK K)|(refine jC ?_;clear hK K)|refine jD ?_|refine jE ?_|refine jG ?_|refine jH ?_|refine jI ?_)|((with_reducible refine jR ?hq ?_);case hq=>rfl)|((first|(with_reducible first|refine jS fun K hK=>?_|refine jT ?_|refine jU ?_)|((with_reducible refine jV ?hy fun K hK=>?_);case hy=>rfl));simp only [go_sem, Nat.reduceEqDiff, Nat.reduceAdd, Nat.reduceMul, Nat.reduceLeDiff, Nat.reduceLT, Int.reduceLT, Int.reduceLE, Int.reduceEq, Int.reduceNeg, Int.reduceToNat, Nat.reducePow, reduceIte, reduceCtorEq, c7, c8, c9, c10, c11, w0, w1, w2, w3, w4, okW_hset, hcell_hset_eq, hcell_hset_ne, hcell_hset_off, hne, hne'])|((with_reducible first|refine jW ?hy ?_|refine jY ?hy ?_);case hy=>rfl)|((with_reducible first|refine jX ?hy ?_|refine jZ ?hy ?_);case hy=>rfl)|((with_reducible refine jF ?hy ?_);case hy=>decide))
 have hfr : Fr (fun b => H.size ≤ b) H2 (hset (hset (hset (hset (hset H2 ⟨H.size, 0, none⟩ (.int .i64 (aggOf S.it xs).count)) ⟨H.size, 1, none⟩ (.int .i64 (aggOf S.it xs).sum)) ⟨H.size, 2, none⟩ (.int .i64 (aggOf S.it xs).least)) ⟨H.size, 3, none⟩ (.int .i64 (aggOf S.it xs).most)) ⟨H.size, 4, none⟩ (.int .i64 (aggOf S.it xs).flags)) := by
  have step : ∀ {H' : Heap} (o : Nat) (v : Value), Fr (fun b => H.size ≤ b) H2 H' → Fr (fun b => H.size ≤ b) H2 (hset H' ⟨H.size, o, none⟩ v) := fun o v h => Fr.set (S := fun b => H.size ≤ b) (a := ⟨H.size, o, none⟩) h (.inl (Nat.le_refl _)) v
  exact step 4 _ (step 3 _ (step 2 _ (step 1 _ (step 0 _ (Fr.refl _ _)))))
 refine fin _ N2 (hF2.frame hfr fun b hb hle => ?_) ?_
 ·have := hF.mem.lt hb; omega
 ·refine (((Fr.refl (NB A nb) H).push _).trans hf).trans' hfr fun b hb hle => ?_
  exact absurd hle (by omega)
end

theorem item_of {N : Nodes} {it : Nat → Sp.Item} {k : Nat} : ∀ {t : Tr} {up : Nat}, TrAt N it up t → k ∈ t.list → (N k).item = it k
 | .nil, _, _, h => by simp [Tr.list] at h
 | .node l h r, up, ⟨a, b, c, d⟩, hk => by
  simp only [Tr.list, List.mem_append, List.mem_cons] at hk
  rcases hk with hk | rfl | hk
  ·exact item_of c hk
  ·rw [b]; rfl
  ·exact item_of d hk
theorem split_unique {α : Type} {x : α} : ∀ {l l' r r' : List α}, (l ++ x :: r).Nodup → l ++ x :: r = l' ++ x :: r' → l = l' ∧ r = r'
 | [], [], r, r', _, e => ⟨rfl, by simpa using e⟩
 | [], y :: l', r, r', hn, e => by
  simp only [List.nil_append, List.cons_append, List.cons.injEq] at e
  obtain ⟨rfl, e⟩ := e
  rw [List.nil_append, List.nodup_cons] at hn
  exact absurd (by rw [e]; simp) hn.1
 | y :: l, [], r, r', hn, e => by
  simp only [List.nil_append, List.cons_append, List.cons.injEq] at e
  obtain ⟨rfl, e⟩ := e
  rw [List.cons_append, List.nodup_cons] at hn
  exact absurd (by simp) hn.1
 | y :: l, z :: l', r, r', hn, e => by
  simp only [List.cons_append, List.cons.injEq] at e
  obtain ⟨rfl, e⟩ := e
  rw [List.cons_append, List.nodup_cons] at hn
  obtain ⟨h1, h2⟩ := split_unique hn.2 e
  exact ⟨by rw [h1], h2⟩
section
variable {H H' : Heap} {f p g : Nat} {A : Ar} {nb : Nat → Nat} {N : Nodes} {S : Fo} {xs : List Nat} {k : Nat}
theorem get_ok {K : Value → Heap → Prop} (hF : FoAt H f p g A nb N S) (hx : xs ∈ S.rows) (hk : k ∈ xs)
  (fin : ∀ H', Fr (fun _ => False) H H' → K (.tuple #[(S.it k).val, .int .i64 0]) H') :
  CallsH Try.prog 16 #[.pointer (some ⟨f, 0, none⟩), .int .i64 k] H K := by
 have hU := hF.u hx hk
 have hn := hF.mem.nd k hU
 have hlt := hn.lt
 have hF1 := hF.grow (H' := H.push (.cells #[.int .i64 0, .bool false, .int .i64 0] 31)) ((Fr.refl _ _).push _)
 have hne : ¬ H.size = nb k := by omega
 have hne' : ¬ nb k = H.size := by omega
 obtain ⟨t, ht, e⟩ := hF.trees xs hx
 have hi := item_of ht (by rw [e]; exact hk)
 have c0 := hn.cellOf (i := 0) rfl
 have c1 := hn.cellOf (i := 1) rfl
 have c2 := hn.cellOf (i := 2) rfl
 rw [hi] at c0 c1 c2
 refine call16 (by simp) ?_
 simp only [Try.f16, Option.getD_some]
 repeat' (first|(with_reducible first|refine jA ?_|(refine hK _ _ ?_;clear hK K)|refine jJ fun K hK=>?_|refine jK ?_|refine jL ?_|refine jM ?_|refine jN ?_|refine jO ?_|refine jP ?_|refine jQ ?_|(refine jB ?_;clear hK K)|(refine jC ?_;clear hK K)|refine jD ?_|refine jE ?_|refine jG ?_|refine jH ?_|refine jI ?_)|((with_reducible refine jR ?hq ?_);case hq=>rfl)|((first|(with_reducible first|refine jS fun K hK=>?_|refine jT ?_|refine jU ?_)|((with_reducible refine jV ?hy fun K hK=>?_);case hy=>rfl));simp only [go_sem, Nat.reduceEqDiff, Nat.reduceAdd, Nat.reduceMul, Nat.reduceLeDiff, Nat.reduceLT, Int.reduceLT, Int.reduceLE, Int.reduceEq, Int.reduceNeg, Int.reduceToNat, Nat.reducePow, reduceIte, reduceCtorEq, hcell_push, hcell_top, okW_push, okW_top, hcell_hset_ne, hcell_hset_off, hcell_hset_eq, okW_hset, hset_size, Array.size_push, Nat.lt_add_one, ne_add_one, add_one_ne, Nat.add_assoc, add_same, add_lt_same, Nat.reduceEqDiff, lt_add_k, add_k_ne, ne_add_k])|((with_reducible first|refine jW ?hy ?_|refine jY ?hy ?_);case hy=>rfl)|((with_reducible first|refine jX ?hy ?_|refine jZ ?hy ?_);case hy=>rfl)|((with_reducible refine jF ?hy ?_);case hy=>decide))
 refine node_ok hF1.mem hU ?_
 repeat' (first|(with_reducible first|refine jA ?_|(refine hK _ _ ?_;clear hK K)|refine jJ fun K hK=>?_|refine jK ?_|refine jL ?_|refine jM ?_|refine jN ?_|refine jO ?_|refine jP ?_|refine jQ ?_|(refine jB ?_;clear hK K)|(refine jC ?_;clear hK K)|refine jD ?_|refine jE ?_|refine jG ?_|refine jH ?_|refine jI ?_)|((with_reducible refine jR ?hq ?_);case hq=>rfl)|((first|(with_reducible first|refine jS fun K hK=>?_|refine jT ?_|refine jU ?_)|((with_reducible refine jV ?hy fun K hK=>?_);case hy=>rfl));simp only [go_sem, Nat.reduceEqDiff, Nat.reduceAdd, Nat.reduceMul, Nat.reduceLeDiff, Nat.reduceLT, Int.reduceLT, Int.reduceLE, Int.reduceEq, Int.reduceNeg, Int.reduceToNat, Nat.reducePow, reduceIte, reduceCtorEq, c0, c1, c2, hlt, hne, hne', hcell_push, hcell_top, okW_push, okW_top, hcell_hset_ne, hcell_hset_off, hcell_hset_eq, okW_hset, hset_size, Array.size_push, Nat.lt_add_one, ne_add_one, add_one_ne, Nat.add_assoc, add_same, add_lt_same, Nat.reduceEqDiff, lt_add_k, add_k_ne, ne_add_k])|((with_reducible first|refine jW ?hy ?_|refine jY ?hy ?_);case hy=>rfl)|((with_reducible first|refine jX ?hy ?_|refine jZ ?hy ?_);case hy=>rfl)|((with_reducible refine jF ?hy ?_);case hy=>decide))
 exact fin _ (by ((repeat (first | refine Fr.set ?_ (by simp) _ | refine Fr.push ?_ _)); exact Fr.refl _ _))
theorem rank_ok {K : Value → Heap → Prop} {l r : List Nat} (hF : FoAt H f p g A nb N S) (hx : xs ∈ S.rows) (hxs : xs = l ++ k :: r)
  (fin : ∀ H' N', FoAt H' f p g A nb N' S → Fr (NB A nb) H H' → K (.tuple #[.int .i64 (l.length : Nat), .int .i64 0]) H') :
  CallsH Try.prog 18 #[.pointer (some ⟨f, 0, none⟩), .int .i64 k] H K := by
 have hk : k ∈ xs := by rw [hxs]; simp
 have hU := hF.u hx hk
 refine call18 (by simp) ?_
 simp only [Try.f18, Option.getD_some]
 repeat' (first|(with_reducible first|refine jA ?_|(refine hK _ _ ?_;clear hK K)|refine jJ fun K hK=>?_|refine jK ?_|refine jL ?_|refine jM ?_|refine jN ?_|refine jO ?_|refine jP ?_|refine jQ ?_|(refine jB ?_;clear hK K)|(refine jC ?_;clear hK K)|refine jD ?_|refine jE ?_|refine jG ?_|refine jH ?_|refine jI ?_)|((with_reducible refine jR ?hq ?_);case hq=>rfl)|((first|(with_reducible first|refine jS fun K hK=>?_|refine jT ?_|refine jU ?_)|((with_reducible refine jV ?hy fun K hK=>?_);case hy=>rfl));simp only [go_sem, Nat.reduceEqDiff, Nat.reduceAdd, Nat.reduceMul, Nat.reduceLeDiff, Nat.reduceLT, Int.reduceLT, Int.reduceLE, Int.reduceEq, Int.reduceNeg, Int.reduceToNat, Nat.reducePow, reduceIte, reduceCtorEq])|((with_reducible first|refine jW ?hy ?_|refine jY ?hy ?_);case hy=>rfl)|((with_reducible first|refine jX ?hy ?_|refine jZ ?hy ?_);case hy=>rfl)|((with_reducible refine jF ?hy ?_);case hy=>decide))
 refine node_ok hF.mem hU ?_
 repeat' (first|(with_reducible first|refine jA ?_|(refine hK _ _ ?_;clear hK K)|refine jJ fun K hK=>?_|refine jK ?_|refine jL ?_|refine jM ?_|refine jN ?_|refine jO ?_|refine jP ?_|refine jQ ?_|(refine jB ?_;clear hK K)|(refine jC ?_;clear hK K)|refine jD ?_|refine jE ?_|refine jG ?_|refine jH ?_|refine jI ?_)|((with_reducible refine jR ?hq ?_);case hq=>rfl)|((first|(with_reducible first|refine jS fun K hK=>?_|refine jT ?_|refine jU ?_)|((with_reducible refine jV ?hy fun K hK=>?_);case hy=>rfl));simp only [go_sem, Nat.reduceEqDiff, Nat.reduceAdd, Nat.reduceMul, Nat.reduceLeDiff, Nat.reduceLT, Int.reduceLT, Int.reduceLE, Int.reduceEq, Int.reduceNeg, Int.reduceToNat, Nat.reducePow, reduceIte, reduceCtorEq])|((with_reducible first|refine jW ?hy ?_|refine jY ?hy ?_);case hy=>rfl)|((with_reducible first|refine jX ?hy ?_|refine jZ ?hy ?_);case hy=>rfl)|((with_reducible refine jF ?hy ?_);case hy=>decide))
 refine splay_row hF hx hk (hF.apart hx) ?_
 intro H2 N2 a b hF2 ht e hf hoff
 have hn := hF2.mem.nd k hU
 have c4 := hn.cellOf (i := 4) rfl
 obtain ⟨hla, _⟩ := split_unique (by rw [e]; exact (hF.row hx).nd) (e.trans hxs)
 repeat' (first|(with_reducible first|refine jA ?_|(refine hK _ _ ?_;clear hK K)|refine jJ fun K hK=>?_|refine jK ?_|refine jL ?_|refine jM ?_|refine jN ?_|refine jO ?_|refine jP ?_|refine jQ ?_|(refine jB ?_;clear hK K)|(refine jC ?_;clear hK K)|refine jD ?_|refine jE ?_|refine jG ?_|refine jH ?_|refine jI ?_)|((with_reducible refine jR ?hq ?_);case hq=>rfl)|((first|(with_reducible first|refine jS fun K hK=>?_|refine jT ?_|refine jU ?_)|((with_reducible refine jV ?hy fun K hK=>?_);case hy=>rfl));simp only [go_sem, Nat.reduceEqDiff, Nat.reduceAdd, Nat.reduceMul, Nat.reduceLeDiff, Nat.reduceLT, Int.reduceLT, Int.reduceLE, Int.reduceEq, Int.reduceNeg, Int.reduceToNat, Nat.reducePow, reduceIte, reduceCtorEq, c4])|((with_reducible first|refine jW ?hy ?_|refine jY ?hy ?_);case hy=>rfl)|((with_reducible first|refine jX ?hy ?_|refine jZ ?hy ?_);case hy=>rfl)|((with_reducible refine jF ?hy ?_);case hy=>decide))
 refine below_ok hF2.mem (hF2.mem.cl.l k hU) ?_
 intro H3 hf3
 have eb : belowN N2 (N2 k).l = ((l.length : Int), aggOf S.it l) := by
  obtain ⟨_, ek, ha, _⟩ := ht
  have := ha.below
  rw [ek, ← hla]
  exact this
 rw [eb]
 repeat' (first|(with_reducible first|refine jA ?_|(refine hK _ _ ?_;clear hK K)|refine jJ fun K hK=>?_|refine jK ?_|refine jL ?_|refine jM ?_|refine jN ?_|refine jO ?_|refine jP ?_|refine jQ ?_|(refine jB ?_;clear hK K)|(refine jC ?_;clear hK K)|refine jD ?_|refine jE ?_|refine jG ?_|refine jH ?_|refine jI ?_)|((with_reducible refine jR ?hq ?_);case hq=>rfl)|((first|(with_reducible first|refine jS fun K hK=>?_|refine jT ?_|refine jU ?_)|((with_reducible refine jV ?hy fun K hK=>?_);case hy=>rfl));simp only [go_sem, Nat.reduceEqDiff, Nat.reduceAdd, Nat.reduceMul, Nat.reduceLeDiff, Nat.reduceLT, Int.reduceLT, Int.reduceLE, Int.reduceEq, Int.reduceNeg, Int.reduceToNat, Nat.reducePow, reduceIte, reduceCtorEq, Agg.val, hcell_push, hcell_top, okW_push, okW_top, hcell_hset_ne, hcell_hset_off, hcell_hset_eq, okW_hset, hset_size, Array.size_push, Nat.lt_add_one, ne_add_one, add_one_ne, Nat.add_assoc, add_same, add_lt_same, Nat.reduceEqDiff, lt_add_k, add_k_ne, ne_add_k])|((with_reducible first|refine jW ?hy ?_|refine jY ?hy ?_);case hy=>rfl)|((with_reducible first|refine jX ?hy ?_|refine jZ ?hy ?_);case hy=>rfl)|((with_reducible refine jF ?hy ?_);case hy=>decide))
 generalize hH4 : hset _ _ _ = H4
 have hf4 : Fr (fun _ => False) H3 H4 := by rw [← hH4]; exact (by ((repeat (first | refine Fr.set ?_ (by simp) _ | refine Fr.push ?_ _)); exact Fr.refl _ _))
 exact fin _ N2 ((hF2.grow hf3).grow hf4) ((hf.trans (hf3.mono fun b _ h => h.elim)).trans (hf4.mono fun b _ h => h.elim))
end

section
variable {H H' : Heap} {f p g : Nat} {A : Ar} {nb : Nat → Nat} {N : Nodes} {S : Fo} {xs : List Nat} {k : Nat} {R : List (List Nat)}
theorem FoAt.perm (h : FoAt H f p g A nb N S) (hr : S.rows.Perm R) : FoAt H f p g A nb N ⟨S.it, R⟩ :=
 ⟨h.mem, fun xs hx => h.trees xs (hr.mem_iff.2 hx), (hr.flatten.nodup_iff).1 h.nodup, fun i => by rw [← h.use i]; exact (hr.flatten.mem_iff).symm, h.may⟩
theorem cut_tree {it : Nat → Sp.Item} {a b : Tr} (ht : TrAt N it 0 (.node a k b)) (ha : a.root ≠ 0) (hd : (a.list ++ k :: b.list).Nodup) (hm : ∀ i ∈ a.list ++ k :: b.list, May (it i)) (hl : (a.list ++ k :: b.list).length ≤ 4096) :
  let M := upd (setUp N a.root 0) k ((setUp N a.root 0 k).setKid 0 0)
  TrAt (pullN M k) it 0 a ∧ TrAt (pullN M k) it 0 (.node .nil k b) ∧ ∀ i, i ∉ a.list ++ k :: b.list → pullN M k i = N i := by
 intro M
 obtain ⟨k0, ek, hta, htb⟩ := ht
 simp only [List.nodup_append, List.nodup_cons, List.mem_cons] at hd
 obtain ⟨na, ⟨kb, nb'⟩, dab⟩ := hd
 have hka : k ∉ a.list := fun e => dab k e k (.inl rfl) rfl
 have har := Tr.root_mem ha
 have hkr : k ≠ a.root := fun e => hka (by rw [e]; exact har)
 have Mk : M k = (N k).setKid 0 0 := by
  show upd _ k _ k = _
  rw [upd_same]
  unfold Sp.setUp
  rw [upd_ne _ _ hkr]
 have Mo : ∀ i, i ≠ k → i ≠ a.root → M i = N i := fun i h1 h2 => by
  show upd _ k _ i = _
  rw [upd_ne _ _ h1]
  unfold Sp.setUp
  rw [upd_ne _ _ h2]
 have Ma : M a.root = { N a.root with up := 0 } := by
  show upd _ k _ a.root = _
  rw [upd_ne _ _ (Ne.symm hkr)]
  unfold Sp.setUp
  rw [upd_same]
 have hrb : ∀ i ∈ b.list, i ≠ a.root := fun i hi e => dab a.root har i (.inr hi) e.symm
 have htM : TrAt M it k b := htb.congr fun i hi => Mo i (fun e => kb (e ▸ hi)) (hrb i hi)
 have pk : pullR M k = recOf it 0 0 k b.root ([] ++ k :: b.list) := by
  refine pullR_of (xs := []) rfl htM.below (by rw [Mk, ek]; rfl) (by rw [Mk, ek]; rfl) (by rw [Mk]; rfl) (by rw [Mk, ek]; rfl) (fun i hi => hm i ?_) ?_
  ·exact List.mem_append_right _ hi
  ·simp only [List.nil_append, List.length_append, List.length_cons] at hl ⊢; omega
 have eM : pullN M k = upd M k (recOf it 0 0 k b.root ([] ++ k :: b.list)) := by unfold pullN; rw [pk]
 rw [eM]
 refine ⟨?_, ⟨k0, by rw [upd_same]; rfl, trivial, htM.congr fun i hi => upd_ne _ _ (fun e => kb (e ▸ hi))⟩, fun i hi => ?_⟩
 ·refine (hta.hung (N' := M) na (fun _ => Ma) (fun i hi hne => Mo i (fun e => hka (e ▸ hi)) hne)).congr fun i hi => upd_ne _ _ (fun e => hka (e ▸ hi))
 ·simp only [List.mem_append, List.mem_cons, not_or] at hi
  rw [upd_ne _ _ hi.2.1]
  exact Mo i hi.2.1 (fun e => hi.1 (e ▸ har))
theorem split_first {K : Value → Heap → Prop} {r : List Nat} (hF : FoAt H f p g A nb N S) (hx : k :: r ∈ S.rows)
  (fin : ∀ H' N', FoAt H' f p g A nb N' S → Fr (NB A nb) H H' → K (.int .i64 0) H') :
  CallsH Try.prog 23 #[.pointer (some ⟨f, 0, none⟩), .int .i64 k] H K := by
 have hU := hF.u hx (.head _)
 refine call23 (by simp) ?_
 simp only [Try.f23, Option.getD_some]
 repeat' (first|(with_reducible first|refine jA ?_|(refine hK _ _ ?_;clear hK K)|refine jJ fun K hK=>?_|refine jK ?_|refine jL ?_|refine jM ?_|refine jN ?_|refine jO ?_|refine jP ?_|refine jQ ?_|(refine jB ?_;clear hK K)|(refine jC ?_;clear hK K)|refine jD ?_|refine jE ?_|refine jG ?_|refine jH ?_|refine jI ?_)|((with_reducible refine jR ?hq ?_);case hq=>rfl)|((first|(with_reducible first|refine jS fun K hK=>?_|refine jT ?_|refine jU ?_)|((with_reducible refine jV ?hy fun K hK=>?_);case hy=>rfl));simp only [go_sem, Nat.reduceEqDiff, Nat.reduceAdd, Nat.reduceMul, Nat.reduceLeDiff, Nat.reduceLT, Int.reduceLT, Int.reduceLE, Int.reduceEq, Int.reduceNeg, Int.reduceToNat, Nat.reducePow, reduceIte, reduceCtorEq])|((with_reducible first|refine jW ?hy ?_|refine jY ?hy ?_);case hy=>rfl)|((with_reducible first|refine jX ?hy ?_|refine jZ ?hy ?_);case hy=>rfl)|((with_reducible refine jF ?hy ?_);case hy=>decide))
 refine node_ok hF.mem hU ?_
 repeat' (first|(with_reducible first|refine jA ?_|(refine hK _ _ ?_;clear hK K)|refine jJ fun K hK=>?_|refine jK ?_|refine jL ?_|refine jM ?_|refine jN ?_|refine jO ?_|refine jP ?_|refine jQ ?_|(refine jB ?_;clear hK K)|(refine jC ?_;clear hK K)|refine jD ?_|refine jE ?_|refine jG ?_|refine jH ?_|refine jI ?_)|((with_reducible refine jR ?hq ?_);case hq=>rfl)|((first|(with_reducible first|refine jS fun K hK=>?_|refine jT ?_|refine jU ?_)|((with_reducible refine jV ?hy fun K hK=>?_);case hy=>rfl));simp only [go_sem, Nat.reduceEqDiff, Nat.reduceAdd, Nat.reduceMul, Nat.reduceLeDiff, Nat.reduceLT, Int.reduceLT, Int.reduceLE, Int.reduceEq, Int.reduceNeg, Int.reduceToNat, Nat.reducePow, reduceIte, reduceCtorEq])|((with_reducible first|refine jW ?hy ?_|refine jY ?hy ?_);case hy=>rfl)|((with_reducible first|refine jX ?hy ?_|refine jZ ?hy ?_);case hy=>rfl)|((with_reducible refine jF ?hy ?_);case hy=>decide))
 refine splay_row hF hx (.head _) (hF.apart hx) ?_
 intro H2 N2 a b hF2 ht e hf hoff
 have hn := hF2.mem.nd k hU
 have c4 := hn.cellOf (i := 4) rfl
 obtain ⟨hla, _⟩ := split_unique (l := a.list) (l' := []) (by rw [e]; exact (hF.row hx).nd) e
 have ea : (N2 k).l = 0 := by
  obtain ⟨_, ek, _⟩ := ht
  rw [ek]
  cases a with
  | nil => rfl
  | node a1 h a2 => simp [Tr.list] at hla
 rw [ea] at c4
 have t1 : (((0 : Nat) : Int) != 0) = false := rfl
 repeat' (first|(with_reducible first|refine jA ?_|(refine hK _ _ ?_;clear hK K)|refine jJ fun K hK=>?_|refine jK ?_|refine jL ?_|refine jM ?_|refine jN ?_|refine jO ?_|refine jP ?_|refine jQ ?_|(refine jB ?_;clear hK K)|(refine jC ?_;clear hK K)|refine jD ?_|refine jE ?_|refine jG ?_|refine jH ?_|refine jI ?_)|((with_reducible refine jR ?hq ?_);case hq=>rfl)|((first|(with_reducible first|refine jS fun K hK=>?_|refine jT ?_|refine jU ?_)|((with_reducible refine jV ?hy fun K hK=>?_);case hy=>rfl));simp only [go_sem, Nat.reduceEqDiff, Nat.reduceAdd, Nat.reduceMul, Nat.reduceLeDiff, Nat.reduceLT, Int.reduceLT, Int.reduceLE, Int.reduceEq, Int.reduceNeg, Int.reduceToNat, Nat.reducePow, reduceIte, reduceCtorEq, c4, t1])|((with_reducible first|refine jW ?hy ?_|refine jY ?hy ?_);case hy=>rfl)|((with_reducible first|refine jX ?hy ?_|refine jZ ?hy ?_);case hy=>rfl)|((with_reducible refine jF ?hy ?_);case hy=>decide))
 exact fin _ N2 hF2 hf
theorem split_ok {K : Value → Heap → Prop} {l r : List Nat} (hF : FoAt H f p g A nb N S) (hr : S.rows.Perm ((l ++ k :: r) :: R)) (hl : l ≠ [])
  (fin : ∀ H' N', FoAt H' f p g A nb N' ⟨S.it, l :: (k :: r) :: R⟩ → Fr (NB A nb) H H' → K (.int .i64 0) H') :
  CallsH Try.prog 23 #[.pointer (some ⟨f, 0, none⟩), .int .i64 k] H K := by
 have hx : l ++ k :: r ∈ S.rows := hr.mem_iff.2 (.head _)
 have hk : k ∈ l ++ k :: r := by simp
 have hU := hF.u hx hk
 have row := hF.row hx
 refine call23 (by simp) ?_
 simp only [Try.f23, Option.getD_some]
 repeat' (first|(with_reducible first|refine jA ?_|(refine hK _ _ ?_;clear hK K)|refine jJ fun K hK=>?_|refine jK ?_|refine jL ?_|refine jM ?_|refine jN ?_|refine jO ?_|refine jP ?_|refine jQ ?_|(refine jB ?_;clear hK K)|(refine jC ?_;clear hK K)|refine jD ?_|refine jE ?_|refine jG ?_|refine jH ?_|refine jI ?_)|((with_reducible refine jR ?hq ?_);case hq=>rfl)|((first|(with_reducible first|refine jS fun K hK=>?_|refine jT ?_|refine jU ?_)|((with_reducible refine jV ?hy fun K hK=>?_);case hy=>rfl));simp only [go_sem, Nat.reduceEqDiff, Nat.reduceAdd, Nat.reduceMul, Nat.reduceLeDiff, Nat.reduceLT, Int.reduceLT, Int.reduceLE, Int.reduceEq, Int.reduceNeg, Int.reduceToNat, Nat.reducePow, reduceIte, reduceCtorEq])|((with_reducible first|refine jW ?hy ?_|refine jY ?hy ?_);case hy=>rfl)|((with_reducible first|refine jX ?hy ?_|refine jZ ?hy ?_);case hy=>rfl)|((with_reducible refine jF ?hy ?_);case hy=>decide))
 refine node_ok hF.mem hU ?_
 repeat' (first|(with_reducible first|refine jA ?_|(refine hK _ _ ?_;clear hK K)|refine jJ fun K hK=>?_|refine jK ?_|refine jL ?_|refine jM ?_|refine jN ?_|refine jO ?_|refine jP ?_|refine jQ ?_|(refine jB ?_;clear hK K)|(refine jC ?_;clear hK K)|refine jD ?_|refine jE ?_|refine jG ?_|refine jH ?_|refine jI ?_)|((with_reducible refine jR ?hq ?_);case hq=>rfl)|((first|(with_reducible first|refine jS fun K hK=>?_|refine jT ?_|refine jU ?_)|((with_reducible refine jV ?hy fun K hK=>?_);case hy=>rfl));simp only [go_sem, Nat.reduceEqDiff, Nat.reduceAdd, Nat.reduceMul, Nat.reduceLeDiff, Nat.reduceLT, Int.reduceLT, Int.reduceLE, Int.reduceEq, Int.reduceNeg, Int.reduceToNat, Nat.reducePow, reduceIte, reduceCtorEq])|((with_reducible first|refine jW ?hy ?_|refine jY ?hy ?_);case hy=>rfl)|((with_reducible first|refine jX ?hy ?_|refine jZ ?hy ?_);case hy=>rfl)|((with_reducible refine jF ?hy ?_);case hy=>decide))
 refine splay_row hF hx hk (hF.apart hx) ?_
 intro H2 N2 a b hF2 ht e hf hoff
 have hn := hF2.mem.nd k hU
 have c4 := hn.cellOf (i := 4) rfl
 obtain ⟨hla, hrb⟩ := split_unique (l := a.list) (by rw [e]; exact row.nd) e
 have ek : (N2 k).l = a.root := by
  obtain ⟨_, ek, _⟩ := ht
  rw [ek]; rfl
 have ha0 : a.root ≠ 0 := fun h0 => by
  cases a with
  | nil => exact hl hla.symm
  | node a1 h a2 =>
   obtain ⟨_, _, ⟨h1, _⟩, _⟩ := ht
   exact h1 h0
 have hUa : U A a.root := hF.u hx (by rw [← hla]; exact List.mem_append_left _ (Tr.root_mem ha0))
 have t1 : ((a.root : Int) != 0) = true := by simp [ha0]
 rw [ek] at c4
 obtain ⟨w1, hF3, hf3⟩ := hF2.mem.setUp hUa (.inl rfl) (x := 0)
 obtain ⟨w2, hF4, hf4⟩ := hF3.kid hU (.inl rfl) (.inl rfl) (s := 0) (x := 0)
 have cut := cut_tree ht ha0 (by rw [e]; exact row.nd) (fun i hi => row.may i (by rw [e] at hi; exact hi)) (by rw [e]; exact row.len)
 repeat' (first|(with_reducible first|refine jA ?_|(refine hK _ _ ?_;clear hK K)|refine jJ fun K hK=>?_|refine jK ?_|refine jL ?_|refine jM ?_|refine jN ?_|refine jO ?_|refine jP ?_|refine jQ ?_|(refine jB ?_;clear hK K)|(refine jC ?_;clear hK K)|refine jD ?_|refine jE ?_|refine jG ?_|refine jH ?_|refine jI ?_)|((with_reducible refine jR ?hq ?_);case hq=>rfl)|((first|(with_reducible first|refine jS fun K hK=>?_|refine jT ?_|refine jU ?_)|((with_reducible refine jV ?hy fun K hK=>?_);case hy=>rfl));simp only [go_sem, Nat.reduceEqDiff, Nat.reduceAdd, Nat.reduceMul, Nat.reduceLeDiff, Nat.reduceLT, Int.reduceLT, Int.reduceLE, Int.reduceEq, Int.reduceNeg, Int.reduceToNat, Nat.reducePow, reduceIte, reduceCtorEq, c4, t1])|((with_reducible first|refine jW ?hy ?_|refine jY ?hy ?_);case hy=>rfl)|((with_reducible first|refine jX ?hy ?_|refine jZ ?hy ?_);case hy=>rfl)|((with_reducible refine jF ?hy ?_);case hy=>decide))
 refine node_ok hF2.mem hUa ?_
 have w2' : okW (hset H2 ⟨nb a.root, 3, none⟩ (.int .i64 0)) ⟨nb k, 4, none⟩ := w2
 repeat' (first|(with_reducible first|refine jA ?_|(refine hK _ _ ?_;clear hK K)|refine jJ fun K hK=>?_|refine jK ?_|refine jL ?_|refine jM ?_|refine jN ?_|refine jO ?_|refine jP ?_|refine jQ ?_|(refine jB ?_;clear hK K)|(refine jC ?_;clear hK K)|refine jD ?_|refine jE ?_|refine jG ?_|refine jH ?_|refine jI ?_)|((with_reducible refine jR ?hq ?_);case hq=>rfl)|((first|(with_reducible first|refine jS fun K hK=>?_|refine jT ?_|refine jU ?_)|((with_reducible refine jV ?hy fun K hK=>?_);case hy=>rfl));simp only [go_sem, Nat.reduceEqDiff, Nat.reduceAdd, Nat.reduceMul, Nat.reduceLeDiff, Nat.reduceLT, Int.reduceLT, Int.reduceLE, Int.reduceEq, Int.reduceNeg, Int.reduceToNat, Nat.reducePow, reduceIte, reduceCtorEq, w1, w2'])|((with_reducible first|refine jW ?hy ?_|refine jY ?hy ?_);case hy=>rfl)|((with_reducible first|refine jX ?hy ?_|refine jZ ?hy ?_);case hy=>rfl)|((with_reducible refine jF ?hy ?_);case hy=>decide))
 refine pull_ok hF4 hU ?_
 intro H5 hF5 hf5
 repeat' (first|(with_reducible first|refine jA ?_|(refine hK _ _ ?_;clear hK K)|refine jJ fun K hK=>?_|refine jK ?_|refine jL ?_|refine jM ?_|refine jN ?_|refine jO ?_|refine jP ?_|refine jQ ?_|(refine jB ?_;clear hK K)|(refine jC ?_;clear hK K)|refine jD ?_|refine jE ?_|refine jG ?_|refine jH ?_|refine jI ?_)|((with_reducible refine jR ?hq ?_);case hq=>rfl)|((first|(with_reducible first|refine jS fun K hK=>?_|refine jT ?_|refine jU ?_)|((with_reducible refine jV ?hy fun K hK=>?_);case hy=>rfl));simp only [go_sem, Nat.reduceEqDiff, Nat.reduceAdd, Nat.reduceMul, Nat.reduceLeDiff, Nat.reduceLT, Int.reduceLT, Int.reduceLE, Int.reduceEq, Int.reduceNeg, Int.reduceToNat, Nat.reducePow, reduceIte, reduceCtorEq])|((with_reducible first|refine jW ?hy ?_|refine jY ?hy ?_);case hy=>rfl)|((with_reducible first|refine jX ?hy ?_|refine jZ ?hy ?_);case hy=>rfl)|((with_reducible refine jF ?hy ?_);case hy=>decide))
 refine fin _ _ ⟨hF5, ?_, ?_, ?_, hF.may⟩ (((hf.trans hf3).trans hf4).trans hf5)
 ·intro ys hy
  rcases List.mem_cons.1 hy with rfl | hy
  ·exact ⟨a, cut.1, hla⟩
  ·rcases List.mem_cons.1 hy with rfl | hy
   ·exact ⟨_, cut.2.1, by simp [Tr.list, hrb]⟩
   ·obtain ⟨t, h1, h2⟩ := hF2.trees ys (hr.mem_iff.2 (.tail _ hy))
    have hn2 : ((l ++ k :: r) :: R).flatten.Nodup := (hr.flatten.nodup_iff).1 hF.nodup
    rw [List.flatten_cons, List.nodup_append] at hn2
    refine ⟨t, h1.congr fun i hi => cut.2.2 i (fun hi' => ?_), h2⟩
    rw [e] at hi'
    exact hn2.2.2 i hi' i (List.mem_flatten.2 ⟨ys, hy, by rw [← h2]; exact hi⟩) rfl
 ·have hn2 : ((l ++ k :: r) :: R).flatten.Nodup := (hr.flatten.nodup_iff).1 hF.nodup
  simpa using hn2
 ·intro i
  rw [← hF.use i, hr.flatten.mem_iff]
  simp
end

theorem up_ne_zero {N : Nodes} {it : Nat → Sp.Item} {i : Nat} : ∀ {t : Tr} {up : Nat}, TrAt N it up t → i ∈ t.list → i ≠ t.root → (N i).up ≠ 0
 | .nil, _, _, h, _ => by simp [Tr.list] at h
 | .node l h r, up, ⟨a, b, c, d⟩, hi, hne => by
  simp only [Tr.list, List.mem_append, List.mem_cons] at hi
  have kid : ∀ {t : Tr}, TrAt N it h t → (i ≠ t.root → (N i).up ≠ 0) → i ∈ t.list → (N i).up ≠ 0 := fun {t} ht ih hit => by
   by_cases e : i = t.root
   ·cases t with
    | nil => simp [Tr.list] at hit
    | node x y z =>
     obtain ⟨_, ey, _⟩ := ht
     have e' : i = y := e
     rw [e', ey]
     exact a
   ·exact ih e
  rcases hi with hi | hi | hi
  ·exact kid c (fun e => up_ne_zero c hi e) hi
  ·exact absurd hi hne
  ·exact kid d (fun e => up_ne_zero d hi e) hi
section
variable {H H' : Heap} {f p g : Nat} {A : Ar} {nb : Nat → Nat} {N : Nodes} {S : Fo} {xs ys : List Nat} {k j : Nat}
theorem same_ok {K : Value → Heap → Prop} (hF : FoAt H f p g A nb N S) (hx : xs ∈ S.rows) (hk : k ∈ xs) (hy : ys ∈ S.rows) (hj : j ∈ ys)
  (fin : ∀ H' N' (b : Bool), FoAt H' f p g A nb N' S → Fr (NB A nb) H H' → (b = true ↔ ys = xs) → K (.bool b) H') :
  CallsH Try.prog 46 #[.pointer (some ⟨f, 0, none⟩), .int .i64 k, .int .i64 j] H K := by
 have hU := hF.u hx hk
 refine call46 (by simp) ?_
 simp only [Try.f46, Option.getD_some]
 by_cases h : k = j
 ·subst h
  have t1 : ((k : Int) == (k : Int)) = true := by simp
  have hxy : ys = xs := (hF.apart hx ys hy).resolve_right fun h => h k hj hk
  repeat' (first|(with_reducible first|refine jA ?_|(refine hK _ _ ?_;clear hK K)|refine jJ fun K hK=>?_|refine jK ?_|refine jL ?_|refine jM ?_|refine jN ?_|refine jO ?_|refine jP ?_|refine jQ ?_|(refine jB ?_;clear hK K)|(refine jC ?_;clear hK K)|refine jD ?_|refine jE ?_|refine jG ?_|refine jH ?_|refine jI ?_)|((with_reducible refine jR ?hq ?_);case hq=>rfl)|((first|(with_reducible first|refine jS fun K hK=>?_|refine jT ?_|refine jU ?_)|((with_reducible refine jV ?hy fun K hK=>?_);case hy=>rfl));simp only [go_sem, Nat.reduceEqDiff, Nat.reduceAdd, Nat.reduceMul, Nat.reduceLeDiff, Nat.reduceLT, Int.reduceLT, Int.reduceLE, Int.reduceEq, Int.reduceNeg, Int.reduceToNat, Nat.reducePow, reduceIte, reduceCtorEq, t1])|((with_reducible first|refine jW ?hy ?_|refine jY ?hy ?_);case hy=>rfl)|((with_reducible first|refine jX ?hy ?_|refine jZ ?hy ?_);case hy=>rfl)|((with_reducible refine jF ?hy ?_);case hy=>decide))
  exact fin _ N true hF (.refl _ _) (by simp [hxy])
 ·have t1 : ((k : Int) == (j : Int)) = false := by simp; omega
  repeat' (first|(with_reducible first|refine jA ?_|(refine hK _ _ ?_;clear hK K)|refine jJ fun K hK=>?_|refine jK ?_|refine jL ?_|refine jM ?_|refine jN ?_|refine jO ?_|refine jP ?_|refine jQ ?_|(refine jB ?_;clear hK K)|(refine jC ?_;clear hK K)|refine jD ?_|refine jE ?_|refine jG ?_|refine jH ?_|refine jI ?_)|((with_reducible refine jR ?hq ?_);case hq=>rfl)|((first|(with_reducible first|refine jS fun K hK=>?_|refine jT ?_|refine jU ?_)|((with_reducible refine jV ?hy fun K hK=>?_);case hy=>rfl));simp only [go_sem, Nat.reduceEqDiff, Nat.reduceAdd, Nat.reduceMul, Nat.reduceLeDiff, Nat.reduceLT, Int.reduceLT, Int.reduceLE, Int.reduceEq, Int.reduceNeg, Int.reduceToNat, Nat.reducePow, reduceIte, reduceCtorEq, t1])|((with_reducible first|refine jW ?hy ?_|refine jY ?hy ?_);case hy=>rfl)|((with_reducible first|refine jX ?hy ?_|refine jZ ?hy ?_);case hy=>rfl)|((with_reducible refine jF ?hy ?_);case hy=>decide))
  refine splay_row hF hx hk (hF.apart hx) ?_
  intro H2 N2 a b hF2 ht e hf hoff
  repeat' (first|(with_reducible first|refine jA ?_|(refine hK _ _ ?_;clear hK K)|refine jJ fun K hK=>?_|refine jK ?_|refine jL ?_|refine jM ?_|refine jN ?_|refine jO ?_|refine jP ?_|refine jQ ?_|(refine jB ?_;clear hK K)|(refine jC ?_;clear hK K)|refine jD ?_|refine jE ?_|refine jG ?_|refine jH ?_|refine jI ?_)|((with_reducible refine jR ?hq ?_);case hq=>rfl)|((first|(with_reducible first|refine jS fun K hK=>?_|refine jT ?_|refine jU ?_)|((with_reducible refine jV ?hy fun K hK=>?_);case hy=>rfl));simp only [go_sem, Nat.reduceEqDiff, Nat.reduceAdd, Nat.reduceMul, Nat.reduceLeDiff, Nat.reduceLT, Int.reduceLT, Int.reduceLE, Int.reduceEq, Int.reduceNeg, Int.reduceToNat, Nat.reducePow, reduceIte, reduceCtorEq])|((with_reducible first|refine jW ?hy ?_|refine jY ?hy ?_);case hy=>rfl)|((with_reducible first|refine jX ?hy ?_|refine jZ ?hy ?_);case hy=>rfl)|((with_reducible refine jF ?hy ?_);case hy=>decide))
  refine splay_row hF2 hy hj (hF2.apart hy) ?_
  intro H3 N3 c d hF3 ht3 e3 hf3 hoff3
  repeat' (first|(with_reducible first|refine jA ?_|(refine hK _ _ ?_;clear hK K)|refine jJ fun K hK=>?_|refine jK ?_|refine jL ?_|refine jM ?_|refine jN ?_|refine jO ?_|refine jP ?_|refine jQ ?_|(refine jB ?_;clear hK K)|(refine jC ?_;clear hK K)|refine jD ?_|refine jE ?_|refine jG ?_|refine jH ?_|refine jI ?_)|((with_reducible refine jR ?hq ?_);case hq=>rfl)|((first|(with_reducible first|refine jS fun K hK=>?_|refine jT ?_|refine jU ?_)|((with_reducible refine jV ?hy fun K hK=>?_);case hy=>rfl));simp only [go_sem, Nat.reduceEqDiff, Nat.reduceAdd, Nat.reduceMul, Nat.reduceLeDiff, Nat.reduceLT, Int.reduceLT, Int.reduceLE, Int.reduceEq, Int.reduceNeg, Int.reduceToNat, Nat.reducePow, reduceIte, reduceCtorEq])|((with_reducible first|refine jW ?hy ?_|refine jY ?hy ?_);case hy=>rfl)|((with_reducible first|refine jX ?hy ?_|refine jZ ?hy ?_);case hy=>rfl)|((with_reducible refine jF ?hy ?_);case hy=>decide))
  refine node_ok hF3.mem hU ?_
  have c3 := (hF3.mem.nd k hU).cellOf (i := 3) rfl
  by_cases hxy : ys = xs
  ·have h0 : (N3 k).up ≠ 0 := up_ne_zero ht3 (by show k ∈ c.list ++ j :: d.list; rw [e3, hxy]; exact hk) h
   have t2 : (((N3 k).up : Int) != 0) = true := by simp [h0]
   repeat' (first|(with_reducible first|refine jA ?_|(refine hK _ _ ?_;clear hK K)|refine jJ fun K hK=>?_|refine jK ?_|refine jL ?_|refine jM ?_|refine jN ?_|refine jO ?_|refine jP ?_|refine jQ ?_|(refine jB ?_;clear hK K)|(refine jC ?_;clear hK K)|refine jD ?_|refine jE ?_|refine jG ?_|refine jH ?_|refine jI ?_)|((with_reducible refine jR ?hq ?_);case hq=>rfl)|((first|(with_reducible first|refine jS fun K hK=>?_|refine jT ?_|refine jU ?_)|((with_reducible refine jV ?hy fun K hK=>?_);case hy=>rfl));simp only [go_sem, Nat.reduceEqDiff, Nat.reduceAdd, Nat.reduceMul, Nat.reduceLeDiff, Nat.reduceLT, Int.reduceLT, Int.reduceLE, Int.reduceEq, Int.reduceNeg, Int.reduceToNat, Nat.reducePow, reduceIte, reduceCtorEq, c3, t2])|((with_reducible first|refine jW ?hy ?_|refine jY ?hy ?_);case hy=>rfl)|((with_reducible first|refine jX ?hy ?_|refine jZ ?hy ?_);case hy=>rfl)|((with_reducible refine jF ?hy ?_);case hy=>decide))
   exact fin _ N3 true hF3 (hf.trans hf3) (by simp [hxy])
  ·have hky : k ∉ ys := fun h => hxy ((hF.apart hx ys hy).resolve_right fun h' => h' k h hk)
   have h0 : (N3 k).up = 0 := by
    rw [hoff3 k hky]
    obtain ⟨_, ek, _⟩ := ht
    rw [ek]; rfl
   have t2 : (((N3 k).up : Int) != 0) = false := by simp [h0]
   repeat' (first|(with_reducible first|refine jA ?_|(refine hK _ _ ?_;clear hK K)|refine jJ fun K hK=>?_|refine jK ?_|refine jL ?_|refine jM ?_|refine jN ?_|refine jO ?_|refine jP ?_|refine jQ ?_|(refine jB ?_;clear hK K)|(refine jC ?_;clear hK K)|refine jD ?_|refine jE ?_|refine jG ?_|refine jH ?_|refine jI ?_)|((with_reducible refine jR ?hq ?_);case hq=>rfl)|((first|(with_reducible first|refine jS fun K hK=>?_|refine jT ?_|refine jU ?_)|((with_reducible refine jV ?hy fun K hK=>?_);case hy=>rfl));simp only [go_sem, Nat.reduceEqDiff, Nat.reduceAdd, Nat.reduceMul, Nat.reduceLeDiff, Nat.reduceLT, Int.reduceLT, Int.reduceLE, Int.reduceEq, Int.reduceNeg, Int.reduceToNat, Nat.reducePow, reduceIte, reduceCtorEq, c3, t2])|((with_reducible first|refine jW ?hy ?_|refine jY ?hy ?_);case hy=>rfl)|((with_reducible first|refine jX ?hy ?_|refine jZ ?hy ?_);case hy=>rfl)|((with_reducible refine jF ?hy ?_);case hy=>decide))
   exact fin _ N3 false hF3 (hf.trans hf3) (by simp [hxy])
end
end Go.Proofs.Ytndkbhlfbeiniaa
namespace Go.Sp
open Go Go.Hp
set_option linter.unusedVariables false

theorem join_tree {N : Nodes} {it : Nat → Item} {a t : Tr} {k : Nat} (ht : TrAt N it 0 (.node a k .nil)) (hs : TrAt N it 0 t) (h0 : t.root ≠ 0) (hd : (a.list ++ k :: t.list).Nodup) (hm : ∀ i ∈ a.list ++ k :: t.list, May (it i)) (hl : (a.list ++ k :: t.list).length ≤ 4096) :
  TrAt (pullN (hangN N k 1 t.root) k) it 0 (.node a k t) ∧ ∀ i, i ∉ a.list ++ k :: t.list → pullN (hangN N k 1 t.root) k i = N i := by
 generalize hM : hangN N k 1 t.root = M
 obtain ⟨k0, ek, hta, _⟩ := ht
 simp only [List.nodup_append, List.nodup_cons, List.mem_cons] at hd
 obtain ⟨na, ⟨kb, nb'⟩, dab⟩ := hd
 have hka : k ∉ a.list := fun e => dab k e k (.inl rfl) rfl
 have hrt := Tr.root_mem h0
 have hkr : t.root ≠ k := fun e => kb (by rw [← e]; exact hrt)
 have eM : M = upd (upd N k ((N k).setKid 1 t.root)) t.root { upd N k ((N k).setKid 1 t.root) t.root with up := k } := by
  rw [← hM]; unfold hangN; rw [if_neg h0]
 have Mk : M k = (N k).setKid 1 t.root := by
  rw [eM, upd_ne _ _ (Ne.symm hkr), upd_same]
 have Mo : ∀ i, i ≠ k → i ≠ t.root → M i = N i := fun i h1 h2 => by
  rw [eM, upd_ne _ _ h2, upd_ne _ _ h1]
 have Mt : M t.root = { N t.root with up := k } := by
  rw [eM, upd_same, upd_ne _ _ hkr]
 have htaM : TrAt M it k a := hta.congr fun i hi => Mo i (fun e => hka (e ▸ hi)) (fun e => dab i hi i (.inr (by rw [e]; exact hrt)) rfl)
 have htM : TrAt M it k t := hs.hung nb' (fun _ => Mt) (fun i hi hne => Mo i (fun e => kb (e ▸ hi)) hne)
 have pk : pullR M k = recOf it 0 a.root k t.root (a.list ++ k :: t.list) := by
  refine pullR_of htaM.below htM.below (by rw [Mk, ek]; rfl) (by rw [Mk, ek]; rfl) (by rw [Mk, ek]; rfl) (by rw [Mk]; rfl) hm hl
 have eP : pullN M k = upd M k (recOf it 0 a.root k t.root (a.list ++ k :: t.list)) := by unfold pullN; rw [pk]
 rw [eP]
 refine ⟨⟨k0, by rw [upd_same], htaM.congr fun i hi => upd_ne _ _ (fun e => hka (e ▸ hi)), htM.congr fun i hi => upd_ne _ _ (fun e => kb (e ▸ hi))⟩, fun i hi => ?_⟩
 simp only [List.mem_append, List.mem_cons, not_or] at hi
 rw [upd_ne _ _ hi.2.1]
 exact Mo i hi.2.1 (fun e => hi.2.2 (e ▸ hrt))
theorem set_tree {N : Nodes} {it : Nat → Item} {a b : Tr} {k : Nat} {x : Item} (ht : TrAt N it 0 (.node a k b)) (hd : (a.list ++ k :: b.list).Nodup) (hx : May x) (hm : ∀ i ∈ a.list ++ k :: b.list, May (it i)) (hl : (a.list ++ k :: b.list).length ≤ 4096) :
  TrAt (pullN (upd N k { N k with item := x }) k) (fun i => if i = k then x else it i) 0 (.node a k b) ∧ ∀ i, i ≠ k → pullN (upd N k { N k with item := x }) k i = N i := by
 obtain ⟨k0, ek, hta, htb⟩ := ht
 simp only [List.nodup_append, List.nodup_cons, List.mem_cons] at hd
 obtain ⟨na, ⟨kb, nb'⟩, dab⟩ := hd
 have hka : k ∉ a.list := fun e => dab k e k (.inl rfl) rfl
 have re : ∀ {t : Tr} {up : Nat}, TrAt N it up t → k ∉ t.list → TrAt (upd N k { N k with item := x }) (fun i => if i = k then x else it i) up t := by
  intro t
  induction t with
  | nil => intros; trivial
  | node l h r ihl ihr =>
   rintro up ⟨p1, p2, p3, p4⟩ hk
   simp only [Tr.list, List.mem_append, List.mem_cons, not_or] at hk
   refine ⟨p1, ?_, ihl p3 hk.1, ihr p4 hk.2.2⟩
   rw [upd_ne _ _ (Ne.symm hk.2.1), p2]
   unfold recOf
   have e2 : aggOf (fun i => if i = k then x else it i) (l.list ++ h :: r.list) = aggOf it (l.list ++ h :: r.list) := by
    unfold aggOf
    congr 1
    apply List.map_congr_left
    intro i hi
    have : i ≠ k := fun e => by
     subst e
     simp only [List.mem_append, List.mem_cons] at hi
     rcases hi with hi | hi | hi
     ·exact hk.1 hi
     ·exact hk.2.1 hi
     ·exact hk.2.2 hi
    exact if_neg this
   rw [e2]
   simp only [if_neg (Ne.symm hk.2.1)]
 have hta' := re hta hka
 have htb' := re htb kb
 have pk : pullR (upd N k { N k with item := x }) k = recOf (fun i => if i = k then x else it i) 0 a.root k b.root (a.list ++ k :: b.list) := by
  refine pullR_of hta'.below htb'.below (by rw [upd_same]; simp) (by rw [upd_same, ek]; rfl) (by rw [upd_same, ek]; rfl) (by rw [upd_same, ek]; rfl) (fun i hi => ?_) hl
  by_cases e : i = k
  ·simp only [e, if_true]; exact hx
  ·simp only [e, if_false]; exact hm i hi
 have eP : pullN (upd N k { N k with item := x }) k = upd (upd N k { N k with item := x }) k (recOf (fun i => if i = k then x else it i) 0 a.root k b.root (a.list ++ k :: b.list)) := by unfold pullN; rw [pk]
 rw [eP]
 refine ⟨⟨k0, by rw [upd_same], hta'.congr fun i hi => upd_ne _ _ (fun e => hka (e ▸ hi)), htb'.congr fun i hi => upd_ne _ _ (fun e => kb (e ▸ hi))⟩, fun i hi => ?_⟩
 rw [upd_ne _ _ hi, upd_ne _ _ hi]
theorem TrAt.items {N : Nodes} {it it' : Nat → Item} : ∀ {t : Tr} {up : Nat}, TrAt N it up t → (∀ h ∈ t.list, it' h = it h) → TrAt N it' up t
 | .nil, _, _, _ => trivial
 | .node l h r, up, ⟨a, b, c, d⟩, hN => by
  have e2 : aggOf it' (l.list ++ h :: r.list) = aggOf it (l.list ++ h :: r.list) := by
   unfold aggOf; congr 1
   exact List.map_congr_left fun i hi => hN i hi
  have e1 : it' h = it h := hN h (by simp [Tr.list])
  refine ⟨a, ?_, c.items fun k hk => hN k (by simp [Tr.list, hk]), d.items fun k hk => hN k (by simp [Tr.list, hk])⟩
  unfold recOf at b ⊢
  rw [b, e1, e2]
theorem flagsL_and : ∀ {xs : List Item} {fl : Nat}, flagsL xs &&& fl = 0 ↔ ∀ x ∈ xs, x.flags.toNat &&& fl = 0
 | [], fl => by simp [flagsL]
 | x :: xs, fl => by
  have ih := flagsL_and (xs := xs) (fl := fl)
  simp only [flagsL, Nat.and_or_distrib_right, Nat.or_eq_zero_iff, ih, List.mem_cons, forall_eq_or_imp]
theorem list_ne_nil {t : Tr} (h : t.root ≠ 0) : t.list ≠ [] := by
 cases t with
 | nil => exact absurd rfl h
 | node l k r => simp [Tr.list]
theorem root_of_list {N : Nodes} {it : Nat → Item} {t : Tr} {up : Nat} (h : TrAt N it up t) (hl : t.list ≠ []) : t.root ≠ 0 := by
 cases t with
 | nil => exact absurd rfl hl
 | node l k r => exact h.1
theorem nil_of_root {N : Nodes} {it : Nat → Item} {t : Tr} {up : Nat} (h : TrAt N it up t) (h0 : t.root = 0) : t = .nil := by
 cases t with
 | nil => rfl
 | node l k r => exact absurd h0 h.1
end Go.Sp
namespace Go.Sp
open Go Go.Hp
set_option linter.unusedVariables false

def andNot64 (a b : Int) : Int := bitAndNot .i64 a b
def and64 (a b : Int) : Int := bitAnd .i64 a b
theorem wrap_zero {n : Nat} (h : n < 18446744073709551616) : IntKind.i64.wrap (n : Int) = 0 ↔ n = 0 := by
 constructor
 ·intro e
  by_cases h2 : n < 9223372036854775808
  ·rw [wrap_i64] at e <;> omega
  ·have : IntKind.i64.wrap ((n : Int)) = (n : Int) - 18446744073709551616 := by
    unfold IntKind.wrap
    simp only [IntKind.signed, IntKind.bits]
    simp
    omega
   omega
 ·rintro rfl; rfl
theorem andNot_zero {x : Int} (h1 : -9223372036854775808 ≤ x) (h2 : x ≤ 9223372036854775807) : andNot64 x 255 = 0 ↔ 0 ≤ x ∧ x < 256 := by
 unfold andNot64 bitAndNot
 show IntKind.i64.wrap ((BitVec.ofInt 64 x &&& ~~~ BitVec.ofInt 64 255).toNat : Int) = 0 ↔ _
 rw [wrap_zero (BitVec.isLt _)]
 have ht : (BitVec.ofInt 64 x).toNat = (x % 18446744073709551616).toNat := by
  rw [BitVec.toNat_ofInt]; rfl
 have key : (BitVec.ofInt 64 x &&& ~~~ BitVec.ofInt 64 255).toNat = 0 ↔ (BitVec.ofInt 64 x).toNat < 2 ^ 8 := by
  constructor
  ·intro h
   have hz : BitVec.ofInt 64 x &&& ~~~ BitVec.ofInt 64 255 = 0#64 := BitVec.eq_of_toNat_eq h
   apply Nat.lt_pow_two_of_testBit
   intro i hi
   by_cases h64 : i < 64
   ·have := congrArg (fun y => BitVec.getLsbD y i) hz
    simp only [BitVec.getLsbD_and, BitVec.getLsbD_not, BitVec.getLsbD_zero] at this
    have h255 : (BitVec.ofInt 64 255).getLsbD i = false := by
     show Nat.testBit (BitVec.ofInt 64 255).toNat i = false
     exact Nat.testBit_lt_two_pow (Nat.lt_of_lt_of_le (show (BitVec.ofInt 64 255).toNat < 2 ^ 8 by decide) (Nat.pow_le_pow_right (by decide) hi))
    rw [h255] at this
    simp only [h64, decide_true, Bool.not_false, Bool.and_true] at this
    exact this
   ·exact Nat.testBit_lt_two_pow (Nat.lt_of_lt_of_le (BitVec.isLt _) (Nat.pow_le_pow_right (by decide) (by omega)))
  ·intro h
   have : BitVec.ofInt 64 x &&& ~~~ BitVec.ofInt 64 255 = 0#64 := by
    apply BitVec.eq_of_getLsbD_eq
    intro i hi
    simp only [BitVec.getLsbD_and, BitVec.getLsbD_not, BitVec.getLsbD_zero]
    by_cases h8 : i < 8
    ·have h255 : (BitVec.ofInt 64 255).getLsbD i = true := by
      show Nat.testBit (BitVec.ofInt 64 255).toNat i = true
      have e : (BitVec.ofInt 64 255).toNat = 2 ^ 8 - 1 := by decide
      rw [e, Nat.testBit_two_pow_sub_one]; simp [h8]
     rw [h255]; simp
    ·have : (BitVec.ofInt 64 x).getLsbD i = false := Nat.testBit_lt_two_pow (Nat.lt_of_lt_of_le h (Nat.pow_le_pow_right (by decide) (by omega)))
     rw [this]; simp
   rw [this]; rfl
 rw [key, ht]
 constructor
 ·intro h
  have : x % 18446744073709551616 < 256 := by omega
  omega
 ·rintro ⟨h3, h4⟩
  rw [Int.emod_eq_of_lt h3 (by omega)]
  omega
theorem and64_nat {a b : Nat} (ha : a < 256) (hb : b < 256) : and64 (a : Int) (b : Int) = ((a &&& b : Nat) : Int) := by
 have h : a &&& b < 2 ^ 8 := Nat.and_lt_two_pow (n := 8) a hb
 have e1 : ∀ n : Nat, n < 256 → (BitVec.ofInt IntKind.i64.bits (n : Int)).toNat = n := fun n hn => by
  show (BitVec.ofInt 64 (n : Int)).toNat = n
  rw [BitVec.toNat_ofInt]
  omega
 unfold and64 bitAnd
 rw [BitVec.toNat_and, e1 a ha, e1 b hb, wrap_i64] <;> omega
end Go.Sp
namespace Go.Hp
open Go
set_option linter.unusedVariables false

structure Keep (G : Nat → Option (List Value)) (l : Nat → Int) (hs ws : List Int) (n : Nat) : Prop where
 len : hs.length = ws.length
 le : hs.length ≤ n
 live : ∀ (k : Nat) (a w : Int), hs[k]? = some a → ws[k]? = some w → 0 ≤ w → w.toNat < n ∧ G a.toNat = some [.int .i64 w, .int .i64 (l w.toNat)]
 last : ∀ (j k : Nat) (a w : Int), hs[j]? = some a → ws[j]? = some w → 0 ≤ w → hs[k]? = some a → k ≤ j
 all : ∀ (h : Nat) v, G h = some v → ∃ (k : Nat) (w : Int), hs[k]? = some (h : Int) ∧ ws[k]? = some w ∧ 0 ≤ w
 hand : ∀ (k : Nat) (a : Int), hs[k]? = some a → 1 ≤ a
theorem Keep.nil (l : Nat → Int) (n : Nat) : Keep (fun _ => none) l [] [] n :=
 ⟨rfl, Nat.zero_le _, fun k a w h => (by simp at h), fun j k a w h => (by simp at h), fun h v e => (by cases e), fun k a h => (by simp at h)⟩
theorem Keep.mono {G : Nat → Option (List Value)} {l : Nat → Int} {hs ws : List Int} {n m : Nat} (h : Keep G l hs ws n) (hm : n ≤ m) : Keep G l hs ws m :=
 ⟨h.len, Nat.le_trans h.le hm, fun k a w h1 h2 h3 => ⟨by have := (h.live k a w h1 h2 h3).1; omega, (h.live k a w h1 h2 h3).2⟩, h.last, h.all, h.hand⟩
theorem get_snoc {α : Type} {xs : List α} {x y : α} {k : Nat} (h : (xs ++ [x])[k]? = some y) : (xs[k]? = some y ∧ k < xs.length) ∨ (k = xs.length ∧ y = x) := by
 rcases Nat.lt_trichotomy k xs.length with hk | hk | hk
 ·rw [List.getElem?_append_left hk] at h; exact .inl ⟨h, hk⟩
 ·subst hk; simp at h; exact .inr ⟨rfl, h.symm⟩
 ·rw [List.getElem?_eq_none (by simp; omega)] at h; cases h
theorem Keep.put {G G' : Nat → Option (List Value)} {l : Nat → Int} {hs ws : List Int} {n h : Nat} (hK : Keep G l hs ws n) (h1 : 1 ≤ h) (h0 : G h = none)
  (hG : ∀ i, G' i = if i = h then some [.int .i64 (n : Int), .int .i64 (l n)] else G i) : Keep G' l (hs ++ [(h : Int)]) (ws ++ [(n : Int)]) (n + 1) where
 len := by simp [hK.len]
 le := by have := hK.le; simp; omega
 live := fun k a w ha hw h0w => by
  rcases get_snoc ha with ⟨ha, hk⟩ | ⟨rfl, rfl⟩
  ·rcases get_snoc hw with ⟨hw, _⟩ | ⟨hk', rfl⟩
   ·obtain ⟨h2, h3⟩ := hK.live k a w ha hw h0w
    refine ⟨by omega, ?_⟩
    rw [hG, if_neg (fun e => by rw [e, h0] at h3; cases h3)]
    exact h3
   ·have := hK.len; omega
  ·rcases get_snoc hw with ⟨hw, hk⟩ | ⟨_, rfl⟩
   ·have := hK.len; omega
   ·refine ⟨by simp, ?_⟩
    rw [hG]
    simp
 last := fun j k a w ha hw h0w hk => by
  rcases get_snoc ha with ⟨ha, hj⟩ | ⟨rfl, rfl⟩
  ·rcases get_snoc hw with ⟨hw, _⟩ | ⟨hk', rfl⟩
   ·rcases get_snoc hk with ⟨hk, _⟩ | ⟨_, rfl⟩
    ·exact hK.last j k a w ha hw h0w hk
    ·have := (hK.live j _ w ha hw h0w).2
     rw [Int.toNat_natCast, h0] at this
     cases this
   ·have := hK.len; omega
  ·rcases get_snoc hk with ⟨_, hk⟩ | ⟨rfl, _⟩ <;> omega
 all := fun i v hi => by
  rw [hG] at hi
  by_cases e : i = h
  ·subst e
   exact ⟨hs.length, n, by simp, by rw [hK.len]; simp, by omega⟩
  ·rw [if_neg e] at hi
   obtain ⟨k, w, h1, h2, h3⟩ := hK.all i v hi
   have hk := (List.getElem?_eq_some_iff.1 h1).1
   exact ⟨k, w, by rw [List.getElem?_append_left hk]; exact h1, by rw [List.getElem?_append_left (by rw [← hK.len]; exact hk)]; exact h2, h3⟩
 hand := fun k a ha => by
  rcases get_snoc ha with ⟨ha, hk⟩ | ⟨rfl, rfl⟩
  ·exact hK.hand k a ha
  ·omega
theorem Keep.drop {G G' : Nat → Option (List Value)} {l : Nat → Int} {hs ws ws' : List Int} {n h : Nat} (hK : Keep G l hs ws n) (hl : ws'.length = ws.length)
  (hw : ∀ (k : Nat) (a w : Int), hs[k]? = some a → ws[k]? = some w → ws'[k]? = some (if a = (h : Int) then -1 else w))
  (hG : ∀ i, G' i = if i = h then none else G i) : Keep G' l hs ws' n := by
 have back : ∀ (k : Nat) (a w : Int), hs[k]? = some a → ws'[k]? = some w → 0 ≤ w → ws[k]? = some w ∧ a ≠ (h : Int) := fun k a w h1 h2 h3 => by
  have hk := (List.getElem?_eq_some_iff.1 h1).1
  have hk2 : k < ws.length := by rw [← hK.len]; exact hk
  have h4 := hw k a ws[k] h1 (List.getElem?_eq_getElem hk2)
  rw [h4] at h2
  have h5 := Option.some.inj h2
  by_cases e : a = (h : Int)
  ·rw [if_pos e] at h5; omega
  ·rw [if_neg e] at h5
   exact ⟨by rw [List.getElem?_eq_getElem hk2, h5], e⟩
 exact {
  len := by rw [hl]; exact hK.len
  le := hK.le
  live := fun k a w h1 h2 h3 => by
   obtain ⟨h4, h5⟩ := back k a w h1 h2 h3
   obtain ⟨h6, h7⟩ := hK.live k a w h1 h4 h3
   have := hK.hand k a h1
   refine ⟨h6, ?_⟩
   rw [hG, if_neg (by omega)]
   exact h7
  last := fun j k a w h1 h2 h3 h4 => hK.last j k a w h1 (back j a w h1 h2 h3).1 h3 h4
  all := fun i v hi => by
   rw [hG] at hi
   by_cases e : i = h
   ·rw [if_pos e] at hi; cases hi
   ·rw [if_neg e] at hi
    obtain ⟨k, w, h1, h2, h3⟩ := hK.all i v hi
    refine ⟨k, w, h1, ?_, h3⟩
    rw [hw k i w h1 h2, if_neg (by omega)]
  hand := hK.hand }
theorem Ar.many_handles (A : Ar) : A.many = A.handles.length := by
 have e : A.vals = (List.range A.vals.length).map A.get := by
  apply List.ext_getElem?
  intro i
  rcases Nat.lt_or_ge i A.vals.length with h' | h'
  ·rw [Ar.get_eq h']; simp [h']
  ·rw [List.getElem?_eq_none h', List.getElem?_eq_none (by simpa using h')]
 unfold Ar.many Ar.handles
 conv => lhs; rw [e]
 rw [List.filter_map, List.length_map]
 rfl
def liveN (ws : List Int) (i : Nat) : Nat := ((List.range i).filter fun k => decide (0 ≤ ws.getD k (-1))).length
theorem liveN_succ (ws : List Int) (i : Nat) : liveN ws (i + 1) = liveN ws i + if 0 ≤ ws.getD i (-1) then 1 else 0 := by
 unfold liveN
 rw [List.range_succ, List.filter_append, List.length_append]
 congr 1
 by_cases h : 0 ≤ ws.getD i (-1)
 ·rw [if_pos h]; simp only [List.filter_cons, h, decide_true, if_true, List.filter_nil, List.length_singleton]
 ·rw [if_neg h]; simp only [List.filter_cons, h, decide_false, Bool.false_eq_true, if_false, List.filter_nil, List.length_nil]
theorem liveN_le (ws : List Int) (i : Nat) : liveN ws i ≤ i := by
 unfold liveN
 exact Nat.le_trans (List.length_filter_le _ _) (by simp)
theorem Keep.count {A : Ar} {l : Nat → Int} {hs ws : List Int} {n : Nat} (hK : Keep A.get l hs ws n) : liveN ws hs.length = A.many := by
 rw [Ar.many_handles]
 unfold liveN
 have hp : (((List.range hs.length).filter fun k => decide (0 ≤ ws.getD k (-1))).map fun k => (hs.getD k 0).toNat).Perm A.handles := by
  rw [List.perm_ext_iff_of_nodup]
  ·intro h
   simp only [List.mem_map, List.mem_filter, List.mem_range, decide_eq_true_eq, Ar.handles]
   constructor
   ·rintro ⟨k, ⟨hk, hw⟩, rfl⟩
    have hk2 : k < ws.length := by rw [← hK.len]; exact hk
    have ha : hs[k]? = some (hs.getD k 0) := by rw [List.getD_eq_getElem?_getD, List.getElem?_eq_getElem hk]; rfl
    have hw' : ws[k]? = some (ws.getD k (-1)) := by rw [List.getD_eq_getElem?_getD, List.getElem?_eq_getElem hk2]; rfl
    have := (hK.live k _ _ ha hw' hw).2
    exact ⟨Ar.get_some_lt this, by rw [this]; rfl⟩
   ·rintro ⟨h1, h2⟩
    obtain ⟨v, hv⟩ := Option.isSome_iff_exists.1 h2
    obtain ⟨k, w, h3, h4, h5⟩ := hK.all h v hv
    refine ⟨k, ⟨(List.getElem?_eq_some_iff.1 h3).1, ?_⟩, ?_⟩
    ·rw [List.getD_eq_getElem?_getD, h4]; exact h5
    ·rw [List.getD_eq_getElem?_getD, h3]; simp
  ·rw [List.nodup_iff_pairwise_ne, List.pairwise_map]
   refine ((List.nodup_iff_pairwise_ne.1 (List.nodup_range.filter _)).imp_of_mem ?_)
   intro j k hj hk hne he
   simp only [List.mem_filter, List.mem_range, decide_eq_true_eq] at hj hk
   have f : ∀ k, k < hs.length → hs[k]? = some (hs.getD k 0) ∧ ws[k]? = some (ws.getD k (-1)) := fun k hk => by
    have hk2 : k < ws.length := by rw [← hK.len]; exact hk
    exact ⟨by rw [List.getD_eq_getElem?_getD, List.getElem?_eq_getElem hk]; rfl, by rw [List.getD_eq_getElem?_getD, List.getElem?_eq_getElem hk2]; rfl⟩
   have e : hs.getD j 0 = hs.getD k 0 := by
    have := hK.hand j _ (f j hj.1).1
    have := hK.hand k _ (f k hk.1).1
    omega
   have a1 := hK.last j k _ _ (f j hj.1).1 (f j hj.1).2 hj.2 (by rw [e]; exact (f k hk.1).1)
   have a2 := hK.last k j _ _ (f k hk.1).1 (f k hk.1).2 hk.2 (by rw [← e]; exact (f j hj.1).1)
   omega
  ·exact List.nodup_range.filter _
 rw [← hp.length_eq, List.length_map]
theorem Ar.get_putOld {A : Ar} {k h : Nat} {fs : List Nat} {v : List Value} (ok : A.Ok k) (hf : A.free = h :: fs) (i : Nat) : (A.putOld h v).get i = if i = h then some v else A.get i :=
 Ar.get_set ((ok.mem h).1 (by rw [hf]; exact .head _)).2.1
theorem Ar.get_drop {A : Ar} {h : Nat} {u : List Value} (hg : A.get h = some u) (i : Nat) : (A.drop h).get i = if i = h then none else A.get i :=
 Ar.get_set (Ar.get_some_lt hg)
end Go.Hp
namespace Go.Sp
open Go Go.Hp
set_option linter.unusedVariables false
theorem TrAt.links {N : Nodes} {it : Nat → Item} {i : Nat} : ∀ {t : Tr} {up : Nat}, TrAt N it up t → i ∈ t.list →
  ((N i).up = up ∨ (N i).up ∈ t.list) ∧ ((N i).l = 0 ∨ (N i).l ∈ t.list) ∧ ((N i).r = 0 ∨ (N i).r ∈ t.list)
 | .nil, _, _, h => by simp [Tr.list] at h
 | .node l h r, up, ⟨a, b, c, d⟩, hi => by
  simp only [Tr.list, List.mem_append, List.mem_cons] at hi ⊢
  rcases hi with hi | rfl | hi
  ·obtain ⟨h1, h2, h3⟩ := c.links hi
   refine ⟨.inr ?_, ?_, ?_⟩
   ·rcases h1 with h1 | h1
    ·exact .inr (.inl h1)
    ·exact .inl h1
   ·rcases h2 with h2 | h2
    ·exact .inl h2
    ·exact .inr (.inl h2)
   ·rcases h3 with h3 | h3
    ·exact .inl h3
    ·exact .inr (.inl h3)
  ·rw [b]
   refine ⟨.inl rfl, ?_, ?_⟩
   ·by_cases e : l.root = 0
    ·exact .inl e
    ·exact .inr (.inl (Tr.root_mem e))
   ·by_cases e : r.root = 0
    ·exact .inl e
    ·exact .inr (.inr (.inr (Tr.root_mem e)))
  ·obtain ⟨h1, h2, h3⟩ := d.links hi
   refine ⟨.inr ?_, ?_, ?_⟩
   ·rcases h1 with h1 | h1
    ·exact .inr (.inl h1)
    ·exact .inr (.inr h1)
   ·rcases h2 with h2 | h2
    ·exact .inl h2
    ·exact .inr (.inr (.inr h2))
   ·rcases h3 with h3 | h3
    ·exact .inl h3
    ·exact .inr (.inr (.inr h3))
end Go.Sp
namespace Go.Proofs.Ytndkbhlfbeiniaa
open Go Go.Hp Go.Sp
set_option linter.all false
set_option maxRecDepth 100000
set_option maxHeartbeats 1600000

section
variable {H H' : Heap} {f p g : Nat} {A : Ar} {nb : Nat → Nat} {N : Nodes} {S : Fo} {xs : List Nat} {k : Nat} {R : List (List Nat)}
theorem FAt.made {H1 : Heap} {b g' h : Nat} {A' : Ar} {r : Rec} (hF : FAt H1 f p g A nb N) (hb : Blk H1 b r.cells) (hbn : ∀ i, U A i → nb i ≠ b) (hb3 : b ≠ f ∧ b ≠ p ∧ b ≠ g) (hr : r.up = 0 ∧ r.l = 0 ∧ r.r = 0)
  (hA' : ArAt H' p g' 1 [.pointer none] A') (hn : A.get h = none) (hg : ∀ i, A'.get i = if i = h then some [.pointer (some ⟨b, 0, none⟩)] else A.get i) (hf : Fr (fun y => y = g ∨ y = p) H1 H') (hgg : g' = g ∨ H1.size ≤ g') :
  FAt H' f p g' A' (fun i => if i = h then b else nb i) (upd N h r) := by
 have hU : ∀ i, U A' i ↔ i = h ∨ U A i := fun i => by
  unfold U
  rw [hg]
  by_cases e : i = h
  ·simp [e]
  ·simp [e]
 have hnh : ∀ i, U A i → i ≠ h := fun i hi e => by subst e; unfold U at hi; rw [hn] at hi; cases hi
 have hlt : ∀ b', b' < H1.size → b' ≠ g → b' ≠ g' := fun b' h1 h2 => by
  rcases hgg with e | e
  ·rw [e]; exact h2
  ·omega
 refine ⟨hF.ff.frame hf (by have := hF.fp; omega), hA', fun i v hv => ?_, fun i hi => ?_, fun i j hi hj e => ?_, fun i hi => ?_, ⟨hF.fp.1, hlt _ hF.ff.lt hF.fp.2⟩, ?_⟩
 ·rw [hg] at hv
  by_cases e : i = h
  ·rw [if_pos e] at hv; rw [if_pos e]; exact (Option.some.inj hv).symm
  ·rw [if_neg e] at hv; rw [if_neg e]; exact hF.use i v hv
 ·rcases (hU i).1 hi with rfl | hi
  ·simp only [if_true, upd_same]
   exact hb.frame hf (by omega)
  ·have hne := hnh i hi
   simp only [hne, if_false]
   rw [upd_ne _ _ hne]
   have := hF.dis i hi
   exact (hF.nd i hi).frame hf (by omega)
 ·rcases (hU i).1 hi with e1 | hi <;> rcases (hU j).1 hj with e2 | hj
  ·rw [e1, e2]
  ·rw [if_pos e1, if_neg (hnh j hj)] at e
   exact absurd e.symm (hbn j hj)
  ·rw [if_pos e2, if_neg (hnh i hi)] at e
   exact absurd e (hbn i hi)
  ·rw [if_neg (hnh i hi), if_neg (hnh j hj)] at e
   exact hF.inj i j hi hj e
 ·rcases (hU i).1 hi with rfl | hi
  ·simp only [if_true]
   exact ⟨hb3.1, hb3.2.1, hlt _ hb.lt hb3.2.2⟩
  ·have hne := hnh i hi
   simp only [hne, if_false]
   have := hF.dis i hi
   exact ⟨this.1, this.2.1, hlt _ (hF.nd i hi).lt this.2.2⟩
 ·have lift : ∀ x, x = 0 ∨ U A x → x = 0 ∨ U A' x := fun x hx => hx.imp id fun h => (hU x).2 (.inr h)
  refine ⟨fun i hi => ?_, fun i hi => ?_, fun i hi => ?_⟩
  all_goals
   rcases (hU i).1 hi with rfl | hi
   ·rw [upd_same]; simp [hr]
   ·rw [upd_ne _ _ (hnh i hi)]
    first | exact lift _ (hF.cl.up i hi) | exact lift _ (hF.cl.l i hi) | exact lift _ (hF.cl.r i hi)
theorem FoAt.made {H1 : Heap} {b g' h : Nat} {A' : Ar} {x : Sp.Item} (hF : FoAt H1 f p g A nb N S) (hx : May x) (hh : 1 ≤ h) (hb : Blk H1 b (Rec.mk x 0 0 0 1 (ownA x)).cells) (hbn : ∀ i, U A i → nb i ≠ b) (hb3 : b ≠ f ∧ b ≠ p ∧ b ≠ g)
  (hA' : ArAt H' p g' 1 [.pointer none] A') (hn : A.get h = none) (hg : ∀ i, A'.get i = if i = h then some [.pointer (some ⟨b, 0, none⟩)] else A.get i) (hf : Fr (fun y => y = g ∨ y = p) H1 H') (hgg : g' = g ∨ H1.size ≤ g') :
  FoAt H' f p g' A' (fun i => if i = h then b else nb i) (upd N h (Rec.mk x 0 0 0 1 (ownA x))) ⟨fun i => if i = h then x else S.it i, [h] :: S.rows⟩ := by
 have hU : ∀ i, U A' i ↔ i = h ∨ U A i := fun i => by
  unfold U
  rw [hg]
  by_cases e : i = h
  ·simp [e]
  ·simp [e]
 have hhU : ¬ U A h := fun hi => by unfold U at hi; rw [hn] at hi; cases hi
 have hhr : h ∉ S.rows.flatten := fun hi => hhU ((hF.use h).1 hi)
 refine ⟨hF.mem.made hb hbn hb3 ⟨rfl, rfl, rfl⟩ hA' hn hg hf hgg, fun ys hy => ?_, ?_, fun i => ?_, fun i hi => ?_⟩
 ·rcases List.mem_cons.1 hy with rfl | hy
  ·refine ⟨.node .nil h .nil, ⟨by omega, ?_, trivial, trivial⟩, rfl⟩
   rw [upd_same]
   unfold recOf aggOf
   simp [Tr.list, Tr.root, ownA_aggL hx]
  ·obtain ⟨t, h1, h2⟩ := hF.trees ys hy
   have hni : ∀ i ∈ t.list, i ≠ h := fun i hi e => hhr (List.mem_flatten.2 ⟨ys, hy, by rw [← h2, ← e]; exact hi⟩)
   exact ⟨t, (h1.congr fun i hi => upd_ne _ _ (hni i hi)).items fun i hi => if_neg (hni i hi), h2⟩
 ·rw [List.flatten_cons, List.singleton_append, List.nodup_cons]
  exact ⟨hhr, hF.nodup⟩
 ·rw [hU, ← hF.use i]; simp
 ·rcases (hU i).1 hi with rfl | hi
  ·simp only [if_true]; exact hx
  ·have : i ≠ h := fun e => hhU (e ▸ hi)
   simp only [this, if_false]
   exact hF.may i hi
theorem FoAt.freed {h : Nat} (hF : FoAt H f p g A nb N S) (hr : S.rows.Perm ([h] :: R)) (hA' : ArAt H' p g 1 [.pointer none] (A.drop h)) (hf : Fr (fun y => y = g ∨ y = p) H H') : FoAt H' f p g (A.drop h) nb N ⟨S.it, R⟩ := by
 have hx : [h] ∈ S.rows := hr.mem_iff.2 (.head _)
 have hUh := hF.u hx (.head _)
 obtain ⟨v, hv⟩ := Option.isSome_iff_exists.1 hUh
 have hgd := Ar.get_drop hv
 have hU : ∀ i, U (A.drop h) i ↔ i ≠ h ∧ U A i := fun i => by
  unfold U
  rw [hgd]
  by_cases e : i = h
  ·simp [e]
  ·simp [e]
 have hn2 : ([h] :: R).flatten.Nodup := (hr.flatten.nodup_iff).1 hF.nodup
 rw [List.flatten_cons, List.singleton_append, List.nodup_cons] at hn2
 have huse : ∀ i, i ∈ R.flatten ↔ U (A.drop h) i := fun i => by
  rw [hU, ← hF.use i, hr.flatten.mem_iff, List.flatten_cons, List.singleton_append, List.mem_cons]
  constructor
  ·intro hi
   exact ⟨fun e => hn2.1 (e ▸ hi), .inr hi⟩
  ·rintro ⟨h1, h2 | h2⟩
   ·exact absurd h2 h1
   ·exact h2
 have links : ∀ i, U (A.drop h) i → ((N i).up = 0 ∨ U (A.drop h) (N i).up) ∧ ((N i).l = 0 ∨ U (A.drop h) (N i).l) ∧ ((N i).r = 0 ∨ U (A.drop h) (N i).r) := fun i hi => by
  obtain ⟨ys, hy, hiy⟩ := List.mem_flatten.1 ((huse i).2 hi)
  obtain ⟨t, h1, h2⟩ := hF.trees ys (hr.mem_iff.2 (.tail _ hy))
  have hl := h1.links (i := i) (by rw [h2]; exact hiy)
  have lift : ∀ x, x ∈ t.list → U (A.drop h) x := fun x hx => (huse x).1 (List.mem_flatten.2 ⟨ys, hy, by rw [← h2]; exact hx⟩)
  exact ⟨hl.1.imp id (lift _), hl.2.1.imp id (lift _), hl.2.2.imp id (lift _)⟩
 refine ⟨⟨hF.mem.ff.frame hf (by have := hF.mem.fp; omega), hA', fun i v hv => ?_, fun i hi => ?_, fun i j hi hj e => hF.mem.inj i j ((hU i).1 hi).2 ((hU j).1 hj).2 e, fun i hi => hF.mem.dis i ((hU i).1 hi).2, hF.mem.fp, ⟨fun i hi => (links i hi).1, fun i hi => (links i hi).2.1, fun i hi => (links i hi).2.2⟩⟩,
  fun ys hy => hF.trees ys (hr.mem_iff.2 (.tail _ hy)), hn2.2, huse, fun i hi => hF.may i ((hU i).1 hi).2⟩
 ·rw [hgd] at hv
  by_cases e : i = h
  ·rw [if_pos e] at hv; cases hv
  ·rw [if_neg e] at hv; exact hF.mem.use i v hv
 ·have := hF.mem.dis i ((hU i).1 hi).2
  exact (hF.mem.nd i ((hU i).1 hi).2).frame hf (by omega)
theorem FAt.item (hF : FAt H f p g A nb N) {x : Sp.Item} (hk : U A k) :
  (∀ j, j < 3 → okW H ⟨nb k, j, none⟩) ∧ FAt (hset (hset (hset H ⟨nb k, 0, none⟩ (.int .i64 x.value)) ⟨nb k, 1, none⟩ (.bool x.counts)) ⟨nb k, 2, none⟩ (.int .i64 x.flags)) f p g A nb (upd N k { N k with item := x }) ∧
   Fr (NB A nb) H (hset (hset (hset H ⟨nb k, 0, none⟩ (.int .i64 x.value)) ⟨nb k, 1, none⟩ (.bool x.counts)) ⟨nb k, 2, none⟩ (.int .i64 x.flags)) := by
 have hn := hF.nd k hk
 have hfr : Fr (· = nb k) H (hset (hset (hset H ⟨nb k, 0, none⟩ (.int .i64 x.value)) ⟨nb k, 1, none⟩ (.bool x.counts)) ⟨nb k, 2, none⟩ (.int .i64 x.flags)) := by
  have step : ∀ {H' : Heap} (o : Nat) (v : Value), Fr (· = nb k) H H' → Fr (· = nb k) H (hset H' ⟨nb k, o, none⟩ v) := fun o v h => Fr.set (S := (· = nb k)) (a := ⟨nb k, o, none⟩) h (.inl rfl) v
  exact step 2 _ (step 1 _ (step 0 _ (Fr.refl _ _)))
 refine ⟨fun j hj => hn.okW (by simp [Rec.cells]; omega), hF.set hk hfr ?_ ?_, NB.of hk hfr⟩
 ·exact ((hn.set_same 0 (.int .i64 x.value)).set_same 1 (.bool x.counts)).set_same 2 (.int .i64 x.flags)
 ·exact hF.cl.upd (hF.cl.up k hk) (hF.cl.l k hk) (hF.cl.r k hk)
end
end Go.Proofs.Ytndkbhlfbeiniaa
namespace Go.Sp
open Go Go.Hp
set_option linter.unusedVariables false
structure Sq where
 room : Nat
 top : Nat
 free : List Nat
 it : Nat → Item
 rows : List (List Nat)
def Sq.Has (S : Sq) (i : Int) : Prop := ∃ k : Nat, i = (k : Int) ∧ k ∈ S.rows.flatten
def Sq.next (S : Sq) : Nat := S.free.headD S.top
def Sq.made (S : Sq) (x : Item) : Sq := { S with top := if S.free = [] then S.top + 1 else S.top, free := S.free.tail, it := fun i => if i = S.next then x else S.it i, rows := [S.next] :: S.rows }
def Sq.freed (S : Sq) (h : Nat) (R : List (List Nat)) : Sq := { S with free := h :: S.free, rows := R }
end Go.Sp
namespace Go.Proofs.Ytndkbhlfbeiniaa
open Go Go.Hp Go.Sp
set_option linter.all false
set_option maxRecDepth 100000
set_option maxHeartbeats 1600000

def FoM (H : Heap) (f : Nat) (T : Nat → Prop) (S : Sq) : Prop :=
 ∃ p g A nb N, FoAt H f p g A nb N ⟨S.it, S.rows⟩ ∧ A.room = S.room ∧ A.vals.length = S.top ∧ A.free = S.free ∧ (∀ b, Foot f p g A nb b → T b) ∧ (∀ b, T b → b < H.size)
section
variable {H H' : Heap} {f : Nat} {T : Nat → Prop} {S : Sq}
theorem FoM.lt (h : FoM H f T S) {b : Nat} (hb : T b) : b < H.size := by
 obtain ⟨p, g, A, nb, N, _, _, _, _, _, h6⟩ := h
 exact h6 b hb
theorem FoM.frame {T0 : Nat → Prop} (h : FoM H f T S) (hf : Fr T0 H H') (hT : ∀ b, T b → ¬ T0 b) : FoM H' f T S := by
 obtain ⟨p, g, A, nb, N, h1, h2, h3, h4, h5, h6⟩ := h
 exact ⟨p, g, A, nb, N, h1.frame hf fun b hb => hT b (h5 b hb), h2, h3, h4, h5, fun b hb => Nat.lt_of_lt_of_le (h6 b hb) hf.size⟩
theorem FoM.grow (h : FoM H f T S) (hf : Fr (fun _ => False) H H') : FoM H' f T S := h.frame hf fun _ _ h => h
theorem FoM.perm (h : FoM H f T S) {R : List (List Nat)} (hr : S.rows.Perm R) : FoM H f T { S with rows := R } := by
 obtain ⟨p, g, A, nb, N, h1, h2, h3, h4, h5, h6⟩ := h
 exact ⟨p, g, A, nb, N, h1.perm hr, h2, h3, h4, h5, h6⟩
theorem FoM.nodup (h : FoM H f T S) : S.rows.flatten.Nodup := by
 obtain ⟨p, g, A, nb, N, h1, _⟩ := h
 exact h1.nodup
theorem FoM.may (h : FoM H f T S) {k : Nat} (hk : k ∈ S.rows.flatten) : May (S.it k) := by
 obtain ⟨p, g, A, nb, N, h1, _⟩ := h
 exact h1.may k ((h1.use k).1 hk)
theorem FoM.pos (h : FoM H f T S) {k : Nat} (hk : k ∈ S.rows.flatten) : 1 ≤ k := by
 obtain ⟨p, g, A, nb, N, h1, _⟩ := h
 exact h1.mem.pos ((h1.use k).1 hk)
theorem FoM.len (h : FoM H f T S) : S.rows.flatten.length ≤ 4096 := by
 obtain ⟨p, g, A, nb, N, h1, _⟩ := h
 exact h1.len
theorem FoAt.many {p g : Nat} {A : Ar} {nb : Nat → Nat} {N : Nodes} {S : Fo} (h : FoAt H f p g A nb N S) : S.rows.flatten.length = A.many := by
 have hp : S.rows.flatten.Perm A.handles := by
  unfold Ar.handles
  rw [List.perm_ext_iff_of_nodup h.nodup (List.nodup_range.filter _)]
  intro i
  rw [h.use i]
  simp only [List.mem_filter, List.mem_range]
  refine ⟨fun hu => ?_, fun hu => hu.2⟩
  obtain ⟨v, hv⟩ := Option.isSome_iff_exists.1 hu
  exact ⟨Ar.get_some_lt hv, hu⟩
 have hm : A.many = A.handles.length := by
  have e : A.vals = (List.range A.vals.length).map A.get := by
   apply List.ext_getElem?
   intro i
   rcases Nat.lt_or_ge i A.vals.length with h' | h'
   ·rw [Ar.get_eq h']; simp [h']
   ·rw [List.getElem?_eq_none h', List.getElem?_eq_none (by simpa using h')]
  unfold Ar.many Ar.handles
  conv => lhs; rw [e]
  rw [List.filter_map, List.length_map]
  rfl
 rw [hp.length_eq, ← hm]
theorem FoM.room (h : FoM H f T S) : S.rows.flatten.length ≤ S.room ∧ S.room ≤ 4096 ∧ S.rows.flatten.length + S.free.length + 1 = S.top := by
 obtain ⟨p, g, A, nb, N, h1, h2, h3, h4, _⟩ := h
 have hm := h1.many
 have h5 := h1.mem.ar.ok.most
 have h6 := h1.mem.ar.ok.room
 have h7 := Ar.count_free A h1.mem.ar.ok
 simp only [] at hm
 rw [hm, ← h2, ← h3, ← h4]
 exact ⟨h5, h6, h7⟩
theorem FoM.free_mem (h : FoM H f T S) (i : Nat) : i ∈ S.free ↔ 1 ≤ i ∧ i < S.top ∧ i ∉ S.rows.flatten := by
 obtain ⟨p, g, A, nb, N, h1, h2, h3, h4, _⟩ := h
 rw [← h4, ← h3, h1.mem.ar.ok.mem i]
 have := h1.use i
 simp only [] at this
 rw [this]
 unfold U
 simp
theorem FoM.lt_top (h : FoM H f T S) {k : Nat} (hk : k ∈ S.rows.flatten) : k < S.top := by
 obtain ⟨p, g, A, nb, N, h1, h2, h3, h4, _⟩ := h
 have := (h1.use k).1 hk
 obtain ⟨v, hv⟩ := Option.isSome_iff_exists.1 this
 rw [← h3]
 exact Ar.get_some_lt hv
theorem FoAt.none {p g : Nat} {A : Ar} {nb : Nat → Nat} {N : Nodes} {S : Fo} {i : Int} (h : FoAt H f p g A nb N S) (hi : ¬ ∃ k : Nat, i = (k : Int) ∧ k ∈ S.rows.flatten) : i < 1 ∨ A.get i.toNat = none := by
 rcases Int.lt_or_le i 1 with h1 | h1
 ·exact .inl h1
 ·refine .inr ?_
  obtain ⟨k, rfl⟩ := Int.eq_ofNat_of_zero_le (show 0 ≤ i by omega)
  cases hg : A.get k with
  | none => simpa using hg
  | some v => exact absurd ⟨k, rfl, (h.use k).2 (by unfold U; rw [hg]; rfl)⟩ hi
end
end Go.Proofs.Ytndkbhlfbeiniaa
namespace Go.Proofs.Ytndkbhlfbeiniaa
open Go Go.Hp Go.Sp
set_option linter.all false
set_option maxRecDepth 100000
set_option maxHeartbeats 1600000

def mayB (x : Sp.Item) : Bool := decide (-1099511627776 ≤ x.value ∧ x.value ≤ 1099511627776 ∧ 0 ≤ x.flags ∧ x.flags < 256)
theorem mayB_iff {x : Sp.Item} : mayB x = true ↔ May x := by
 unfold mayB
 rw [decide_eq_true_iff]
 exact ⟨fun ⟨a, b, c, d⟩ => ⟨a, b, c, d⟩, fun h => ⟨h.lo, h.hi, h.f0, h.f1⟩⟩
def Fits (x : Sp.Item) : Prop := (-9223372036854775808 ≤ x.value ∧ x.value ≤ 9223372036854775807) ∧ -9223372036854775808 ≤ x.flags ∧ x.flags ≤ 9223372036854775807
theorem may_ok {H : Heap} {x : Sp.Item} {K : Value → Heap → Prop} (hx : Fits x) (fin : ∀ H', Fr (fun _ => False) H H' → K (.bool (mayB x)) H') : CallsH Try.prog 39 #[x.val] H K := by
 have hb : mayB x = (decide (-1099511627776 ≤ x.value) && decide (x.value ≤ 1099511627776) && decide (andNot64 x.flags 255 = 0)) := by
  unfold mayB
  rw [Bool.eq_iff_iff]
  simp only [decide_eq_true_iff, Bool.and_eq_true, andNot_zero hx.2.1 hx.2.2]
  omega
 rw [hb] at fin
 have ea : bitAndNot .i64 x.flags 255 = andNot64 x.flags 255 := rfl
 refine call39 (by simp) ?_
 simp only [Try.f39, Option.getD_some]
 by_cases h1 : -1099511627776 ≤ x.value
 ·have t1 : (-1099511627776 ≤ x.value) = True := by simp [h1]
  by_cases h2 : x.value ≤ 1099511627776
  ·have t2 : (x.value ≤ 1099511627776) = True := by simp [h2]
   simp only [t1, t2, decide_true, Bool.true_and] at fin
   repeat' (first|(with_reducible first|refine jA ?_|(refine hK _ _ ?_;clear hK K)|refine jJ fun K hK=>?_|refine jK ?_|refine jL ?_|refine jM ?_|refine jN ?_|refine jO ?_|refine jP ?_|refine jQ ?_|(refine jB ?_;clear hK K)|(refine jC ?_;clear hK K)|refine jD ?_|refine jE ?_|refine jG ?_|refine jH ?_|refine jI ?_)|((with_reducible refine jR ?hq ?_);case hq=>rfl)|((first|(with_reducible first|refine jS fun K hK=>?_|refine jT ?_|refine jU ?_)|((with_reducible refine jV ?hy fun K hK=>?_);case hy=>rfl));simp only [go_sem, Nat.reduceEqDiff, Nat.reduceAdd, Nat.reduceMul, Nat.reduceLeDiff, Nat.reduceLT, Int.reduceLT, Int.reduceLE, Int.reduceEq, Int.reduceNeg, Int.reduceToNat, Nat.reducePow, reduceIte, reduceCtorEq, Sp.Item.val, t1, t2, ea, hcell_push, hcell_top, okW_push, okW_top, hcell_hset_ne, hcell_hset_off, hcell_hset_eq, okW_hset, hset_size, Array.size_push, Nat.lt_add_one, ne_add_one, add_one_ne, Nat.add_assoc, add_same, add_lt_same, Nat.reduceEqDiff, lt_add_k, add_k_ne, ne_add_k])|((with_reducible first|refine jW ?hy ?_|refine jY ?hy ?_);case hy=>rfl)|((with_reducible first|refine jX ?hy ?_|refine jZ ?hy ?_);case hy=>rfl)|((with_reducible refine jF ?hy ?_);case hy=>decide))
   have e3 : (andNot64 x.flags 255 == 0) = decide (andNot64 x.flags 255 = 0) := by
    rw [Bool.eq_iff_iff]; simp
   rw [← e3] at fin
   exact fin _ (by ((repeat (first | refine Fr.set ?_ (by simp) _ | refine Fr.push ?_ _)); exact Fr.refl _ _))
  ·have t2 : (x.value ≤ 1099511627776) = False := by simp; omega
   simp only [t1, t2, decide_true, decide_false, Bool.and_false, Bool.false_and] at fin
   repeat' (first|(with_reducible first|refine jA ?_|(refine hK _ _ ?_;clear hK K)|refine jJ fun K hK=>?_|refine jK ?_|refine jL ?_|refine jM ?_|refine jN ?_|refine jO ?_|refine jP ?_|refine jQ ?_|(refine jB ?_;clear hK K)|(refine jC ?_;clear hK K)|refine jD ?_|refine jE ?_|refine jG ?_|refine jH ?_|refine jI ?_)|((with_reducible refine jR ?hq ?_);case hq=>rfl)|((first|(with_reducible first|refine jS fun K hK=>?_|refine jT ?_|refine jU ?_)|((with_reducible refine jV ?hy fun K hK=>?_);case hy=>rfl));simp only [go_sem, Nat.reduceEqDiff, Nat.reduceAdd, Nat.reduceMul, Nat.reduceLeDiff, Nat.reduceLT, Int.reduceLT, Int.reduceLE, Int.reduceEq, Int.reduceNeg, Int.reduceToNat, Nat.reducePow, reduceIte, reduceCtorEq, Sp.Item.val, t1, t2, ea, hcell_push, hcell_top, okW_push, okW_top, hcell_hset_ne, hcell_hset_off, hcell_hset_eq, okW_hset, hset_size, Array.size_push, Nat.lt_add_one, ne_add_one, add_one_ne, Nat.add_assoc, add_same, add_lt_same, Nat.reduceEqDiff, lt_add_k, add_k_ne, ne_add_k])|((with_reducible first|refine jW ?hy ?_|refine jY ?hy ?_);case hy=>rfl)|((with_reducible first|refine jX ?hy ?_|refine jZ ?hy ?_);case hy=>rfl)|((with_reducible refine jF ?hy ?_);case hy=>decide))
   exact fin _ (by ((repeat (first | refine Fr.set ?_ (by simp) _ | refine Fr.push ?_ _)); exact Fr.refl _ _))
 ·have t1 : (-1099511627776 ≤ x.value) = False := by simp; omega
  simp only [t1, decide_false, Bool.false_and] at fin
  repeat' (first|(with_reducible first|refine jA ?_|(refine hK _ _ ?_;clear hK K)|refine jJ fun K hK=>?_|refine jK ?_|refine jL ?_|refine jM ?_|refine jN ?_|refine jO ?_|refine jP ?_|refine jQ ?_|(refine jB ?_;clear hK K)|(refine jC ?_;clear hK K)|refine jD ?_|refine jE ?_|refine jG ?_|refine jH ?_|refine jI ?_)|((with_reducible refine jR ?hq ?_);case hq=>rfl)|((first|(with_reducible first|refine jS fun K hK=>?_|refine jT ?_|refine jU ?_)|((with_reducible refine jV ?hy fun K hK=>?_);case hy=>rfl));simp only [go_sem, Nat.reduceEqDiff, Nat.reduceAdd, Nat.reduceMul, Nat.reduceLeDiff, Nat.reduceLT, Int.reduceLT, Int.reduceLE, Int.reduceEq, Int.reduceNeg, Int.reduceToNat, Nat.reducePow, reduceIte, reduceCtorEq, Sp.Item.val, t1, ea, hcell_push, hcell_top, okW_push, okW_top, hcell_hset_ne, hcell_hset_off, hcell_hset_eq, okW_hset, hset_size, Array.size_push, Nat.lt_add_one, ne_add_one, add_one_ne, Nat.add_assoc, add_same, add_lt_same, Nat.reduceEqDiff, lt_add_k, add_k_ne, ne_add_k])|((with_reducible first|refine jW ?hy ?_|refine jY ?hy ?_);case hy=>rfl)|((with_reducible first|refine jX ?hy ?_|refine jZ ?hy ?_);case hy=>rfl)|((with_reducible refine jF ?hy ?_);case hy=>decide))
  exact fin _ (by ((repeat (first | refine Fr.set ?_ (by simp) _ | refine Fr.push ?_ _)); exact Fr.refl _ _))
theorem new_no {H : Heap} {n : Int} {K : Value → Heap → Prop} (hn : n < 0 ∨ 1024 < n) (fin : K (.tuple #[.pointer none, .int .i64 1]) H) : CallsH Try.prog 29 #[.int .i64 n] H K := by
 refine call29 (by simp) ?_
 simp only [Try.f29, Option.getD_some]
 by_cases h0 : n < 0
 ·have e1 : (n < 0) = True := by simp [h0]
  repeat' (first|(with_reducible first|refine jA ?_|(refine hK _ _ ?_;clear hK K)|refine jJ fun K hK=>?_|refine jK ?_|refine jL ?_|refine jM ?_|refine jN ?_|refine jO ?_|refine jP ?_|refine jQ ?_|(refine jB ?_;clear hK K)|(refine jC ?_;clear hK K)|refine jD ?_|refine jE ?_|refine jG ?_|refine jH ?_|refine jI ?_)|((with_reducible refine jR ?hq ?_);case hq=>rfl)|((first|(with_reducible first|refine jS fun K hK=>?_|refine jT ?_|refine jU ?_)|((with_reducible refine jV ?hy fun K hK=>?_);case hy=>rfl));simp only [go_sem, Nat.reduceEqDiff, Nat.reduceAdd, Nat.reduceMul, Nat.reduceLeDiff, Nat.reduceLT, Int.reduceLT, Int.reduceLE, Int.reduceEq, Int.reduceNeg, Int.reduceToNat, Nat.reducePow, reduceIte, reduceCtorEq, e1])|((with_reducible first|refine jW ?hy ?_|refine jY ?hy ?_);case hy=>rfl)|((with_reducible first|refine jX ?hy ?_|refine jZ ?hy ?_);case hy=>rfl)|((with_reducible refine jF ?hy ?_);case hy=>decide))
  exact fin
 ·have e1 : (n < 0) = False := by simp [h0]
  have e2 : (1024 < n) = True := by simp; omega
  repeat' (first|(with_reducible first|refine jA ?_|(refine hK _ _ ?_;clear hK K)|refine jJ fun K hK=>?_|refine jK ?_|refine jL ?_|refine jM ?_|refine jN ?_|refine jO ?_|refine jP ?_|refine jQ ?_|(refine jB ?_;clear hK K)|(refine jC ?_;clear hK K)|refine jD ?_|refine jE ?_|refine jG ?_|refine jH ?_|refine jI ?_)|((with_reducible refine jR ?hq ?_);case hq=>rfl)|((first|(with_reducible first|refine jS fun K hK=>?_|refine jT ?_|refine jU ?_)|((with_reducible refine jV ?hy fun K hK=>?_);case hy=>rfl));simp only [go_sem, Nat.reduceEqDiff, Nat.reduceAdd, Nat.reduceMul, Nat.reduceLeDiff, Nat.reduceLT, Int.reduceLT, Int.reduceLE, Int.reduceEq, Int.reduceNeg, Int.reduceToNat, Nat.reducePow, reduceIte, reduceCtorEq, e1, e2])|((with_reducible first|refine jW ?hy ?_|refine jY ?hy ?_);case hy=>rfl)|((with_reducible first|refine jX ?hy ?_|refine jZ ?hy ?_);case hy=>rfl)|((with_reducible refine jF ?hy ?_);case hy=>decide))
  exact fin
def Sq.new (n : Nat) : Sq := ⟨n, 1, [], fun _ => Sp.Item.zero, []⟩
theorem new_ok {H : Heap} {n : Nat} {K : Value → Heap → Prop} (hn : n ≤ 1024)
  (fin : ∀ H' f T, FoM H' f T (Sq.new n) → Fr (fun _ => False) H H' → (∀ b, T b → H.size ≤ b) → T f → K (.tuple #[.pointer (some ⟨f, 0, none⟩), .int .i64 0]) H') : CallsH Try.prog 29 #[.int .i64 (n : Nat)] H K := by
 have e1 : ((n : Int) < 0) = False := by simp
 have e2 : (1024 < (n : Int)) = False := by simp; omega
 refine call29 (by simp) ?_
 simp only [Try.f29, Option.getD_some]
 repeat' (first|(with_reducible first|refine jA ?_|(refine hK _ _ ?_;clear hK K)|refine jJ fun K hK=>?_|refine jK ?_|refine jL ?_|refine jM ?_|refine jN ?_|refine jO ?_|refine jP ?_|refine jQ ?_|(refine jB ?_;clear hK K)|(refine jC ?_;clear hK K)|refine jD ?_|refine jE ?_|refine jG ?_|refine jH ?_|refine jI ?_)|((with_reducible refine jR ?hq ?_);case hq=>rfl)|((first|(with_reducible first|refine jS fun K hK=>?_|refine jT ?_|refine jU ?_)|((with_reducible refine jV ?hy fun K hK=>?_);case hy=>rfl));simp only [go_sem, Nat.reduceEqDiff, Nat.reduceAdd, Nat.reduceMul, Nat.reduceLeDiff, Nat.reduceLT, Int.reduceLT, Int.reduceLE, Int.reduceEq, Int.reduceNeg, Int.reduceToNat, Nat.reducePow, reduceIte, reduceCtorEq, e1, e2])|((with_reducible first|refine jW ?hy ?_|refine jY ?hy ?_);case hy=>rfl)|((with_reducible first|refine jX ?hy ?_|refine jZ ?hy ?_);case hy=>rfl)|((with_reducible refine jF ?hy ?_);case hy=>decide))
 refine ArQPtr.new_ok (n := n) (by omega) ?_
 intro H1 p g hA hf hp hg
 obtain ⟨c, rest, b1, b2, hl, hc⟩ := hA.at_
 have hpl := b1.lt
 have hgl := b2.lt
 have hs := hf.size
 repeat' (first|(with_reducible first|refine jA ?_|(refine hK _ _ ?_;clear hK K)|refine jJ fun K hK=>?_|refine jK ?_|refine jL ?_|refine jM ?_|refine jN ?_|refine jO ?_|refine jP ?_|refine jQ ?_|(refine jB ?_;clear hK K)|(refine jC ?_;clear hK K)|refine jD ?_|refine jE ?_|refine jG ?_|refine jH ?_|refine jI ?_)|((with_reducible refine jR ?hq ?_);case hq=>rfl)|((first|(with_reducible first|refine jS fun K hK=>?_|refine jT ?_|refine jU ?_)|((with_reducible refine jV ?hy fun K hK=>?_);case hy=>rfl));simp only [go_sem, Nat.reduceEqDiff, Nat.reduceAdd, Nat.reduceMul, Nat.reduceLeDiff, Nat.reduceLT, Int.reduceLT, Int.reduceLE, Int.reduceEq, Int.reduceNeg, Int.reduceToNat, Nat.reducePow, reduceIte, reduceCtorEq, e1, e2])|((with_reducible first|refine jW ?hy ?_|refine jY ?hy ?_);case hy=>rfl)|((with_reducible first|refine jX ?hy ?_|refine jZ ?hy ?_);case hy=>rfl)|((with_reducible refine jF ?hy ?_);case hy=>decide))
 have hU : ∀ i, ¬ U (Ar.new n) i := fun i hi => by
  unfold U Ar.new Ar.get at hi
  cases i <;> simp at hi
 refine fin _ H1.size (fun b => b = H1.size ∨ b = p ∨ b = g) ⟨p, g, Ar.new n, fun _ => 0, fun _ => ⟨Sp.Item.zero, 0, 0, 0, 0, Agg.zero⟩, ⟨⟨Blk.new H1 _ _, hA.frame ((Fr.refl (fun _ => False) _).push _) (fun h => h) (fun h => h), ?_, ?_, ?_, ?_, by omega, ?_⟩, ?_, ?_, ?_, ?_⟩, rfl, rfl, rfl, ?_, ?_⟩ (hf.push _) ?_ (.inl rfl)
 ·intro h v hv; exact absurd (show U (Ar.new n) h by unfold U; rw [hv]; rfl) (hU h)
 ·exact fun h hh => absurd hh (hU h)
 ·exact fun h _ hh => absurd hh (hU h)
 ·exact fun h hh => absurd hh (hU h)
 ·exact ⟨fun h hh => absurd hh (hU h), fun h hh => absurd hh (hU h), fun h hh => absurd hh (hU h)⟩
 ·intro xs hx; cases hx
 ·exact List.nodup_nil
 ·intro h; simp [Sq.new, hU h]
 ·exact fun h hh => absurd hh (hU h)
 ·rintro b (rfl | rfl | rfl | ⟨i, hi, _⟩)
  ·exact .inl rfl
  ·exact .inr (.inl rfl)
  ·exact .inr (.inr rfl)
  ·exact absurd hi (hU i)
 ·rintro b (rfl | rfl | rfl) <;> simp <;> omega
 ·rintro b (rfl | rfl | rfl) <;> omega
section
variable {H H' : Heap} {f : Nat} {T : Nat → Prop} {S : Sq} {K : Value → Heap → Prop}
theorem make_bad {x : Sp.Item} (hM : FoM H f T S) (hx : Fits x) (hx2 : ¬ May x) (fin : ∀ H', Fr (fun _ => False) H H' → K (.tuple #[.int .i64 0, .int .i64 1]) H') :
  CallsH Try.prog 21 #[.pointer (some ⟨f, 0, none⟩), x.val] H K := by
 have hb : mayB x = false := by
  rw [← Bool.not_eq_true, mayB_iff]; exact hx2
 refine call21 (by simp) ?_
 simp only [Try.f21, Option.getD_some]
 repeat' (first|(with_reducible first|refine jA ?_|(refine hK _ _ ?_;clear hK K)|refine jJ fun K hK=>?_|refine jK ?_|refine jL ?_|refine jM ?_|refine jN ?_|refine jO ?_|refine jP ?_|refine jQ ?_|(refine jB ?_;clear hK K)|(refine jC ?_;clear hK K)|refine jD ?_|refine jE ?_|refine jG ?_|refine jH ?_|refine jI ?_)|((with_reducible refine jR ?hq ?_);case hq=>rfl)|((first|(with_reducible first|refine jS fun K hK=>?_|refine jT ?_|refine jU ?_)|((with_reducible refine jV ?hy fun K hK=>?_);case hy=>rfl));simp only [go_sem, Nat.reduceEqDiff, Nat.reduceAdd, Nat.reduceMul, Nat.reduceLeDiff, Nat.reduceLT, Int.reduceLT, Int.reduceLE, Int.reduceEq, Int.reduceNeg, Int.reduceToNat, Nat.reducePow, reduceIte, reduceCtorEq, Sp.Item.val, hcell_push, hcell_top, okW_push, okW_top, hcell_hset_ne, hcell_hset_off, hcell_hset_eq, okW_hset, hset_size, Array.size_push, Nat.lt_add_one, ne_add_one, add_one_ne, Nat.add_assoc, add_same, add_lt_same, Nat.reduceEqDiff, lt_add_k, add_k_ne, ne_add_k])|((with_reducible first|refine jW ?hy ?_|refine jY ?hy ?_);case hy=>rfl)|((with_reducible first|refine jX ?hy ?_|refine jZ ?hy ?_);case hy=>rfl)|((with_reducible refine jF ?hy ?_);case hy=>decide))
 refine may_ok hx ?_
 intro H1 hf1
 rw [hb]
 repeat' (first|(with_reducible first|refine jA ?_|(refine hK _ _ ?_;clear hK K)|refine jJ fun K hK=>?_|refine jK ?_|refine jL ?_|refine jM ?_|refine jN ?_|refine jO ?_|refine jP ?_|refine jQ ?_|(refine jB ?_;clear hK K)|(refine jC ?_;clear hK K)|refine jD ?_|refine jE ?_|refine jG ?_|refine jH ?_|refine jI ?_)|((with_reducible refine jR ?hq ?_);case hq=>rfl)|((first|(with_reducible first|refine jS fun K hK=>?_|refine jT ?_|refine jU ?_)|((with_reducible refine jV ?hy fun K hK=>?_);case hy=>rfl));simp only [go_sem, Nat.reduceEqDiff, Nat.reduceAdd, Nat.reduceMul, Nat.reduceLeDiff, Nat.reduceLT, Int.reduceLT, Int.reduceLE, Int.reduceEq, Int.reduceNeg, Int.reduceToNat, Nat.reducePow, reduceIte, reduceCtorEq, Sp.Item.val])|((with_reducible first|refine jW ?hy ?_|refine jY ?hy ?_);case hy=>rfl)|((with_reducible first|refine jX ?hy ?_|refine jZ ?hy ?_);case hy=>rfl)|((with_reducible refine jF ?hy ?_);case hy=>decide))
 exact fin _ (Fr.trans ((Fr.refl _ _).push _) hf1)
end
end Go.Proofs.Ytndkbhlfbeiniaa
