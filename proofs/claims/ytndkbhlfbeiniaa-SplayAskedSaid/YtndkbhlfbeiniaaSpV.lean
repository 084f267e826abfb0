/-
  A turn in a tree.
-/
import Derived.Test.YtndkbhlfbeiniaaSpU
namespace Go.Sp
open Go Go.Hp
set_option linter.unusedVariables false
set_option linter.unusedSimpArgs false

def ctx : List Fm → List Nat
  | [] => []
  | ⟨_, h, s⟩ :: ps => h :: (s.list ++ ctx ps)
theorem plug_perm : ∀ (ps : List Fm) (t : Tr), (plug t ps).list.Perm (t.list ++ ctx ps)
  | [], t => by simp [plug, ctx]
  | ⟨false, h, s⟩ :: ps, t => by
    have := plug_perm ps (.node t h s)
    simpa [plug, ctx, Tr.list] using this
  | ⟨true, h, s⟩ :: ps, t => by
    have h1 := plug_perm ps (.node s h t)
    simp only [plug, ctx, Tr.list] at h1 ⊢
    refine h1.trans ?_
    rw [List.append_assoc, List.cons_append]
    have e1 : (s.list ++ h :: (t.list ++ ctx ps)).Perm (h :: s.list ++ (t.list ++ ctx ps)) := List.perm_middle
    refine e1.trans ?_
    rw [← List.append_assoc]
    have e2 : (h :: s.list ++ t.list).Perm (t.list ++ (h :: s.list)) := List.perm_append_comm
    have := e2.append_right (ctx ps)
    simpa using this
theorem PathAt.congr {N N' : Nodes} {it : Nat → Item} : ∀ {ps : List Fm} {x : Nat} {xs : List Nat}, PathAt N it x xs ps → (∀ i ∈ ctx ps, N' i = N i) → PathAt N' it x xs ps
  | [], _, _, _, _ => trivial
  | ⟨false, h, s⟩ :: ps, x, xs, ⟨a, b, c, d⟩, hN => by
    simp only [ctx, List.mem_cons, List.mem_append] at hN
    exact ⟨a, by rw [hN h (.inl rfl)]; exact b, c.congr fun i hi => hN i (.inr (.inl hi)), d.congr fun i hi => hN i (.inr (.inr hi))⟩
  | ⟨true, h, s⟩ :: ps, x, xs, ⟨a, b, c, d⟩, hN => by
    simp only [ctx, List.mem_cons, List.mem_append] at hN
    exact ⟨a, by rw [hN h (.inl rfl)]; exact b, c.congr fun i hi => hN i (.inr (.inl hi)), d.congr fun i hi => hN i (.inr (.inr hi))⟩
theorem PathAt.ne_zero {N : Nodes} {it : Nat → Item} : ∀ {ps : List Fm} {x : Nat} {xs : List Nat}, PathAt N it x xs ps → 0 ∉ ctx ps
  | [], _, _, _ => by simp [ctx]
  | ⟨false, h, s⟩ :: ps, x, xs, ⟨a, b, c, d⟩ => by
    simp only [ctx, List.mem_cons, List.mem_append, not_or]
    exact ⟨Ne.symm a, c.ne_zero, d.ne_zero⟩
  | ⟨true, h, s⟩ :: ps, x, xs, ⟨a, b, c, d⟩ => by
    simp only [ctx, List.mem_cons, List.mem_append, not_or]
    exact ⟨Ne.symm a, c.ne_zero, d.ne_zero⟩
theorem PathAt.swap {N N' : Nodes} {it : Nat → Item} {ps : List Fm} {u k : Nat} {xs : List Nat} (h : PathAt N it u xs ps) (hu : u ≠ 0) (hn : u ∉ ctx ps) (hd : (ctx ps).Nodup)
    (ht : upOf ps ≠ 0 → N' (upOf ps) = (N (upOf ps)).setKid (sideN N (upOf ps) u) k) (ho : ∀ i ∈ ctx ps, i ≠ upOf ps → N' i = N i) : PathAt N' it k xs ps := by
  cases ps with
  | nil => trivial
  | cons f ps =>
    obtain ⟨side, h', s⟩ := f
    simp only [ctx, List.nodup_cons, List.mem_append, not_or, upOf, List.mem_cons] at hn hd ht ho
    have hsr : s.root ≠ u := fun e => by
      have h0 : s.root ≠ 0 := by rw [e]; exact hu
      exact hn.2.1 (e ▸ Tr.root_mem h0)
    cases side with
    | false =>
      obtain ⟨a, b, c, d⟩ := h
      refine ⟨a, ?_, c.congr fun i hi => ho i (.inr (.inl hi)) (fun e => hd.1.1 (e ▸ hi)), d.congr fun i hi => ho i (.inr (.inr hi)) (fun e => hd.1.2 (e ▸ hi))⟩
      rw [ht a]
      have e1 : sideN N h' u = 0 := by unfold sideN; rw [b]; exact if_neg hsr
      rw [e1, b]
      rfl
    | true =>
      obtain ⟨a, b, c, d⟩ := h
      refine ⟨a, ?_, c.congr fun i hi => ho i (.inr (.inl hi)) (fun e => hd.1.1 (e ▸ hi)), d.congr fun i hi => ho i (.inr (.inr hi)) (fun e => hd.1.2 (e ▸ hi))⟩
      rw [ht a]
      have e1 : sideN N h' u = 1 := by unfold sideN; rw [b]; exact if_pos rfl
      rw [e1, b]
      rfl
theorem upOf_mem {ps : List Fm} (h : upOf ps ≠ 0) : upOf ps ∈ ctx ps := by
  cases ps with
  | nil => exact absurd rfl h
  | cons f ps => simp [upOf, ctx]
theorem rot_left {N : Nodes} {it : Nat → Item} {a b c : Tr} {k u : Nat} {ps : List Fm} (h : TrAt N it 0 (plug (.node a k b) (⟨false, u, c⟩ :: ps))) (hd : ((a.list ++ k :: b.list) ++ (u :: (c.list ++ ctx ps))).Nodup)
    (hm : ∀ i ∈ (a.list ++ k :: b.list) ++ u :: c.list, May (it i)) (hl : ((a.list ++ k :: b.list) ++ u :: c.list).length ≤ 4096) : TrAt (turnN N k) it 0 (plug (.node a k (.node b u c)) ps) := by
  obtain ⟨⟨k0, ek, ha, hb⟩, u0, eu, hc, hp⟩ := (trAt_plug _ _).1 h
  simp only [upOf, Tr.root, Tr.list] at ek eu hp
  have za := ha.ne_zero
  have zb := hb.ne_zero
  have zc := hc.ne_zero
  have zp := hp.ne_zero
  have hd0 := hd
  simp only [List.nodup_append, List.nodup_cons, List.mem_append, List.mem_cons, not_or] at hd
  obtain ⟨⟨na, ⟨kb, nb⟩, dab⟩, ⟨⟨uc, up⟩, nc, np, dcp⟩, dX⟩ := hd
  have hku : k ≠ u := dX k (.inr (.inl rfl)) u (.inl rfl)
  have hkc : k ∉ c.list := fun e => dX k (.inr (.inl rfl)) k (.inr (.inl e)) rfl
  have hkp : k ∉ ctx ps := fun e => dX k (.inr (.inl rfl)) k (.inr (.inr e)) rfl
  have hua : u ∉ a.list := fun e => dX u (.inl e) u (.inl rfl) rfl
  have hub : u ∉ b.list := fun e => dX u (.inr (.inr e)) u (.inl rfl) rfl
  have hka : k ∉ a.list := fun e => dab k e k (.inl rfl) rfl
  have hbr : b.root ≠ 0 → b.root ∈ b.list := Tr.root_mem
  have hup : upOf ps ≠ 0 → upOf ps ∈ ctx ps := upOf_mem
  have hkt : k ≠ upOf ps := fun e => hkp (e ▸ hup (e ▸ k0))
  have hut : u ≠ upOf ps := fun e => up (e ▸ hup (e ▸ u0))
  have hkx : k ≠ b.root := fun e => kb (e ▸ hbr (e ▸ k0))
  have hux : u ≠ b.root := fun e => hub (e ▸ hbr (e ▸ u0))
  have htx : upOf ps ≠ b.root ∨ b.root = 0 := by
    by_cases h0 : b.root = 0
    · exact .inr h0
    · refine .inl fun e => ?_
      have h1 := hbr h0
      exact dX b.root (.inr (.inr h1)) b.root (.inr (.inr (e ▸ hup (by rw [e]; exact h0)))) rfl
  have hcr : c.root ≠ k := fun e => hkc (e ▸ Tr.root_mem (by rw [e]; exact k0))
  have es : sideN N u k = 0 := by unfold sideN; rw [eu]; exact if_neg hcr
  have et : turnN N k = pullN (pullN (hung N k u (upOf ps) b.root 0) u) k := turnN_eq N (by rw [ek]; rfl) (by rw [eu]; rfl) es (by rw [ek]; rfl)
  generalize hM : hung N k u (upOf ps) b.root 0 = M at et
  have Mk : M k = { (N k).setKid 1 u with up := upOf ps } := by rw [← hM]; exact hung_k hku hkt hkx u0
  have Mu : M u = { (N u).setKid 0 b.root with up := k } := by rw [← hM]; exact hung_u hku hut hux u0
  have Mx : b.root ≠ 0 → M b.root = { N b.root with up := u } := fun h0 => by rw [← hM]; exact hung_x hkx hux (htx.resolve_right h0) u0 h0
  have Mt : upOf ps ≠ 0 → M (upOf ps) = (N (upOf ps)).setKid (sideN N (upOf ps) u) k := fun h0 => by
    rw [← hM]
    by_cases hb0 : b.root = 0
    · rw [hb0]; exact hung_top hkt hut h0 u0 h0
    · exact hung_top hkt hut (htx.resolve_right hb0) u0 h0
  have Mo : ∀ i, i ≠ k → i ≠ u → (i ≠ b.root ∨ b.root = 0) → (i ≠ upOf ps ∨ upOf ps = 0) → M i = N i := fun i h1 h2 h3 h4 => by rw [← hM]; exact hung_ne h1 h2 h3 h4 u0
  have inX : ∀ i, i ∈ a.list ∨ i ∈ b.list ∨ i ∈ c.list → i ≠ upOf ps ∨ upOf ps = 0 := fun i hi => by
    by_cases h0 : upOf ps = 0
    · exact .inr h0
    · refine .inl fun e => ?_
      have h1 := hup h0
      rw [← e] at h1
      rcases hi with hi | hi | hi
      · exact dX i (.inl hi) i (.inr (.inr h1)) rfl
      · exact dX i (.inr (.inr hi)) i (.inr (.inr h1)) rfl
      · exact dcp i hi i h1 rfl
  have offb : ∀ i, (i ∈ a.list ∨ i ∈ c.list ∨ i ∈ ctx ps) → i ≠ b.root ∨ b.root = 0 := fun i hi => by
    by_cases h0 : b.root = 0
    · exact .inr h0
    · refine .inl fun e => ?_
      have h1 := hbr h0
      rw [← e] at h1
      rcases hi with hi | hi | hi
      · exact dab i hi i (.inr h1) rfl
      · exact dX i (.inr (.inr h1)) i (.inr (.inl hi)) rfl
      · exact dX i (.inr (.inr h1)) i (.inr (.inr hi)) rfl
  have Ma : ∀ i ∈ a.list, M i = N i := fun i hi => Mo i (fun e => hka (e ▸ hi)) (fun e => hua (e ▸ hi)) (offb i (.inl hi)) (inX i (.inl hi))
  have Mc : ∀ i ∈ c.list, M i = N i := fun i hi => Mo i (fun e => hkc (e ▸ hi)) (fun e => uc (e ▸ hi)) (offb i (.inr (.inl hi))) (inX i (.inr (.inr hi)))
  have Mb : ∀ i ∈ b.list, i ≠ b.root → M i = N i := fun i hi hne => Mo i (fun e => kb (e ▸ hi)) (fun e => hub (e ▸ hi)) (.inl hne) (inX i (.inr (.inl hi)))
  have hbM : TrAt M it u b := hb.hung nb Mx Mb
  have hcM : TrAt M it u c := hc.congr Mc
  have p1 : pullR M u = recOf it k b.root u c.root (b.list ++ u :: c.list) := by
    refine pullR_of hbM.below hcM.below (by rw [Mu, eu]; rfl) (by rw [Mu]) (by rw [Mu]; rfl) (by rw [Mu, eu]; rfl) (fun i hi => hm i ?_) ?_
    · simp only [List.mem_append, List.mem_cons] at hi ⊢
      rcases hi with hi | hi | hi
      · exact .inl (.inr (.inr hi))
      · exact .inr (.inl hi)
      · exact .inr (.inr hi)
    · simp only [List.length_append, List.length_cons] at hl ⊢; omega
  have N5 : pullN M u = upd M u (recOf it k b.root u c.root (b.list ++ u :: c.list)) := by unfold pullN; rw [p1]
  rw [N5] at et
  have haM : TrAt (upd M u (recOf it k b.root u c.root (b.list ++ u :: c.list))) it k a := ha.congr fun i hi => by
    rw [upd_ne (i := i) _ _ (show i ≠ u from fun e => hua (e ▸ hi))]; exact Ma i hi
  have p2 : pullR (upd M u (recOf it k b.root u c.root (b.list ++ u :: c.list))) k = recOf it (upOf ps) a.root k u (a.list ++ k :: (b.list ++ u :: c.list)) := by
    have e5 : upd M u (recOf it k b.root u c.root (b.list ++ u :: c.list)) k = M k := upd_ne _ _ hku
    refine pullR_of haM.below ?_ (by rw [e5, Mk, ek]; rfl) (by rw [e5, Mk]) (by rw [e5, Mk, ek]; rfl) (by rw [e5, Mk]; rfl) (fun i hi => hm i ?_) ?_
    · unfold belowN
      rw [if_neg u0, upd_same]
      rfl
    · simp only [List.mem_append, List.mem_cons] at hi ⊢
      rcases hi with hi | hi | hi | hi | hi
      · exact .inl (.inl hi)
      · exact .inl (.inr (.inl hi))
      · exact .inl (.inr (.inr hi))
      · exact .inr (.inl hi)
      · exact .inr (.inr hi)
    · simp only [List.length_append, List.length_cons] at hl ⊢; omega
  have N6 : turnN N k = upd (upd M u (recOf it k b.root u c.root (b.list ++ u :: c.list))) k (recOf it (upOf ps) a.root k u (a.list ++ k :: (b.list ++ u :: c.list))) := by
    rw [et]; unfold pullN; rw [p2]
  have old : ∀ i, i ≠ k → i ≠ u → turnN N k i = M i := fun i h1 h2 => by rw [N6, upd_ne _ _ h1, upd_ne _ _ h2]
  refine (trAt_plug _ _).2 ⟨⟨k0, by rw [N6, upd_same]; rfl, ha.congr fun i hi => ?_, u0, ?_, ?_, ?_⟩, ?_⟩
  · rw [old i (fun e => hka (e ▸ hi)) (fun e => hua (e ▸ hi))]; exact Ma i hi
  · rw [N6, upd_ne _ _ (Ne.symm hku), upd_same]
  · exact hbM.congr fun i hi => old i (fun e => kb (e ▸ hi)) (fun e => hub (e ▸ hi))
  · exact hcM.congr fun i hi => old i (fun e => hkc (e ▸ hi)) (fun e => uc (e ▸ hi))
  · simp only [Tr.root, Tr.list]
    have e : a.list ++ k :: (b.list ++ u :: c.list) = (a.list ++ k :: b.list) ++ u :: c.list := by simp
    rw [e]
    refine hp.swap u0 up np (fun h0 => ?_) (fun i hi hne => ?_)
    · rw [old _ (Ne.symm hkt) (Ne.symm hut)]; exact Mt h0
    · rw [old i (fun e => hkp (e ▸ hi)) (fun e => up (e ▸ hi))]
      exact Mo i (fun e => hkp (e ▸ hi)) (fun e => up (e ▸ hi)) (offb i (.inr (.inr hi))) (.inl hne)
theorem rot_right {N : Nodes} {it : Nat → Item} {a b c : Tr} {k u : Nat} {ps : List Fm} (h : TrAt N it 0 (plug (.node a k b) (⟨true, u, c⟩ :: ps))) (hd : ((a.list ++ k :: b.list) ++ (u :: (c.list ++ ctx ps))).Nodup)
    (hm : ∀ i ∈ (a.list ++ k :: b.list) ++ u :: c.list, May (it i)) (hl : ((a.list ++ k :: b.list) ++ u :: c.list).length ≤ 4096) : TrAt (turnN N k) it 0 (plug (.node (.node c u a) k b) ps) := by
  obtain ⟨⟨k0, ek, ha, hb⟩, u0, eu, hc, hp⟩ := (trAt_plug _ _).1 h
  simp only [upOf, Tr.root, Tr.list] at ek eu hp
  have za := ha.ne_zero
  have zb := hb.ne_zero
  have zc := hc.ne_zero
  have zp := hp.ne_zero
  have hd0 := hd
  simp only [List.nodup_append, List.nodup_cons, List.mem_append, List.mem_cons, not_or] at hd
  obtain ⟨⟨na, ⟨kb, nb⟩, dab⟩, ⟨⟨uc, up⟩, nc, np, dcp⟩, dX⟩ := hd
  have hku : k ≠ u := dX k (.inr (.inl rfl)) u (.inl rfl)
  have hkc : k ∉ c.list := fun e => dX k (.inr (.inl rfl)) k (.inr (.inl e)) rfl
  have hkp : k ∉ ctx ps := fun e => dX k (.inr (.inl rfl)) k (.inr (.inr e)) rfl
  have hua : u ∉ a.list := fun e => dX u (.inl e) u (.inl rfl) rfl
  have hub : u ∉ b.list := fun e => dX u (.inr (.inr e)) u (.inl rfl) rfl
  have hka : k ∉ a.list := fun e => dab k e k (.inl rfl) rfl
  have hbr : a.root ≠ 0 → a.root ∈ a.list := Tr.root_mem
  have hup : upOf ps ≠ 0 → upOf ps ∈ ctx ps := upOf_mem
  have hkt : k ≠ upOf ps := fun e => hkp (e ▸ hup (e ▸ k0))
  have hut : u ≠ upOf ps := fun e => up (e ▸ hup (e ▸ u0))
  have hkx : k ≠ a.root := fun e => hka (e ▸ hbr (e ▸ k0))
  have hux : u ≠ a.root := fun e => hua (e ▸ hbr (e ▸ u0))
  have htx : upOf ps ≠ a.root ∨ a.root = 0 := by
    by_cases h0 : a.root = 0
    · exact .inr h0
    · refine .inl fun e => ?_
      have h1 := hbr h0
      exact dX a.root (.inl h1) a.root (.inr (.inr (e ▸ hup (by rw [e]; exact h0)))) rfl
  have es : sideN N u k = 1 := by unfold sideN; rw [eu]; exact if_pos rfl
  have et : turnN N k = pullN (pullN (hung N k u (upOf ps) a.root 1) u) k := turnN_eq N (by rw [ek]; rfl) (by rw [eu]; rfl) es (by rw [ek]; rfl)
  generalize hM : hung N k u (upOf ps) a.root 1 = M at et
  have Mk : M k = { (N k).setKid 0 u with up := upOf ps } := by rw [← hM]; exact hung_k hku hkt hkx u0
  have Mu : M u = { (N u).setKid 1 a.root with up := k } := by rw [← hM]; exact hung_u hku hut hux u0
  have Mx : a.root ≠ 0 → M a.root = { N a.root with up := u } := fun h0 => by rw [← hM]; exact hung_x hkx hux (htx.resolve_right h0) u0 h0
  have Mt : upOf ps ≠ 0 → M (upOf ps) = (N (upOf ps)).setKid (sideN N (upOf ps) u) k := fun h0 => by
    rw [← hM]
    by_cases hb0 : a.root = 0
    · rw [hb0]; exact hung_top hkt hut h0 u0 h0
    · exact hung_top hkt hut (htx.resolve_right hb0) u0 h0
  have Mo : ∀ i, i ≠ k → i ≠ u → (i ≠ a.root ∨ a.root = 0) → (i ≠ upOf ps ∨ upOf ps = 0) → M i = N i := fun i h1 h2 h3 h4 => by rw [← hM]; exact hung_ne h1 h2 h3 h4 u0
  have inX : ∀ i, i ∈ a.list ∨ i ∈ b.list ∨ i ∈ c.list → i ≠ upOf ps ∨ upOf ps = 0 := fun i hi => by
    by_cases h0 : upOf ps = 0
    · exact .inr h0
    · refine .inl fun e => ?_
      have h1 := hup h0
      rw [← e] at h1
      rcases hi with hi | hi | hi
      · exact dX i (.inl hi) i (.inr (.inr h1)) rfl
      · exact dX i (.inr (.inr hi)) i (.inr (.inr h1)) rfl
      · exact dcp i hi i h1 rfl
  have offb : ∀ i, (i ∈ b.list ∨ i ∈ c.list ∨ i ∈ ctx ps) → i ≠ a.root ∨ a.root = 0 := fun i hi => by
    by_cases h0 : a.root = 0
    · exact .inr h0
    · refine .inl fun e => ?_
      have h1 := hbr h0
      rw [← e] at h1
      rcases hi with hi | hi | hi
      · exact dab i h1 i (.inr hi) rfl
      · exact dX i (.inl h1) i (.inr (.inl hi)) rfl
      · exact dX i (.inl h1) i (.inr (.inr hi)) rfl
  have Mb : ∀ i ∈ b.list, M i = N i := fun i hi => Mo i (fun e => kb (e ▸ hi)) (fun e => hub (e ▸ hi)) (offb i (.inl hi)) (inX i (.inr (.inl hi)))
  have Mc : ∀ i ∈ c.list, M i = N i := fun i hi => Mo i (fun e => hkc (e ▸ hi)) (fun e => uc (e ▸ hi)) (offb i (.inr (.inl hi))) (inX i (.inr (.inr hi)))
  have Ma : ∀ i ∈ a.list, i ≠ a.root → M i = N i := fun i hi hne => Mo i (fun e => hka (e ▸ hi)) (fun e => hua (e ▸ hi)) (.inl hne) (inX i (.inl hi))
  have haM : TrAt M it u a := ha.hung na Mx Ma
  have hcM : TrAt M it u c := hc.congr Mc
  have p1 : pullR M u = recOf it k c.root u a.root (c.list ++ u :: a.list) := by
    refine pullR_of hcM.below haM.below (by rw [Mu, eu]; rfl) (by rw [Mu]) (by rw [Mu, eu]; rfl) (by rw [Mu]; rfl) (fun i hi => hm i ?_) ?_
    · simp only [List.mem_append, List.mem_cons] at hi ⊢
      rcases hi with hi | hi | hi
      · exact .inr (.inr hi)
      · exact .inr (.inl hi)
      · exact .inl (.inl hi)
    · simp only [List.length_append, List.length_cons] at hl ⊢; omega
  have N5 : pullN M u = upd M u (recOf it k c.root u a.root (c.list ++ u :: a.list)) := by unfold pullN; rw [p1]
  rw [N5] at et
  have hbM : TrAt (upd M u (recOf it k c.root u a.root (c.list ++ u :: a.list))) it k b := hb.congr fun i hi => by
    rw [upd_ne (i := i) _ _ (show i ≠ u from fun e => hub (e ▸ hi))]; exact Mb i hi
  have p2 : pullR (upd M u (recOf it k c.root u a.root (c.list ++ u :: a.list))) k = recOf it (upOf ps) u k b.root ((c.list ++ u :: a.list) ++ k :: b.list) := by
    have e5 : upd M u (recOf it k c.root u a.root (c.list ++ u :: a.list)) k = M k := upd_ne _ _ hku
    refine pullR_of (xs := c.list ++ u :: a.list) ?_ hbM.below (by rw [e5, Mk, ek]; rfl) (by rw [e5, Mk]) (by rw [e5, Mk]; rfl) (by rw [e5, Mk, ek]; rfl) (fun i hi => hm i ?_) ?_
    · unfold belowN
      rw [if_neg u0, upd_same]
      rfl
    · simp only [List.mem_append, List.mem_cons] at hi ⊢
      rcases hi with (hi | hi | hi) | hi | hi
      · exact .inr (.inr hi)
      · exact .inr (.inl hi)
      · exact .inl (.inl hi)
      · exact .inl (.inr (.inl hi))
      · exact .inl (.inr (.inr hi))
    · simp only [List.length_append, List.length_cons] at hl ⊢; omega
  have N6 : turnN N k = upd (upd M u (recOf it k c.root u a.root (c.list ++ u :: a.list))) k (recOf it (upOf ps) u k b.root ((c.list ++ u :: a.list) ++ k :: b.list)) := by
    rw [et]; unfold pullN; rw [p2]
  have old : ∀ i, i ≠ k → i ≠ u → turnN N k i = M i := fun i h1 h2 => by rw [N6, upd_ne _ _ h1, upd_ne _ _ h2]
  refine (trAt_plug _ _).2 ⟨⟨k0, by rw [N6, upd_same]; rfl, ⟨u0, ?_, ?_, ?_⟩, hb.congr fun i hi => ?_⟩, ?_⟩
  · rw [N6, upd_ne _ _ (Ne.symm hku), upd_same]
  · exact hcM.congr fun i hi => old i (fun e => hkc (e ▸ hi)) (fun e => uc (e ▸ hi))
  · exact haM.congr fun i hi => old i (fun e => hka (e ▸ hi)) (fun e => hua (e ▸ hi))
  · rw [old i (fun e => kb (e ▸ hi)) (fun e => hub (e ▸ hi))]; exact Mb i hi
  · simp only [Tr.root, Tr.list]
    have e : (c.list ++ u :: a.list) ++ k :: b.list = c.list ++ u :: (a.list ++ k :: b.list) := by simp
    rw [e]
    refine hp.swap u0 up np (fun h0 => ?_) (fun i hi hne => ?_)
    · rw [old _ (Ne.symm hkt) (Ne.symm hut)]; exact Mt h0
    · rw [old i (fun e => hkp (e ▸ hi)) (fun e => up (e ▸ hi))]
      exact Mo i (fun e => hkp (e ▸ hi)) (fun e => up (e ▸ hi)) (offb i (.inr (.inr hi))) (.inl hne)
end Go.Sp
