/-
  Linked trees, plain: from a node up to its path's root; all pushes of a splay; where a node stands; what a rotation does by handle.
  Linked trees, plain: a rotation in a tree.
  Linked trees, plain: a step of a splay.
  Linked trees in memory: slices.Backward; splay.
  Rooted trees told by who is above whom: ways up, rooting anew, cutting, linking.
  Linked trees: paths of rooted trees; what cutting a path and laying another one behind it makes.
  Linked trees: a path turned about; cut above its last one; pushes on the way to its first one.
  Linked trees in memory: a row splayed; access.
-/
import Derived.Test.YtoplhfhjokjbiaaG0
import Derived.Test.YtoplhfhjokjbiaaHpV
import Derived.Test.YtoplhfhjokjbiaaHpA
namespace Go.Li
open Go Go.Hp
set_option linter.unusedVariables false
set_option linter.unusedSimpArgs false

def IsWay (N : Nodes) : Nat → List Nat → Prop
 | _, [] => False
 | x, [y] => y = x ∧ topB N x = true
 | x, y :: z :: r => y = x ∧ topB N x = false ∧ IsWay N (N x).up (z :: r)
theorem IsWay.at {N : Nodes} : ∀ {ws : List Nat} {x : Nat}, IsWay N x ws → ws[0]? = some x ∧ (∀ k y z, ws[k]? = some y → ws[k + 1]? = some z → topB N y = false ∧ z = (N y).up) ∧ (∀ k y, ws[k]? = some y → ws.length = k + 1 → topB N y = true)
 | [], _, h => h.elim
 | [y], x, h => by
  obtain ⟨rfl, h⟩ := h
  refine ⟨rfl, fun k y z h1 h2 => ?_, fun k y h1 h2 => ?_⟩
  ·cases k <;> simp at h2
  ·simp at h2; subst h2; simp at h1; subst h1; exact h
 | y :: z :: r, x, h => by
  obtain ⟨rfl, h1, h2⟩ := h
  obtain ⟨i1, i2, i3⟩ := IsWay.at h2
  refine ⟨rfl, fun k a b ha hb => ?_, fun k a ha hk => ?_⟩
  ·cases k with
   | zero => simp at ha hb i1; subst ha hb; exact ⟨h1, i1⟩
   | succ k => exact i2 k a b (by simpa using ha) (by simpa using hb)
  ·cases k with
   | zero => simp at hk
   | succ k => exact i3 k a (by simpa using ha) (by simpa using hk)
theorem IsWay.ne {N : Nodes} {ws : List Nat} {x : Nat} (h : IsWay N x ws) : ws ≠ [] := by rintro rfl; exact h
def pushAll (N : Nodes) (ws : List Nat) : Nodes := ws.foldr (fun x M => pushN M x) N
theorem pushAll_up {N : Nodes} : ∀ (ws : List Nat) (i : Nat), (pushAll N ws i).up = (N i).up ∧ (pushAll N ws i).isEdge = (N i).isEdge ∧ (pushAll N ws i).e = (N i).e ∧ (pushAll N ws i).best = (N i).best
 | [], i => ⟨rfl, rfl, rfl, rfl⟩
 | x :: ws, i => by
  obtain ⟨a, b, c, d⟩ := pushAll_up (N := N) ws i
  obtain ⟨a', b', c', d'⟩ := pushN_up (N := pushAll N ws) (h := x) i
  exact ⟨a'.trans a, b'.trans b, c'.trans c, d'.trans d⟩
theorem pushAll_snoc (N : Nodes) (ws : List Nat) (x : Nat) : pushAll N (ws ++ [x]) = pushAll (pushN N x) ws := by
 unfold pushAll; rw [List.foldr_append]; rfl
def wayT : Tr → Nat → List Nat
 | .nil, _ => []
 | .node l x r, h => if h = x then [x] else if h ∈ l.list then wayT l h ++ [x] else wayT r h ++ [x]
theorem pushAll_tr {E : Es} : ∀ {t : Tr} {N : Nodes} {up h : Nat}, TrAt N E false up t → t.list.Nodup → h ∈ t.list →
  TrAt (pushAll N (wayT t h)) E false up t ∧ (∀ x ∈ wayT t h, (pushAll N (wayT t h) x).turned = false) ∧ (∀ i, i ∉ t.list → pushAll N (wayT t h) i = N i)
 | .nil, _, _, _, _, _, hm => by simp [Tr.list] at hm
 | .node l x r, N, up, h, hT, hd, hm => by
  obtain ⟨p1, p2, p3⟩ := push_tr hT hd
  obtain ⟨a1, a2, a3, a4, a5, a6, a7⟩ := p1
  rw [p2] at a6 a7
  have hd0 := hd
  simp only [Tr.list, List.nodup_append, List.nodup_cons] at hd
  obtain ⟨n1, ⟨n2, n3⟩, n4⟩ := hd
  simp only [Tr.list, List.mem_append, List.mem_cons] at hm
  unfold wayT
  by_cases hx : h = x
  ·rw [if_pos hx]
   exact ⟨⟨a1, a2, a3, a4, a5, by show TrAt _ _ (false != (pushN N x x).turned) x l; rw [p2]; exact a6, by show TrAt _ _ (false != (pushN N x x).turned) x r; rw [p2]; exact a7⟩, fun y hy => by rw [List.mem_singleton.1 hy]; exact p2, p3⟩
  ·rw [if_neg hx]
   by_cases hl : h ∈ l.list
   ·rw [if_pos hl, pushAll_snoc]
    obtain ⟨b1, b2, b3⟩ := pushAll_tr (N := pushN N x) a6 n1 hl
    have hxx : pushAll (pushN N x) (wayT l h) x = pushN N x x := b3 x fun hi => n4 x hi x (.head _) rfl
    refine ⟨⟨a1, by rw [hxx]; exact a2, by rw [hxx]; exact a3, by rw [hxx]; exact a4, by rw [hxx]; exact a5, by rw [hxx, p2]; exact b1, by rw [hxx, p2]; exact a7.congr fun i hi => b3 i fun hil => n4 i hil i (.tail _ hi) rfl⟩, fun y hy => ?_, fun i hi => ?_⟩
    ·rcases List.mem_append.1 hy with hy | hy
     ·exact b2 y hy
     ·rw [List.mem_singleton.1 hy, hxx]; exact p2
    ·rw [b3 i fun hil => hi (by simp [Tr.list, hil])]; exact p3 i hi
   ·rw [if_neg hl, pushAll_snoc]
    have hr : h ∈ r.list := by
     rcases hm with hm | hm | hm
     ·exact absurd hm hl
     ·exact absurd hm hx
     ·exact hm
    obtain ⟨b1, b2, b3⟩ := pushAll_tr (N := pushN N x) a7 n3 hr
    have hxx : pushAll (pushN N x) (wayT r h) x = pushN N x x := b3 x n2
    refine ⟨⟨a1, by rw [hxx]; exact a2, by rw [hxx]; exact a3, by rw [hxx]; exact a4, by rw [hxx]; exact a5, by rw [hxx, p2]; exact a6.congr fun i hi => b3 i fun hir => n4 i hi i (.tail _ hir) rfl, by rw [hxx, p2]; exact b1⟩, fun y hy => ?_, fun i hi => ?_⟩
    ·rcases List.mem_append.1 hy with hy | hy
     ·exact b2 y hy
     ·rw [List.mem_singleton.1 hy, hxx]; exact p2
    ·rw [b3 i fun hir => hi (by simp [Tr.list, hir])]; exact p3 i hi
def UpCh (N : Nodes) : Nat → List Nat → Prop
 | _, [] => False
 | x, [y] => y = x
 | x, y :: z :: r => y = x ∧ topB N x = false ∧ UpCh N (N x).up (z :: r)
theorem UpCh.snoc {N : Nodes} : ∀ {ws : List Nat} {x y z : Nat}, UpCh N x ws → ws.getLast? = some z → topB N z = false → (N z).up = y → UpCh N x (ws ++ [y])
 | [], _, _, _, h, _, _, _ => h.elim
 | [a], x, y, z, h, hl, ht, hu => by
  simp at hl
  subst hl
  obtain rfl : a = x := h
  exact ⟨rfl, ht, hu.symm⟩
 | a :: b :: r, x, y, z, ⟨h1, h2, h3⟩, hl, ht, hu => ⟨h1, h2, UpCh.snoc (ws := b :: r) h3 (by simpa using hl) ht hu⟩
theorem UpCh.isWay {N : Nodes} : ∀ {ws : List Nat} {x z : Nat}, UpCh N x ws → ws.getLast? = some z → topB N z = true → IsWay N x ws
 | [], _, _, h, _, _ => h.elim
 | [a], x, z, h, hl, ht => by
  simp at hl
  subst hl
  obtain rfl : a = x := h
  exact ⟨rfl, ht⟩
 | a :: b :: r, x, z, ⟨h1, h2, h3⟩, hl, ht => ⟨h1, h2, UpCh.isWay (ws := b :: r) h3 (by simpa using hl) ht⟩
theorem topB_kid {N : Nodes} {x y : Nat} {s : Bool} (hx : x ≠ 0) (hu : (N y).up = x) (hk : (N x).kid s = y) : topB N y = false := by
 unfold topB hasK
 rw [hu]
 cases s
 ·have : (N x).l = y := hk
  simp [hx, this]
 ·have : (N x).r = y := hk
  simp [hx, this]
theorem wayT_up {E : Es} {N : Nodes} : ∀ {t : Tr} {rev : Bool} {up h : Nat}, TrAt N E rev up t → h ∈ t.list → UpCh N h (wayT t h) ∧ (wayT t h).getLast? = some t.root ∧ ∀ x ∈ wayT t h, x ∈ t.list
 | .nil, _, _, _, _, hm => by simp [Tr.list] at hm
 | .node l x r, rev, up, h, ⟨a1, a2, a3, a4, a5, a6, a7⟩, hm => by
  simp only [Tr.list, List.mem_append, List.mem_cons] at hm
  unfold wayT
  by_cases hx : h = x
  ·rw [if_pos hx]
   exact ⟨hx.symm, rfl, fun y hy => by rw [List.mem_singleton.1 hy]; simp [Tr.list]⟩
  ·rw [if_neg hx]
   by_cases hl : h ∈ l.list
   ·rw [if_pos hl]
    obtain ⟨b1, b2, b3⟩ := wayT_up a6 hl
    have h0 : l.root ≠ 0 := by
     cases l with
     | nil => simp [Tr.list] at hl
     | node _ _ _ => exact a6.1
    have hu := a6.root_up h0
    refine ⟨b1.snoc b2 (topB_kid a1 hu a3) hu, by simp [Tr.root], fun y hy => ?_⟩
    rcases List.mem_append.1 hy with hy | hy
    ·simp [Tr.list, b3 y hy]
    ·rw [List.mem_singleton.1 hy]; simp [Tr.list]
   ·rw [if_neg hl]
    have hr : h ∈ r.list := by
     rcases hm with hm | hm | hm
     ·exact absurd hm hl
     ·exact absurd hm hx
     ·exact hm
    obtain ⟨b1, b2, b3⟩ := wayT_up a7 hr
    have h0 : r.root ≠ 0 := by
     cases r with
     | nil => simp [Tr.list] at hr
     | node _ _ _ => exact a7.1
    have hu := a7.root_up h0
    refine ⟨b1.snoc b2 (topB_kid a1 hu a4) hu, by simp [Tr.root], fun y hy => ?_⟩
    rcases List.mem_append.1 hy with hy | hy
    ·simp [Tr.list, b3 y hy]
    ·rw [List.mem_singleton.1 hy]; simp [Tr.list]
theorem wayT_len : ∀ (t : Tr) (h : Nat), (wayT t h).length ≤ t.list.length
 | .nil, _ => by simp [wayT, Tr.list]
 | .node l x r, h => by
  have h1 := wayT_len l h
  have h2 := wayT_len r h
  unfold wayT
  split
  ·simp [Tr.list]; omega
  ·split
   ·simp [Tr.list]; omega
   ·simp [Tr.list]; omega
structure Fm where
 side : Bool
 h : Nat
 sib : Tr
def sn (s : Bool) (x : Tr) (u : Nat) (c : Tr) : Tr := if s then .node c u x else .node x u c
def sl (s : Bool) (xs : List Nat) (u : Nat) (c : List Nat) : List Nat := if s then c ++ u :: xs else xs ++ u :: c
theorem sn_list (s : Bool) (x : Tr) (u : Nat) (c : Tr) : (sn s x u c).list = sl s x.list u c.list := by cases s <;> rfl
theorem sn_root (s : Bool) (x : Tr) (u : Nat) (c : Tr) : (sn s x u c).root = u := by cases s <;> rfl
theorem mem_sl {s : Bool} {xs c : List Nat} {u i : Nat} : i ∈ sl s xs u c ↔ i ∈ xs ∨ i = u ∨ i ∈ c := by
 cases s
 ·simp [sl]
 ·simp only [sl, if_true, List.mem_append, List.mem_cons]
  constructor
  ·rintro (h | h | h) <;> simp [h]
  ·rintro (h | h | h) <;> simp [h]
def plug : Tr → List Fm → Tr
 | t, [] => t
 | t, f :: ps => plug (sn f.side t f.h f.sib) ps
def upOf (up0 : Nat) : List Fm → Nat
 | [] => up0
 | f :: _ => f.h
theorem trAt_sn {N : Nodes} {E : Es} {s : Bool} {up u : Nat} {t c : Tr} : TrAt N E false up (sn s t u c) ↔ u ≠ 0 ∧ (N u).up = up ∧ (N u).kid s = t.root ∧ (N u).kid (!s) = c.root ∧ Best E (N u).best (sl s t.list u c.list) ∧ TrAt N E (N u).turned u t ∧ TrAt N E (N u).turned u c := by
 have e : (false != (N u).turned) = (N u).turned := by cases (N u).turned <;> rfl
 cases s
 ·show (u ≠ 0 ∧ (N u).up = up ∧ (N u).kid false = t.root ∧ (N u).kid (!false) = c.root ∧ Best E (N u).best (t.list ++ u :: c.list) ∧ TrAt N E (false != (N u).turned) u t ∧ TrAt N E (false != (N u).turned) u c) ↔ _
  rw [e]
  exact Iff.rfl
 ·show (u ≠ 0 ∧ (N u).up = up ∧ (N u).kid false = c.root ∧ (N u).kid (!false) = t.root ∧ Best E (N u).best (c.list ++ u :: t.list) ∧ TrAt N E (false != (N u).turned) u c ∧ TrAt N E (false != (N u).turned) u t) ↔ _
  rw [e]
  constructor
  ·rintro ⟨a, b, c, d, e, f, g⟩; exact ⟨a, b, d, c, e, g, f⟩
  ·rintro ⟨a, b, c, d, e, f, g⟩; exact ⟨a, b, d, c, e, g, f⟩
def PathAt (N : Nodes) (E : Es) (up0 : Nat) : Nat → List Nat → List Fm → Prop
 | _, _, [] => True
 | x, xs, f :: ps => f.h ≠ 0 ∧ (N f.h).up = upOf up0 ps ∧ (N f.h).kid f.side = x ∧ (N f.h).kid (!f.side) = f.sib.root ∧ (N f.h).turned = false ∧ Best E (N f.h).best (sl f.side xs f.h f.sib.list) ∧ TrAt N E false f.h f.sib ∧ PathAt N E up0 f.h (sl f.side xs f.h f.sib.list) ps
theorem trAt_plug {N : Nodes} {E : Es} {up0 : Nat} : ∀ (ps : List Fm) (t : Tr), (TrAt N E false up0 (plug t ps) ∧ ∀ f ∈ ps, (N f.h).turned = false) ↔ TrAt N E false (upOf up0 ps) t ∧ PathAt N E up0 t.root t.list ps
 | [], t => by simp [plug, upOf, PathAt]
 | f :: ps, t => by
  have := trAt_plug (N := N) (E := E) (up0 := up0) ps (sn f.side t f.h f.sib)
  simp only [plug, upOf, PathAt, List.mem_cons, forall_eq_or_imp]
  rw [sn_root, sn_list] at this
  constructor
  ·rintro ⟨h1, h2, h3⟩
   obtain ⟨k1, k2⟩ := this.1 ⟨h1, h3⟩
   obtain ⟨a, b, c, d, e, g, i⟩ := trAt_sn.1 k1
   rw [h2] at g i
   exact ⟨g, a, b, c, d, h2, e, i, k2⟩
  ·rintro ⟨g, a, b, c, d, h2, e, i, k2⟩
   obtain ⟨k1, k3⟩ := this.2 ⟨trAt_sn.2 ⟨a, b, c, d, e, by rw [h2]; exact g, by rw [h2]; exact i⟩, k2⟩
   exact ⟨k1, h2, k3⟩
def ctx : List Fm → List Nat
 | [] => []
 | f :: ps => f.h :: (f.sib.list ++ ctx ps)
theorem plug_perm : ∀ (ps : List Fm) (t : Tr), (plug t ps).list.Perm (t.list ++ ctx ps)
 | [], t => by simp [plug, ctx]
 | f :: ps, t => by
  have h1 := plug_perm ps (sn f.side t f.h f.sib)
  simp only [plug, ctx]
  refine h1.trans ?_
  rw [sn_list]
  unfold sl
  cases f.side
  ·simp
  ·simp only [if_true, List.append_assoc, List.cons_append]
   have e1 : (f.sib.list ++ f.h :: (t.list ++ ctx ps)).Perm (f.h :: f.sib.list ++ (t.list ++ ctx ps)) := List.perm_middle
   refine e1.trans ?_
   rw [← List.append_assoc]
   have e2 : (f.h :: f.sib.list ++ t.list).Perm (t.list ++ (f.h :: f.sib.list)) := List.perm_append_comm
   have := e2.append_right (ctx ps)
   simpa using this
theorem plug_list : ∀ (ps : List Fm) {t t' : Tr}, t.list = t'.list → (plug t ps).list = (plug t' ps).list
 | [], _, _, h => h
 | f :: ps, t, t', h => plug_list ps (by rw [sn_list, sn_list, h])
theorem plug_app : ∀ (ps qs : List Fm) (t : Tr), plug t (ps ++ qs) = plug (plug t ps) qs
 | [], qs, t => rfl
 | f :: ps, qs, t => plug_app ps qs _
theorem find_path {k : Nat} : ∀ {t : Tr}, k ∈ t.list → ∃ (a b : Tr) (ps : List Fm), plug (.node a k b) ps = t ∧ wayT t k = k :: ps.map (·.h)
 | .nil, h => by simp [Tr.list] at h
 | .node l x r, hk => by
  simp only [Tr.list, List.mem_append, List.mem_cons] at hk
  unfold wayT
  by_cases hx : k = x
  ·subst hx
   exact ⟨l, r, [], rfl, by simp⟩
  ·rw [if_neg hx]
   by_cases hl : k ∈ l.list
   ·obtain ⟨a, b, ps, e, ew⟩ := find_path hl
    exact ⟨a, b, ps ++ [⟨false, x, r⟩], by rw [plug_app, e]; rfl, by rw [if_pos hl, ew]; simp⟩
   ·have hr : k ∈ r.list := by
     rcases hk with h | h | h
     ·exact absurd h hl
     ·exact absurd h hx
     ·exact h
    obtain ⟨a, b, ps, e, ew⟩ := find_path hr
    exact ⟨a, b, ps ++ [⟨true, x, l⟩], by rw [plug_app, e]; rfl, by rw [if_neg hl, ew]; simp⟩
theorem upOf_mem {up0 : Nat} {ps : List Fm} (h : ps ≠ []) : upOf up0 ps ∈ ctx ps := by
 cases ps with
 | nil => exact absurd rfl h
 | cons f ps => simp [upOf, ctx]
theorem PathAt.congr {N N' : Nodes} {E : Es} {up0 : Nat} : ∀ {ps : List Fm} {x : Nat} {xs : List Nat}, PathAt N E up0 x xs ps → (∀ i ∈ ctx ps, N' i = N i) → PathAt N' E up0 x xs ps
 | [], _, _, _, _ => trivial
 | f :: ps, x, xs, ⟨a, b, c, d, e, g, i, j⟩, hN => by
  simp only [ctx, List.mem_cons, List.mem_append] at hN
  have hh := hN f.h (.inl rfl)
  exact ⟨a, by rw [hh]; exact b, by rw [hh]; exact c, by rw [hh]; exact d, by rw [hh]; exact e, by rw [hh]; exact g, i.congr fun k hk => hN k (.inr (.inl hk)), j.congr fun k hk => hN k (.inr (.inr hk))⟩
theorem PathAt.ne_zero {N : Nodes} {E : Es} {up0 : Nat} : ∀ {ps : List Fm} {x : Nat} {xs : List Nat}, PathAt N E up0 x xs ps → 0 ∉ ctx ps
 | [], _, _, _ => by simp [ctx]
 | f :: ps, x, xs, ⟨a, b, c, d, e, g, i, j⟩ => by
  simp only [ctx, List.mem_cons, List.mem_append, not_or]
  exact ⟨Ne.symm a, i.ne_zero, j.ne_zero⟩
theorem PathAt.perm {N : Nodes} {E : Es} {up0 : Nat} : ∀ {ps : List Fm} {x : Nat} {xs ys : List Nat}, PathAt N E up0 x xs ps → (∀ i, i ∈ ys ↔ i ∈ xs) → PathAt N E up0 x ys ps
 | [], _, _, _, _, _ => trivial
 | f :: ps, x, xs, ys, ⟨a, b, c, d, e, g, i, j⟩, hm => ⟨a, b, c, d, e, g.congr fun k => by rw [mem_sl, mem_sl, hm k], i, j.perm fun k => by rw [mem_sl, mem_sl, hm k]⟩
theorem setKid_kid (r : Nd) (s : Bool) (x : Nat) : (r.setKid s x).kid s = x ∧ (r.setKid s x).kid (!s) = r.kid (!s) ∧ (r.setKid s x).up = r.up ∧ (r.setKid s x).turned = r.turned ∧ (r.setKid s x).best = r.best ∧ (r.setKid s x).isEdge = r.isEdge ∧ (r.setKid s x).e = r.e := by
 cases s <;> exact ⟨rfl, rfl, rfl, rfl, rfl, rfl, rfl⟩
theorem setKid_kid' (r : Nd) (s : Bool) (x : Nat) : (r.setKid (!s) x).kid s = r.kid s := by cases s <;> rfl
section
variable {N : Nodes} {k u x : Nat} {s : Bool}
theorem rot1_ne {i : Nat} (h : i ≠ (N u).up) : rot1 N u k i = N i := by
 unfold rot1; split; rfl; rw [upd_ne _ _ h]
theorem rot6_k (h1 : k ≠ u) (h2 : k ≠ x) (h3 : k ≠ (N u).up) (h4 : u ≠ (N u).up) : rot6 N u k s x k = Nd.setKid { N k with up := (N u).up } (!s) u := by
 unfold rot6 rot5 rot4 rot3 rot2
 rw [upd_ne _ _ h1, upd_same, rot1_ne h4]
 by_cases hx : x = 0
 ·rw [if_pos hx, upd_ne _ _ h1, upd_same, rot1_ne h3]
 ·rw [if_neg hx, upd_ne _ _ h2, upd_ne _ _ h1, upd_same, rot1_ne h3]
theorem rot6_u (h1 : k ≠ u) (h2 : u ≠ x) (h4 : u ≠ (N u).up) : rot6 N u k s x u = { (N u).setKid s x with up := k } := by
 unfold rot6 rot5 rot4 rot3 rot2
 rw [upd_same, upd_ne _ _ (Ne.symm h1)]
 by_cases hx : x = 0
 ·rw [if_pos hx, upd_same, upd_ne _ _ (Ne.symm h1), rot1_ne h4]
 ·rw [if_neg hx, upd_ne _ _ h2, upd_same, upd_ne _ _ (Ne.symm h1), rot1_ne h4]
theorem rot6_x (h1 : k ≠ x) (h2 : u ≠ x) (h3 : x ≠ (N u).up) (hx : x ≠ 0) : rot6 N u k s x x = { N x with up := u } := by
 unfold rot6 rot5 rot4 rot3 rot2
 rw [upd_ne _ _ (Ne.symm h2), upd_ne _ _ (Ne.symm h1), if_neg hx, upd_same, upd_ne _ _ (Ne.symm h2), upd_ne _ _ (Ne.symm h1), rot1_ne h3]
theorem rot6_ne {i : Nat} (h1 : i ≠ k) (h2 : i ≠ u) (h3 : i ≠ x ∨ x = 0) : rot6 N u k s x i = rot1 N u k i := by
 unfold rot6 rot5 rot4 rot3 rot2
 rw [upd_ne _ _ h2, upd_ne _ _ h1]
 by_cases hx : x = 0
 ·rw [if_pos hx, upd_ne _ _ h2, upd_ne _ _ h1]
 ·rw [if_neg hx, upd_ne _ _ (h3.resolve_right hx), upd_ne _ _ h2, upd_ne _ _ h1]
theorem rot2_kid (h3 : k ≠ (N u).up) : (rot2 N u k k).kid (!s) = (N k).kid (!s) := by
 unfold rot2
 rw [upd_same, rot1_ne h3]
 cases s <;> rfl
end
end Go.Li
namespace Go.Li
open Go Go.Hp
set_option linter.unusedVariables false
set_option linter.unusedSimpArgs false

theorem PathAt.swap {N N' : Nodes} {E : Es} {up0 u k : Nat} : ∀ {ps : List Fm} {xs : List Nat}, PathAt N E up0 u xs ps → (ctx ps).Nodup →
  (∀ f r, ps = f :: r → N' f.h = (N f.h).setKid f.side k) → (∀ i ∈ ctx ps, (∀ f r, ps = f :: r → i ≠ f.h) → N' i = N i) → PathAt N' E up0 k xs ps
 | [], xs, _, _, _, _ => trivial
 | f :: ps, xs, ⟨a, b, c, d, e, g, i, j⟩, hd, h1, h2 => by
  have hf := h1 f ps rfl
  obtain ⟨s1, s2, s3, s4, s5, s6, s7⟩ := setKid_kid (N f.h) f.side k
  simp only [ctx, List.nodup_cons, List.mem_append, not_or, List.mem_cons] at hd h2
  refine ⟨a, by rw [hf, s3]; exact b, by rw [hf, s1], by rw [hf, s2]; exact d, by rw [hf, s4]; exact e, by rw [hf, s5]; exact g, i.congr fun x hx => ?_, j.congr fun x hx => ?_⟩
  ·refine h2 x (.inr (.inl hx)) fun f' r' he => ?_
   obtain ⟨rfl, rfl⟩ := List.cons.inj he
   exact fun e => hd.1.1 (e ▸ hx)
  ·refine h2 x (.inr (.inr hx)) fun f' r' he => ?_
   obtain ⟨rfl, rfl⟩ := List.cons.inj he
   exact fun e => hd.1.2 (e ▸ hx)
theorem rot1_other (N : Nodes) (u k i : Nat) : (rot1 N u k i).turned = (N i).turned ∧ (rot1 N u k i).isEdge = (N i).isEdge ∧ (rot1 N u k i).e = (N i).e := by
 unfold rot1
 split
 ·exact ⟨rfl, rfl, rfl⟩
 ·unfold upd Nd.swap
  by_cases e : i = (N u).up
  ·subst e
   simp only [if_true]
   split <;> exact ⟨rfl, rfl, rfl⟩
  ·simp [e]
theorem upd_other {N : Nodes} {h : Nat} {r : Nd} (h1 : r.turned = (N h).turned) (h2 : r.isEdge = (N h).isEdge) (h3 : r.e = (N h).e) (i : Nat) : (upd N h r i).turned = (N i).turned ∧ (upd N h r i).isEdge = (N i).isEdge ∧ (upd N h r i).e = (N i).e := by
 unfold upd
 by_cases e : i = h
 ·subst e; simp [h1, h2, h3]
 ·simp [e]
theorem tri {a b c a' b' c' a'' b'' c'' : Prop} {α β γ : Type} {x y z : α} {p q r : β} {u v w : γ} (h : x = y ∧ p = q ∧ u = v) (k : y = z ∧ q = r ∧ v = w) : x = z ∧ p = r ∧ u = w := ⟨h.1.trans k.1, h.2.1.trans k.2.1, h.2.2.trans k.2.2⟩
theorem rot6_other (N : Nodes) (u k x : Nat) (s : Bool) (i : Nat) : (rot6 N u k s x i).turned = (N i).turned ∧ (rot6 N u k s x i).isEdge = (N i).isEdge ∧ (rot6 N u k s x i).e = (N i).e := by
 have sk : ∀ (r : Nd) (s : Bool) (y : Nat), (r.setKid s y).turned = r.turned ∧ (r.setKid s y).isEdge = r.isEdge ∧ (r.setKid s y).e = r.e := fun r s y => by cases s <;> exact ⟨rfl, rfl, rfl⟩
 have h2 : ∀ i, (rot2 N u k i).turned = (N i).turned ∧ (rot2 N u k i).isEdge = (N i).isEdge ∧ (rot2 N u k i).e = (N i).e := fun i => by
  obtain ⟨a, b, c⟩ := upd_other (N := rot1 N u k) (h := k) (r := { rot1 N u k k with up := (rot1 N u k u).up }) rfl rfl rfl i
  obtain ⟨a', b', c'⟩ := rot1_other N u k i
  exact ⟨a.trans a', b.trans b', c.trans c'⟩
 have h3 : ∀ i, (rot3 N u k s x i).turned = (N i).turned ∧ (rot3 N u k s x i).isEdge = (N i).isEdge ∧ (rot3 N u k s x i).e = (N i).e := fun i => by
  obtain ⟨p, q, r⟩ := sk (rot2 N u k u) s x
  obtain ⟨a, b, c⟩ := upd_other (N := rot2 N u k) (h := u) p q r i
  obtain ⟨a', b', c'⟩ := h2 i
  exact ⟨a.trans a', b.trans b', c.trans c'⟩
 have h4 : ∀ i, (rot4 N u k s x i).turned = (N i).turned ∧ (rot4 N u k s x i).isEdge = (N i).isEdge ∧ (rot4 N u k s x i).e = (N i).e := fun i => by
  unfold rot4
  split
  ·exact h3 i
  ·obtain ⟨a, b, c⟩ := upd_other (N := rot3 N u k s x) (h := x) (r := { rot3 N u k s x x with up := u }) rfl rfl rfl i
   obtain ⟨a', b', c'⟩ := h3 i
   exact ⟨a.trans a', b.trans b', c.trans c'⟩
 have h5 : ∀ i, (rot5 N u k s x i).turned = (N i).turned ∧ (rot5 N u k s x i).isEdge = (N i).isEdge ∧ (rot5 N u k s x i).e = (N i).e := fun i => by
  obtain ⟨p, q, r⟩ := sk (rot4 N u k s x k) (!s) u
  obtain ⟨a, b, c⟩ := upd_other (N := rot4 N u k s x) (h := k) p q r i
  obtain ⟨a', b', c'⟩ := h4 i
  exact ⟨a.trans a', b.trans b', c.trans c'⟩
 obtain ⟨a, b, c⟩ := upd_other (N := rot5 N u k s x) (h := u) (r := { rot5 N u k s x u with up := k }) rfl rfl rfl i
 obtain ⟨a', b', c'⟩ := h5 i
 exact ⟨a.trans a', b.trans b', c.trans c'⟩
theorem pullN_other (N : Nodes) (h i : Nat) : (pullN N h i).turned = (N i).turned ∧ (pullN N h i).isEdge = (N i).isEdge ∧ (pullN N h i).e = (N i).e := by
 have h1 : ∀ i, (pull1 N h i).turned = (N i).turned ∧ (pull1 N h i).isEdge = (N i).isEdge ∧ (pull1 N h i).e = (N i).e := fun i => upd_other (N := N) (h := h) (r := { N h with best := heavN N (N (N h).l).best (N (N h).r).best }) rfl rfl rfl i
 unfold pullN
 split
 ·obtain ⟨a, b, c⟩ := upd_other (N := pull1 N h) (h := h) (r := { pull1 N h h with best := heavN (pull1 N h) (pull1 N h h).best h }) rfl rfl rfl i
  obtain ⟨a', b', c'⟩ := h1 i
  exact ⟨a.trans a', b.trans b', c.trans c'⟩
 ·exact h1 i
theorem rotN_other (N : Nodes) (k i : Nat) : (rotN N k i).turned = (N i).turned ∧ (rotN N k i).isEdge = (N i).isEdge ∧ (rotN N k i).e = (N i).e := by
 unfold rotN
 obtain ⟨a, b, c⟩ := pullN_other (pullN (rot6 N (N k).up k (sideN N (N k).up k) ((rot2 N (N k).up k k).kid (!sideN N (N k).up k))) (N k).up) k i
 obtain ⟨a1, b1, c1⟩ := pullN_other (rot6 N (N k).up k (sideN N (N k).up k) ((rot2 N (N k).up k k).kid (!sideN N (N k).up k))) (N k).up i
 obtain ⟨a2, b2, c2⟩ := rot6_other N (N k).up k ((rot2 N (N k).up k k).kid (!sideN N (N k).up k)) (sideN N (N k).up k) i
 exact ⟨(a.trans a1).trans a2, (b.trans b1).trans b2, (c.trans c1).trans c2⟩
theorem EOk.rot {N : Nodes} {E : Es} (h : EOk N E) (k : Nat) : EOk (rotN N k) E := h.congr fun i => (rotN_other N k i).2
theorem pull_side {M : Nodes} {E : Es} {h : Nat} {s : Bool} {p q : Tr} (hE : EOk M E) (hz : (M 0).best = 0) (hp : (M h).kid s = p.root) (hq : (M h).kid (!s) = q.root) (bp : Best E (M p.root).best p.list) (bq : Best E (M q.root).best q.list)
  (hd : (sl s p.list h q.list).Nodup) (h0 : 0 ∉ sl s p.list h q.list) : ∃ b, pullN M h = upd M h { M h with best := b } ∧ Best E b (sl s p.list h q.list) := by
 cases s with
 | false =>
  have hl : (M h).l = p.root := hp
  have hr : (M h).r = q.root := hq
  exact pull_best hE (by rw [hl]; exact bp) (by rw [hr]; exact bq) hd h0
 | true =>
  have hr : (M h).r = p.root := hp
  have hl : (M h).l = q.root := hq
  exact pull_best hE (by rw [hl]; exact bq) (by rw [hr]; exact bp) hd h0
theorem sl_nodup {s : Bool} {xs c : List Nat} {u : Nat} : (sl s xs u c).Nodup ↔ (xs ++ u :: c).Nodup := by
 cases s
 ·exact Iff.rfl
 ·refine List.Perm.nodup_iff ?_
  show (c ++ u :: xs).Perm (xs ++ u :: c)
  have h1 : (c ++ u :: xs).Perm (u :: (c ++ xs)) := List.perm_middle
  have h2 : (xs ++ u :: c).Perm (u :: (xs ++ c)) := List.perm_middle
  exact h1.trans (((List.perm_append_comm (l₁ := c) (l₂ := xs)).cons u).trans h2.symm)
theorem rot_tr {N : Nodes} {E : Es} {a b c : Tr} {k u up0 : Nat} {s : Bool} {ps : List Fm} (hT : TrAt N E false up0 (plug (sn s a k b) (⟨s, u, c⟩ :: ps))) (hf : ∀ f ∈ (⟨s, u, c⟩ : Fm) :: ps, (N f.h).turned = false) (hk : (N k).turned = false)
  (hd : ((plug (sn s a k b) (⟨s, u, c⟩ :: ps)).list).Nodup) (hE : EOk N E) (hz : (N 0).best = 0) (htop : ps = [] → topB N u = true) (hu0 : up0 ∉ (plug (sn s a k b) (⟨s, u, c⟩ :: ps)).list) :
  TrAt (rotN N k) E false up0 (plug (sn s a k (sn s b u c)) ps) ∧ (∀ i, i ∉ (plug (sn s a k b) (⟨s, u, c⟩ :: ps)).list → rotN N k i = N i) := by
 have hperm := plug_perm (⟨s, u, c⟩ :: ps) (sn s a k b)
 obtain ⟨hK, hP⟩ := (trAt_plug _ _).1 ⟨hT, hf⟩
 obtain ⟨k0, ku, ka, kb, kbest, ha, hb⟩ := trAt_sn.1 hK
 rw [hk] at ha hb
 obtain ⟨u0, uu, uk, uc, ut, ubest, hc, hps⟩ := hP
 have ku : (N k).up = u := ku
 have u0 : u ≠ 0 := u0
 have uu : (N u).up = upOf up0 ps := uu
 have uk : (N u).kid s = (sn s a k b).root := uk
 have uc : (N u).kid (!s) = c.root := uc
 have ut : (N u).turned = false := ut
 have hc : TrAt N E false u c := hc
 have hps : PathAt N E up0 u (sl s (sn s a k b).list u c.list) ps := hps
 simp only [sn_root] at uk
 have za := ha.ne_zero
 have zb := hb.ne_zero
 have zc := hc.ne_zero
 have zp := hps.ne_zero
 have hd1 := hperm.nodup_iff.1 hd
 rw [sn_list] at hd1
 simp only [ctx] at hd1
 have hmem : ∀ i, i ∈ (plug (sn s a k b) (⟨s, u, c⟩ :: ps)).list ↔ (i ∈ a.list ∨ i = k ∨ i ∈ b.list) ∨ i = u ∨ i ∈ c.list ∨ i ∈ ctx ps := fun i => by
  rw [hperm.mem_iff, sn_list, List.mem_append, mem_sl]
  simp only [ctx, List.mem_cons, List.mem_append]
 rw [List.nodup_append] at hd1
 obtain ⟨nK, nU, dX⟩ := hd1
 have nK' := sl_nodup.1 nK
 rw [List.nodup_append, List.nodup_cons] at nK'
 obtain ⟨na, ⟨kb', nb⟩, dab⟩ := nK'
 simp only [List.nodup_cons, List.nodup_append, List.mem_append, not_or] at nU
 obtain ⟨⟨uc', up'⟩, nc, np, dcp⟩ := nU
 have dX' : ∀ i j, (i ∈ a.list ∨ i = k ∨ i ∈ b.list) → (j = u ∨ j ∈ c.list ∨ j ∈ ctx ps) → i ≠ j := fun i j hi hj => dX i (mem_sl.2 hi) j (by simpa using hj)
 have hku : k ≠ u := dX' k u (.inr (.inl rfl)) (.inl rfl)
 have hkc : k ∉ c.list := fun e => dX' k k (.inr (.inl rfl)) (.inr (.inl e)) rfl
 have hkp : k ∉ ctx ps := fun e => dX' k k (.inr (.inl rfl)) (.inr (.inr e)) rfl
 have hua : u ∉ a.list := fun e => dX' u u (.inl e) (.inl rfl) rfl
 have hub : u ∉ b.list := fun e => dX' u u (.inr (.inr e)) (.inl rfl) rfl
 have hka : k ∉ a.list := fun e => dab k e k (.head _) rfl
 obtain ⟨top, et⟩ : ∃ top, upOf up0 ps = top := ⟨_, rfl⟩
 rw [et] at uu
 have top_off : ∀ i, (i ∈ a.list ∨ i = k ∨ i ∈ b.list) ∨ i = u ∨ i ∈ c.list → i ≠ top := fun i hi e => by
  by_cases hp : ps = []
  ·subst hp
   have : top = up0 := et.symm
   rw [this] at e
   subst e
   refine hu0 ((hmem i).2 ?_)
   rcases hi with h | h | h
   ·exact .inl h
   ·exact .inr (.inl h)
   ·exact .inr (.inr (.inl h))
  ·have := upOf_mem (up0 := up0) hp
   rw [et] at this
   subst e
   rcases hi with h | h | h
   ·exact dX' i i h (.inr (.inr this)) rfl
   ·exact up' (h ▸ this)
   ·exact dcp i h i this rfl
 have hkt : k ≠ top := top_off k (.inl (.inr (.inl rfl)))
 have hut : u ≠ top := top_off u (.inr (.inl rfl))
 obtain ⟨x, ex⟩ : ∃ x, b.root = x := ⟨_, rfl⟩
 have hxm : x ≠ 0 → x ∈ b.list := fun h => by rw [← ex]; exact Tr.root_mem (by rw [ex]; exact h)
 have hkx : k ≠ x := fun e => kb' (by rw [e]; exact hxm (e ▸ k0))
 have hux : u ≠ x := fun e => hub (by rw [e]; exact hxm (e ▸ u0))
 have es : sideN N u k = s := by
  unfold sideN
  cases s with
  | true => have : (N u).r = k := uk; simp [this]
  | false =>
   have : (N u).r = c.root := uc
   rw [this]
   simp only [decide_eq_false_iff_not]
   intro e
   have := Tr.root_mem (t := c) (by rw [e]; exact k0)
   rw [e] at this
   exact hkc this
 have htN : (N u).up = top := uu
 have ek2 : (rot2 N u k k).kid (!s) = x := by rw [rot2_kid (by rw [htN]; exact hkt), kb, ex]
 have eR : rotN N k = pullN (pullN (rot6 N u k s x) u) k := by unfold rotN; rw [ku, es, ek2]
 generalize hM : rot6 N u k s x = M at eR
 have Mk : M k = Nd.setKid { N k with up := top } (!s) u := by rw [← hM, rot6_k hku hkx (by rw [htN]; exact hkt) (by rw [htN]; exact hut), htN]
 have Mu : M u = { (N u).setKid s x with up := k } := by rw [← hM]; exact rot6_u hku hux (by rw [htN]; exact hut)
 have Mx : b.root ≠ 0 → M b.root = { N b.root with up := u } := fun h0 => by
  rw [← hM]
  rw [ex] at h0 ⊢
  exact rot6_x hkx hux (by rw [htN]; exact top_off x (.inl (.inr (.inr (hxm h0))))) h0
 have Mo : ∀ i, i ≠ k → i ≠ u → (i ≠ x ∨ x = 0) → M i = rot1 N u k i := fun i h1 h2 h3 => by rw [← hM]; exact rot6_ne h1 h2 h3
 have r1 : ∀ i, i ≠ top ∨ ps = [] → rot1 N u k i = N i := fun i hi => by
  by_cases h : i = top
  ·have hp := hi.resolve_left (fun h' => h' h)
   unfold rot1
   rw [if_pos (htop hp)]
  ·exact rot1_ne (by rw [htN]; exact h)
 have inX : ∀ i, (i ∈ a.list ∨ i ∈ c.list) → (i ≠ x ∨ x = 0) ∧ i ≠ k ∧ i ≠ u ∧ i ≠ top := fun i hi => by
  refine ⟨?_, ?_, ?_, ?_⟩
  ·by_cases hx : x = 0
   ·exact .inr hx
   ·refine .inl fun e => ?_
    subst e
    rcases hi with h | h
    ·exact dab i h i (.tail _ (hxm hx)) rfl
    ·exact dX' i i (.inr (.inr (hxm hx))) (.inr (.inl h)) rfl
  ·rintro rfl
   rcases hi with h | h
   ·exact hka h
   ·exact hkc h
  ·rintro rfl
   rcases hi with h | h
   ·exact hua h
   ·exact uc' h
  ·exact top_off i (hi.elim (fun h => .inl (.inl h)) fun h => .inr (.inr h))
 have MA : ∀ i, (i ∈ a.list ∨ i ∈ c.list) → M i = N i := fun i hi => by
  obtain ⟨h1, h2, h3, h4⟩ := inX i hi
  rw [Mo i h2 h3 h1, r1 i (.inl h4)]
 have MB : ∀ i ∈ b.list, i ≠ b.root → M i = N i := fun i hi hne => by
  rw [Mo i (fun e => kb' (e ▸ hi)) (fun e => hub (e ▸ hi)) (.inl (by rw [← ex]; exact hne)), r1 i (.inl (top_off i (.inl (.inr (.inr hi)))))]
 have M0 : M 0 = N 0 := by
  rw [Mo 0 (Ne.symm k0) (Ne.symm u0) (by by_cases hx : x = 0; exact .inr hx; exact .inl (Ne.symm hx))]
  by_cases hp : ps = []
  ·exact r1 0 (.inr hp)
  ·refine r1 0 (.inl fun e => ?_)
   have := upOf_mem (up0 := up0) hp
   rw [et, ← e] at this
   exact zp this
 have hzM : (M 0).best = 0 := by rw [M0]; exact hz
 have hEM : EOk M E := hE.congr fun i => by rw [← hM]; exact (rot6_other N u k x s i).2
 have hbM : TrAt M E false u b := hb.hung nb Mx MB
 have hcM : TrAt M E false u c := hc.congr fun i hi => MA i (.inr hi)
 have haM : TrAt M E false k a := ha.congr fun i hi => MA i (.inl hi)
 have ks := setKid_kid (N u) s x
 have d2 : (sl s b.list u c.list).Nodup := by
  rw [sl_nodup, List.nodup_append, List.nodup_cons]
  refine ⟨nb, ⟨uc', nc⟩, fun i hi j hj => ?_⟩
  rcases List.mem_cons.1 hj with rfl | hj
  ·exact fun e => hub (e ▸ hi)
  ·exact dX' i j (.inr (.inr hi)) (.inr (.inl hj))
 have z2 : 0 ∉ sl s b.list u c.list := by rw [mem_sl]; simp only [not_or]; exact ⟨zb, Ne.symm u0, zc⟩
 obtain ⟨B1, p1, b1⟩ := pull_side (s := s) (p := b) (q := c) hEM hzM (h := u) (by rw [Mu]; show ((N u).setKid s x).kid s = _; rw [ks.1, ex]) (by rw [Mu]; show ((N u).setKid s x).kid (!s) = _; rw [ks.2.1]; exact uc) (hbM.best hzM) (hcM.best hzM) d2 z2
 rw [p1] at eR
 obtain ⟨M2, hM2⟩ : ∃ M2, upd M u { M u with best := B1 } = M2 := ⟨_, rfl⟩
 rw [hM2] at eR
 have M2u : M2 u = { (N u).setKid s x with up := k, best := B1 } := by rw [← hM2, upd_same, Mu]
 have M2n : ∀ i, i ≠ u → M2 i = M i := fun i h => by rw [← hM2, upd_ne _ _ h]
 have hEM2 : EOk M2 E := hEM.congr fun i => by
  rw [← hM2]; exact (upd_other (N := M) (h := u) (r := { M u with best := B1 }) rfl rfl rfl i).2
 have hzM2 : (M2 0).best = 0 := by rw [M2n 0 (Ne.symm u0)]; exact hzM
 have haM2 : TrAt M2 E false k a := haM.congr fun i hi => M2n i fun e => hua (e ▸ hi)
 have hbM2 : TrAt M2 E false u b := hbM.congr fun i hi => M2n i fun e => hub (e ▸ hi)
 have hcM2 : TrAt M2 E false u c := hcM.congr fun i hi => M2n i fun e => uc' (e ▸ hi)
 have Uk : ∀ N' : Nodes, N' u = M2 u → (N' u).turned = false ∧ (N' u).kid s = b.root ∧ (N' u).kid (!s) = c.root ∧ (N' u).up = k ∧ (N' u).best = B1 := fun N' e => by
  rw [e, M2u]
  refine ⟨?_, ?_, ?_, rfl, rfl⟩
  ·show ((N u).setKid s x).turned = false
   rw [ks.2.2.2.1]; exact ut
  ·show ((N u).setKid s x).kid s = _
   rw [ks.1, ex]
  ·show ((N u).setKid s x).kid (!s) = _
   rw [ks.2.1]; exact uc
 have hUT : TrAt M2 E false k (sn s b u c) := by
  obtain ⟨q1, q2, q3, q4, q5⟩ := Uk M2 rfl
  exact trAt_sn.2 ⟨u0, q4, q2, q3, by rw [q5]; exact b1, by rw [q1]; exact hbM2, by rw [q1]; exact hcM2⟩
 have M2k : M2 k = Nd.setKid { N k with up := top } (!s) u := by rw [M2n k hku]; exact Mk
 have d3 : (sl s a.list k (sn s b u c).list).Nodup := by
  rw [sl_nodup, List.nodup_append, List.nodup_cons, sn_list]
  refine ⟨na, ⟨?_, d2⟩, fun i hi j hj => ?_⟩
  ·rw [mem_sl]; simp only [not_or]; exact ⟨kb', hku, hkc⟩
  ·rcases List.mem_cons.1 hj with rfl | hj
   ·exact fun e => hka (e ▸ hi)
   ·rcases mem_sl.1 hj with h | h | h
    ·exact dab i hi j (.tail _ h)
    ·exact fun e => hua (by rw [← h, ← e]; exact hi)
    ·exact dX' i j (.inl hi) (.inr (.inl h))
 have z3 : 0 ∉ sl s a.list k (sn s b u c).list := by rw [mem_sl, sn_list]; simp only [not_or]; exact ⟨za, Ne.symm k0, z2⟩
 have kk := setKid_kid { N k with up := top } (!s) u
 have kk2 : (M2 k).kid s = a.root := by rw [M2k, setKid_kid']; exact ka
 have kk3 : (M2 k).kid (!s) = (sn s b u c).root := by rw [M2k, kk.1, sn_root]
 obtain ⟨B2, p2, b2⟩ := pull_side (s := s) (p := a) (q := sn s b u c) hEM2 hzM2 (h := k) kk2 kk3 (haM2.best hzM2) (hUT.best hzM2) d3 z3
 rw [p2] at eR
 have Rk : rotN N k k = { M2 k with best := B2 } := by rw [eR, upd_same]
 have Rn : ∀ i, i ≠ k → rotN N k i = M2 i := fun i h => by rw [eR, upd_ne _ _ h]
 have Rold : ∀ i, i ≠ k → i ≠ u → rotN N k i = M i := fun i h1 h2 => by rw [Rn i h1, M2n i h2]
 constructor
 ·refine ((trAt_plug _ _).2 ⟨trAt_sn.2 ⟨k0, ?_, ?_, ?_, ?_, ?_, ?_⟩, ?_⟩).1
  ·rw [Rk, M2k]
   show (Nd.setKid { N k with up := top } (!s) u).up = _
   rw [kk.2.2.1, et]
  ·rw [Rk]; exact kk2
  ·rw [Rk]; exact kk3
  ·rw [Rk]; exact b2
  ·have e1 : (rotN N k k).turned = false := by rw [(rotN_other N k k).1]; exact hk
   rw [e1]
   exact haM2.congr fun i hi => Rn i fun e => hka (e ▸ hi)
  ·have e1 : (rotN N k k).turned = false := by rw [(rotN_other N k k).1]; exact hk
   rw [e1]
   refine hUT.congr fun i hi => Rn i fun e => ?_
   rw [sn_list, mem_sl] at hi
   subst e
   rcases hi with h | h | h
   ·exact kb' h
   ·exact hku h
   ·exact hkc h
  ·rw [sn_root, sn_list, sn_list]
   refine (hps.swap np (N' := rotN N k) (k := k) ?_ ?_).perm fun i => ?_
   ·rintro f r rfl
    have ef : f.h = top := et
    have hft : f.h ∈ ctx (f :: r) := by simp [ctx]
    have f1 : f.h ≠ k := fun e => hkp (e ▸ hft)
    have f2 : f.h ≠ u := fun e => up' (e ▸ hft)
    have f3 : f.h ≠ x ∨ x = 0 := by
     by_cases hx : x = 0
     ·exact .inr hx
     ·exact .inl fun e => dX' x x (.inr (.inr (hxm hx))) (.inr (.inr (e ▸ hft))) rfl
    rw [Rold f.h f1 f2, Mo f.h f1 f2 f3]
    obtain ⟨f0, fu, fk, fc, ft, fb, fs, fp⟩ := hps
    have hT : topB N u = false := topB_kid f0 (by rw [htN, ← ef]) fk
    unfold rot1
    rw [if_neg (by rw [hT]; simp), htN, ← ef, upd_same]
    unfold Nd.swap Nd.setKid
    cases hs : f.side with
    | false =>
     rw [hs] at fk
     have : (N f.h).l = u := fk
     rw [if_pos this]; rfl
    | true =>
     rw [hs] at fc
     have : (N f.h).l = f.sib.root := fc
     rw [if_neg, if_pos rfl]
     rw [this]
     intro e
     have hm := Tr.root_mem (t := f.sib) (by rw [e]; exact u0)
     rw [e] at hm
     exact up' (by simp [ctx, hm])
   ·intro i hi hne
    have f1 : i ≠ k := fun e => hkp (e ▸ hi)
    have f2 : i ≠ u := fun e => up' (e ▸ hi)
    have f3 : i ≠ x ∨ x = 0 := by
     by_cases hx : x = 0
     ·exact .inr hx
     ·exact .inl fun e => dX' x x (.inr (.inr (hxm hx))) (.inr (.inr (e ▸ hi))) rfl
    rw [Rold i f1 f2, Mo i f1 f2 f3]
    refine r1 i ?_
    cases ps with
    | nil => exact .inr rfl
    | cons f r => exact .inl (by rw [← et]; exact hne f r rfl)
   ·simp only [mem_sl]
    rw [sn_list]
    simp only [mem_sl]
    constructor
    ·rintro (h | h | h | h | h) <;> simp [h]
    ·rintro ((h | h | h) | h | h) <;> simp [h]
 ·intro i hi
  rw [hmem] at hi
  simp only [not_or] at hi
  obtain ⟨⟨i1, i2, i3⟩, i4, i5, i6⟩ := hi
  rw [Rold i i2 i4]
  have f3 : i ≠ x ∨ x = 0 := by
   by_cases hx : x = 0
   ·exact .inr hx
   ·exact .inl fun e => i3 (e ▸ hxm hx)
  rw [Mo i i2 i4 f3]
  refine r1 i ?_
  by_cases hp : ps = []
  ·exact .inr hp
  ·refine .inl fun e => i6 ?_
   rw [e, ← et]
   exact upOf_mem hp
end Go.Li
namespace Go.Li
open Go Go.Hp
set_option linter.unusedVariables false
set_option linter.unusedSimpArgs false

def firstN (N : Nodes) (h : Nat) : Nodes := if decide ((N (N (N h).up).up).l = (N h).up) == decide ((N (N h).up).l = h) then rotN N (N h).up else rotN N h
def stepN (N : Nodes) (h : Nat) : Nodes := if topB N (N h).up then rotN N h else rotN (firstN N h) h
structure Row (N0 : Nodes) (E : Es) (up0 : Nat) (xs : List Nat) : Prop where
 nd : xs.Nodup
 z : (N0 0).best = 0
 up : up0 ∉ xs
 top : up0 = 0 ∨ ∀ i ∈ xs, hasK (N0 up0) i = false
structure Std (N : Nodes) (E : Es) (N0 : Nodes) (up0 : Nat) (xs : List Nat) (T : Tr) (k : Nat) (ps : List Fm) : Prop where
 tree : TrAt N E false up0 T
 list : T.list = xs
 off : ∀ i, i ∉ xs → N i = N0 i
 eok : EOk N E
 k : (N k).turned = false
 ps : ∀ f ∈ ps, (N f.h).turned = false
section
variable {N N0 : Nodes} {E : Es} {up0 k : Nat} {xs : List Nat} {a b : Tr} {ps : List Fm} {f : Fm}
theorem Std.zero (h : Std N E N0 up0 xs (plug (.node a k b) ps) k ps) (r : Row N0 E up0 xs) : (N 0).best = 0 := by
 rw [h.off 0 (by rw [← h.list]; exact h.tree.ne_zero)]; exact r.z
theorem Std.top (h : Std N E N0 up0 xs (plug (.node a k b) ps) k ps) (r : Row N0 E up0 xs) {i : Nat} (hi : i ∈ xs) (hu : (N i).up = up0) : topB N i = true := by
 unfold topB
 rw [hu]
 rcases r.top with h0 | h0
 ·simp [h0]
 ·rw [h.off up0 r.up, h0 i hi]; simp
theorem node_sn (a b : Tr) (k : Nat) (s : Bool) : ∃ a' b', Tr.node a k b = sn s a' k b' := by
 cases s
 ·exact ⟨a, b, rfl⟩
 ·exact ⟨b, a, rfl⟩
theorem sn_node (s : Bool) (a b : Tr) (k : Nat) : ∃ a' b', sn s a k b = Tr.node a' k b' := by
 cases s
 ·exact ⟨a, b, rfl⟩
 ·exact ⟨b, a, rfl⟩
theorem sn_assoc (s : Bool) (a b c : Tr) (k u : Nat) : (sn s a k (sn s b u c)).list = (sn s (sn s a k b) u c).list := by
 cases s <;> simp [sn, Tr.list]
theorem Std.turn (h : Std N E N0 up0 xs (plug (.node a k b) (f :: ps)) k (f :: ps)) (r : Row N0 E up0 xs) : ∃ A B, Std (rotN N k) E N0 up0 xs (plug (.node A k B) ps) k ps := by
 obtain ⟨a', b', e⟩ := node_sn a b k f.side
 have hT := h.tree
 have hl := h.list
 rw [e] at hT hl
 have h' := h
 rw [e] at h'
 have hp := plug_perm (f :: ps) (sn f.side a' k b')
 have hfm : f.h ∈ xs := by rw [← hl]; exact hp.mem_iff.2 (by simp [ctx])
 have htop : ps = [] → topB N f.h = true := by
  rintro rfl
  obtain ⟨_, _, hu, _⟩ := (trAt_plug _ _).1 ⟨hT, h.ps⟩
  exact h.top r hfm hu
 obtain ⟨h1, h2⟩ := rot_tr (s := f.side) (u := f.h) (c := f.sib) (ps := ps) hT h.ps h.k (by rw [hl]; exact r.nd) h.eok (h.zero r) htop (by rw [hl]; exact r.up)
 obtain ⟨A, B, e2⟩ := sn_node f.side a' (sn f.side b' f.h f.sib) k
 have hl2 : (plug (sn f.side a' k (sn f.side b' f.h f.sib)) ps).list = xs := by
  rw [← hl]
  exact plug_list ps (sn_assoc _ _ _ _ _ _)
 rw [e2] at h1 hl2
 refine ⟨A, B, h1, hl2, fun i hi => ?_, h.eok.rot k, by rw [(rotN_other N k k).1]; exact h.k, fun g hg => by rw [(rotN_other N k g.h).1]; exact h.ps g (.tail _ hg)⟩
 rw [h2 i (by rw [hl]; exact hi)]
 exact h.off i hi
theorem Std.turn2 {f2 : Fm} (h : Std N E N0 up0 xs (plug (.node a k b) (f :: f2 :: ps)) k (f :: f2 :: ps)) (r : Row N0 E up0 xs) (hs : f.side = f2.side) :
  ∃ c, Std (rotN N f.h) E N0 up0 xs (plug (.node a k b) (⟨f.side, f.h, c⟩ :: ps)) k (⟨f.side, f.h, c⟩ :: ps) := by
 obtain ⟨s, u, d⟩ := f
 obtain ⟨s2, w, e⟩ := f2
 obtain rfl : s = s2 := hs
 have hT : TrAt N E false up0 (plug (sn s (.node a k b) u d) (⟨s, w, e⟩ :: ps)) := h.tree
 have hl : (plug (sn s (.node a k b) u d) (⟨s, w, e⟩ :: ps)).list = xs := h.list
 have hp := plug_perm (⟨s, u, d⟩ :: ⟨s, w, e⟩ :: ps) (.node a k b)
 have hfm : w ∈ xs := by rw [← h.list]; exact hp.mem_iff.2 (by simp [ctx])
 have htop : ps = [] → topB N w = true := by
  rintro rfl
  obtain ⟨_, _, _, _, _, _, _, _, _, hu, _⟩ := (trAt_plug _ _).1 ⟨h.tree, h.ps⟩
  exact h.top r hfm hu
 obtain ⟨h1, h2⟩ := rot_tr (s := s) (u := w) (c := e) (ps := ps) hT (fun g hg => h.ps g (.tail _ hg)) (h.ps ⟨s, u, d⟩ (.head _)) (by rw [hl]; exact r.nd) h.eok (h.zero r) htop (by rw [hl]; exact r.up)
 refine ⟨sn s d w e, h1, ?_, fun i hi => ?_, h.eok.rot u, by rw [(rotN_other N u k).1]; exact h.k, fun g hg => ?_⟩
 ·rw [← hl]
  exact plug_list ps (sn_assoc _ _ _ _ _ _)
 ·rw [h2 i (by rw [hl]; exact hi)]
  exact h.off i hi
 ·rw [(rotN_other N u g.h).1]
  rcases List.mem_cons.1 hg with rfl | hg
  ·exact h.ps ⟨s, u, d⟩ (.head _)
  ·exact h.ps g (.tail _ (.tail _ hg))
end
def Below (E : Es) (N0 : Nodes) (up0 k : Nat) (xs : List Nat) (m : Nat) (N : Nodes) : Prop :=
 ∃ (a b : Tr) (ps : List Fm), ps.length = m ∧ Std N E N0 up0 xs (plug (.node a k b) ps) k ps
theorem below_step {E : Es} {N0 : Nodes} {up0 k : Nat} {xs : List Nat} (r : Row N0 E up0 xs) (m : Nat) (N : Nodes) (h : Below E N0 up0 k xs m N) :
  topB N k = true ∨ (topB N k = false ∧ ∃ m', m' < m ∧ Below E N0 up0 k xs m' (stepN N k)) := by
 obtain ⟨a, b, ps, rfl, h⟩ := h
 have hp := plug_perm ps (.node a k b)
 have hkm : k ∈ xs := by rw [← h.list]; exact hp.mem_iff.2 (by simp [Tr.list])
 obtain ⟨⟨k0, ku, _⟩, hpath⟩ := (trAt_plug _ _).1 ⟨h.tree, h.ps⟩
 cases ps with
 | nil => exact .inl (h.top r hkm ku)
 | cons f ps =>
  obtain ⟨f0, fu, fk, fc, ft, _, _, hpath⟩ := hpath
  have ku' : (N k).up = f.h := ku
  have fk' : (N f.h).kid f.side = k := fk
  have hfm : f.h ∈ xs := by rw [← h.list]; exact hp.mem_iff.2 (by simp [ctx])
  refine .inr ⟨topB_kid f0 ku' fk', ?_⟩
  cases ps with
  | nil =>
   have ht := h.top r hfm fu
   obtain ⟨A, B, h1⟩ := h.turn r
   refine ⟨0, by simp, A, B, [], rfl, ?_⟩
   unfold stepN
   rw [ku', if_pos ht]
   exact h1
  | cons g ps =>
   obtain ⟨g0, gu, gk, gc, gt, _, _, _⟩ := hpath
   have fu' : (N f.h).up = g.h := fu
   have gk' : (N g.h).kid g.side = f.h := gk
   have ht : topB N f.h = false := topB_kid g0 fu' gk'
   have hnd := r.nd
   rw [← h.list] at hnd
   have hnd := hp.nodup_iff.1 hnd
   have zc : 0 ∉ (plug (.node a k b) (f :: g :: ps)).list := h.tree.ne_zero
   have s1 : decide ((N f.h).l = k) = !f.side := by
    cases hs : f.side with
    | false =>
     rw [hs] at fk'
     have : (N f.h).l = k := fk'
     simp [this]
    | true =>
     rw [hs] at fc
     have e : (N f.h).l = f.sib.root := fc
     rw [e]
     simp only [Bool.not_true, decide_eq_false_iff_not]
     intro e
     have := Tr.root_mem (t := f.sib) (by rw [e]; exact k0)
     rw [e] at this
     rw [List.nodup_append] at hnd
     exact hnd.2.2 k (by simp [Tr.list]) k (by simp [ctx, this]) rfl
   have s2 : decide ((N g.h).l = f.h) = !g.side := by
    cases hs : g.side with
    | false =>
     rw [hs] at gk'
     have : (N g.h).l = f.h := gk'
     simp [this]
    | true =>
     rw [hs] at gc
     have e : (N g.h).l = g.sib.root := gc
     rw [e]
     simp only [Bool.not_true, decide_eq_false_iff_not]
     intro e
     have := Tr.root_mem (t := g.sib) (by rw [e]; exact f0)
     rw [e] at this
     rw [List.nodup_append] at hnd
     have h2 := hnd.2.1
     simp only [ctx, List.nodup_cons, List.mem_append, List.mem_cons, not_or] at h2
     exact h2.1.2.2.1 this
   have hfirst : firstN N k = if f.side = g.side then rotN N f.h else rotN N k := by
    unfold firstN
    rw [ku', fu', s1, s2]
    cases f.side <;> cases g.side <;> rfl
   have hstep : stepN N k = rotN (firstN N k) k := by
    unfold stepN
    rw [ku', if_neg (by rw [ht]; simp)]
   rw [hstep, hfirst]
   by_cases hs : f.side = g.side
   ·rw [if_pos hs]
    obtain ⟨c, h1⟩ := h.turn2 r hs
    obtain ⟨A, B, h2⟩ := h1.turn r
    exact ⟨ps.length, by simp; omega, A, B, ps, rfl, h2⟩
   ·rw [if_neg hs]
    obtain ⟨A, B, h1⟩ := h.turn r
    obtain ⟨A2, B2, h2⟩ := h1.turn r
    exact ⟨ps.length, by simp; omega, A2, B2, ps, rfl, h2⟩
theorem splay_start {E : Es} {N : Nodes} {up0 k : Nat} {xs : List Nat} {T : Tr} (hE : EOk N E) (r : Row N E up0 xs) (hT : TrAt N E false up0 T) (hl : T.list = xs) (hk : k ∈ xs) :
  IsWay N k (wayT T k) ∧ (∀ x ∈ wayT T k, x ∈ xs) ∧ ∃ m, Below E N up0 k xs m (pushAll N (wayT T k)) := by
 obtain ⟨w1, w2, w3⟩ := wayT_up hT (by rw [hl]; exact hk)
 have hr0 : T.root ≠ 0 := by
  cases T with
  | nil => rw [← hl] at hk; simp [Tr.list] at hk
  | node _ _ _ => exact hT.1
 have hrm : T.root ∈ xs := by rw [← hl]; exact Tr.root_mem hr0
 have htop : topB N T.root = true := by
  unfold topB
  rw [hT.root_up hr0]
  rcases r.top with h0 | h0
  ·simp [h0]
  ·rw [h0 _ hrm]; simp
 refine ⟨w1.isWay w2 htop, fun x hx => by rw [← hl]; exact w3 x hx, ?_⟩
 obtain ⟨p1, p2, p3⟩ := pushAll_tr hT (by rw [hl]; exact r.nd) (by rw [hl]; exact hk)
 obtain ⟨a, b, ps, e, ew⟩ := find_path (t := T) (k := k) (by rw [hl]; exact hk)
 rw [ew] at p2
 refine ⟨ps.length, a, b, ps, rfl, by rw [e]; exact p1, by rw [e]; exact hl, fun i hi => p3 i (by rw [hl]; exact hi), hE.congr fun i => ⟨(pushAll_up _ i).2.1, (pushAll_up _ i).2.2.1⟩, ?_, fun f hf => ?_⟩
 ·rw [ew]; exact p2 k (.head _)
 ·rw [ew]; exact p2 f.h (.tail _ (List.mem_map.2 ⟨f, hf, rfl⟩))
theorem splay_end {E : Es} {N N0 : Nodes} {up0 k : Nat} {xs : List Nat} {m : Nat} (h : Below E N0 up0 k xs m N) (ht : topB N k = true) :
  ∃ a b, TrAt N E false up0 (.node a k b) ∧ a.list ++ k :: b.list = xs ∧ (N k).turned = false ∧ (∀ i, i ∉ xs → N i = N0 i) ∧ EOk N E := by
 obtain ⟨a, b, ps, rfl, h⟩ := h
 cases ps with
 | nil => exact ⟨a, b, h.tree, h.list, h.k, h.off, h.eok⟩
 | cons f ps =>
  obtain ⟨⟨k0, ku, _⟩, f0, fu, fk, _⟩ := (trAt_plug _ _).1 ⟨h.tree, h.ps⟩
  have := topB_kid (N := N) (x := f.h) (y := k) f0 ku fk
  rw [ht] at this; cases this
end Go.Li
namespace Go.Proofs.Ytoplhfhjokjbiaa
open Go Go.Hp Go.Li
set_option linter.all false
set_option maxRecDepth 100000
set_option maxHeartbeats 1600000
theorem nextHp_mono {P : Program} {K K' : Value → Heap → Prop} (hk : ∀ v H, K v H → K' v H) : ∀ (x : Next) (H : Heap), nextHp P K x H → nextHp P K' x H
 | .value v, H, h => hk _ _ h
 | .skip, H, h => hk _ _ h
 | .enter f args, H, h => h.mono hk
 | .round l f tmps a b, H, h => h.mono hk
section
variable {H H' : Heap} {t g c len : Nat} {N : Nodes} {K : Value → Heap → Prop}
theorem backward_ok {l b rg cap : Nat} {xs : List Int} (I : Nat → Heap → Prop) (hlen : xs.length < 4096)
  (hx : ∀ i H', I i H' → hcell H' ⟨b, 0, none⟩ = some (.slice (some ⟨rg, 0, none⟩) xs.length cap) ∧ ∀ k x, xs[k]? = some x → hcell H' ⟨rg, k, none⟩ = some (.int .i64 x))
  (h0 : I xs.length H)
  (hstep : ∀ (i : Nat) x H' (K' : Value → Heap → Prop), xs[i]? = some x → I (i + 1) H' → (∀ H'', I i H'' → K' (.bool true) H'') → semHp Try.prog (Instr.yield l #[.int .i64 (i : Nat), .int .i64 x]) H' (nextHp Try.prog K'))
  (fin : ∀ H', I 0 H' → K (.tuple #[]) H') : CallsH Try.prog 61 #[.func (.yield l) #[] #[], .pointer (some ⟨b, 0, none⟩)] H K := by
 obtain ⟨d0, _⟩ := hx _ _ h0
 have ew : IntKind.i64.wrap ((xs.length : Int) - 1) = (xs.length : Int) - 1 := by rw [wrap_i64] <;> omega
 refine call61 (by simp) ?_
 simp only [Try.f61, Option.getD_some]
 repeat' (first|(with_reducible first|refine jA ?_|(refine hK _ _ ?_;clear hK K)|refine jJ fun K hK=>?_|refine jK ?_|refine jL ?_|refine jM ?_|refine jN ?_|refine jO ?_|refine jP ?_|refine jQ ?_|(refine jB ?_;clear hK K)|(refine jC ?_;clear hK K)|refine jD ?_|refine jE ?_|refine jG ?_|refine jH ?_|refine jI ?_)|((with_reducible refine jR ?hq ?_);case hq=>rfl)|((first|(with_reducible first|refine jS fun K hK=>?_|refine jT ?_|refine jU ?_)|((with_reducible refine jV ?hy fun K hK=>?_);case hy=>rfl));simp only [go_sem, Nat.reduceEqDiff, Nat.reduceAdd, Nat.reduceMul, Nat.reduceLeDiff, Nat.reduceLT, Int.reduceLT, Int.reduceLE, Int.reduceEq, Int.reduceNeg, Int.reduceToNat, Nat.reducePow, reduceIte, reduceCtorEq, d0, ew])|((with_reducible first|refine jW ?hy ?_|refine jY ?hy ?_);case hy=>rfl)|((with_reducible first|refine jX ?hy ?_|refine jZ ?hy ?_);case hy=>rfl)|((with_reducible refine jF ?hy ?_);case hy=>decide))
 refine x_loop (fun m e' H' => ∃ i : Nat, i ≤ xs.length ∧ e' 3 = .int .i64 ((i : Int) - 1) ∧ m = i ∧ I i H') xs.length ⟨xs.length, Nat.le_refl _, rfl, rfl, h0⟩ ?_
 rintro m e1 H1 ⟨i, hi, i3, rfl, hI⟩ hoff
 have i0 : e1 0 = .func (.yield l) #[] #[] := (hoff 0 rfl).trans rfl
 have i1 : e1 1 = .pointer (some ⟨b, 0, none⟩) := (hoff 1 rfl).trans rfl
 clear hoff
 cases m with
 | zero =>
  have t1 : ((0 : Int) ≤ ((0 : Nat) : Int) - 1) = False := by simp
  repeat' (first|(with_reducible first|refine jA ?_|(refine hK _ _ ?_;clear hK K)|refine jJ fun K hK=>?_|refine jK ?_|refine jL ?_|refine jM ?_|refine jN ?_|refine jO ?_|refine jP ?_|refine jQ ?_|(refine jB ?_;clear hK K)|(refine jC ?_;clear hK K)|refine jD ?_|refine jE ?_|refine jG ?_|refine jH ?_|refine jI ?_)|((with_reducible refine jR ?hq ?_);case hq=>rfl)|((first|(with_reducible first|refine jS fun K hK=>?_|refine jT ?_|refine jU ?_)|((with_reducible refine jV ?hy fun K hK=>?_);case hy=>rfl));simp only [go_sem, Nat.reduceEqDiff, Nat.reduceAdd, Nat.reduceMul, Nat.reduceLeDiff, Nat.reduceLT, Int.reduceLT, Int.reduceLE, Int.reduceEq, Int.reduceNeg, Int.reduceToNat, Nat.reducePow, reduceIte, reduceCtorEq, i3, t1])|((with_reducible first|refine jW ?hy ?_|refine jY ?hy ?_);case hy=>rfl)|((with_reducible first|refine jX ?hy ?_|refine jZ ?hy ?_);case hy=>rfl)|((with_reducible refine jF ?hy ?_);case hy=>decide))
  exact fin _ hI
 | succ i =>
  have ei : (((i + 1 : Nat) : Int) - 1) = (i : Nat) := by omega
  rw [ei] at i3
  have t1 : ((0 : Int) ≤ (i : Nat)) = True := by simp
  obtain ⟨x, hxi⟩ : ∃ x, xs[i]? = some x := ⟨_, List.getElem?_eq_getElem (by omega)⟩
  obtain ⟨d1, dx⟩ := hx _ _ hI
  have dk := dx i x hxi
  have hil : i < xs.length := by omega
  have ew2 : IntKind.i64.wrap ((i : Int) - 1) = (i : Int) - 1 := by rw [wrap_i64] <;> omega
  repeat' (first|(with_reducible first|refine jA ?_|(refine hK _ _ ?_;clear hK K)|refine jJ fun K hK=>?_|refine jK ?_|refine jL ?_|refine jM ?_|refine jN ?_|refine jO ?_|refine jP ?_|refine jQ ?_|(refine jB ?_;clear hK K)|(refine jC ?_;clear hK K)|refine jD ?_|refine jE ?_|refine jG ?_|refine jH ?_|refine jI ?_)|((with_reducible refine jR ?hq ?_);case hq=>rfl)|((first|(with_reducible first|refine jS fun K hK=>?_|refine jT ?_|refine jU ?_)|((with_reducible refine jV ?hy fun K hK=>?_);case hy=>rfl));simp only [go_sem, Nat.reduceEqDiff, Nat.reduceAdd, Nat.reduceMul, Nat.reduceLeDiff, Nat.reduceLT, Int.reduceLT, Int.reduceLE, Int.reduceEq, Int.reduceNeg, Int.reduceToNat, Nat.reducePow, reduceIte, reduceCtorEq, i0, i1, i3, t1, d1, dk, hil])|((with_reducible first|refine jW ?hy ?_|refine jY ?hy ?_);case hy=>rfl)|((with_reducible first|refine jX ?hy ?_|refine jZ ?hy ?_);case hy=>rfl)|((with_reducible refine jF ?hy ?_);case hy=>decide))
  refine hstep i x _ _ hxi hI fun H2 hI2 => ?_
  repeat' (first|(with_reducible first|refine jA ?_|(refine hK _ _ ?_;clear hK K)|refine jJ fun K hK=>?_|refine jK ?_|refine jL ?_|refine jM ?_|refine jN ?_|refine jO ?_|refine jP ?_|refine jQ ?_|(refine jB ?_;clear hK K)|(refine jC ?_;clear hK K)|refine jD ?_|refine jE ?_|refine jG ?_|refine jH ?_|refine jI ?_)|((with_reducible refine jR ?hq ?_);case hq=>rfl)|((first|(with_reducible first|refine jS fun K hK=>?_|refine jT ?_|refine jU ?_)|((with_reducible refine jV ?hy fun K hK=>?_);case hy=>rfl));simp only [go_sem, Nat.reduceEqDiff, Nat.reduceAdd, Nat.reduceMul, Nat.reduceLeDiff, Nat.reduceLT, Int.reduceLT, Int.reduceLE, Int.reduceEq, Int.reduceNeg, Int.reduceToNat, Nat.reducePow, reduceIte, reduceCtorEq, i3, ew2])|((with_reducible first|refine jW ?hy ?_|refine jY ?hy ?_);case hy=>rfl)|((with_reducible first|refine jX ?hy ?_|refine jZ ?hy ?_);case hy=>rfl)|((with_reducible refine jF ?hy ?_);case hy=>decide))
  exact loop_normal (m' := i) (by omega) ⟨i, by omega, rfl, rfl, hI2⟩
theorem back_ok {a : Option Addr} {n cap : Nat} (fin : ∀ H', Fr (fun _ => False) H H' → hcell H' ⟨H.size, 0, none⟩ = some (.slice a n cap) → K (.func (.func 61) #[] #[.pointer (some ⟨H.size, 0, none⟩)]) H') :
  CallsH Try.prog 56 #[.slice a n cap] H K := by
 refine call56 (by simp) ?_
 simp only [Try.f56, Option.getD_some]
 repeat' (first|(with_reducible first|refine jA ?_|(refine hK _ _ ?_;clear hK K)|refine jJ fun K hK=>?_|refine jK ?_|refine jL ?_|refine jM ?_|refine jN ?_|refine jO ?_|refine jP ?_|refine jQ ?_|(refine jB ?_;clear hK K)|(refine jC ?_;clear hK K)|refine jD ?_|refine jE ?_|refine jG ?_|refine jH ?_|refine jI ?_)|((with_reducible refine jR ?hq ?_);case hq=>rfl)|((first|(with_reducible first|refine jS fun K hK=>?_|refine jT ?_|refine jU ?_)|((with_reducible refine jV ?hy fun K hK=>?_);case hy=>rfl));simp only [go_sem, Nat.reduceEqDiff, Nat.reduceAdd, Nat.reduceMul, Nat.reduceLeDiff, Nat.reduceLT, Int.reduceLT, Int.reduceLE, Int.reduceEq, Int.reduceNeg, Int.reduceToNat, Nat.reducePow, reduceIte, reduceCtorEq])|((with_reducible first|refine jW ?hy ?_|refine jY ?hy ?_);case hy=>rfl)|((with_reducible first|refine jX ?hy ?_|refine jZ ?hy ?_);case hy=>rfl)|((with_reducible refine jF ?hy ?_);case hy=>decide))
 exact fin _ ((Fr.refl _ _).push _) ((Blk.new H [.slice a n cap] _).cellOf rfl)
theorem hcell_app {H : Heap} {v : Value} {B : Option Nat} {xs : List Int} (h : IR H B v xs) (hn : xs ≠ []) : ∃ rg cap, B = some rg ∧ v = .slice (some ⟨rg, 0, none⟩) xs.length cap ∧ ∀ k x, xs[k]? = some x → hcell H ⟨rg, k, none⟩ = some (.int .i64 x) := by
 obtain ⟨rg, cap, rest, h1, h2, h3, h4, h5⟩ := h.row hn
 refine ⟨rg, cap, h1, h2, fun k x hk => h3.cellOf ?_⟩
 have hlt := (List.getElem?_eq_some_iff.1 hk).1
 rw [List.getElem?_append_left (by simpa using hlt), List.getElem?_map, hk]
 rfl
theorem setIB_fr (H : Heap) (l : Nat) (o : Obj) : Fr (· = l) H (H.setIfInBounds l o) := ⟨by simp, fun b _ hb => by rw [Array.getElem?_setIfInBounds_ne (Ne.symm hb)]⟩
theorem fr_close {H H' : Heap} {g l : Nat} (h : Fr (fun b => b = g ∨ b = l) H H') (hl : H'[l]? = H[l]?) : Fr (· = g) H H' := ⟨h.size, fun b hb hg => by
 by_cases e : b = l
 ·subst e; exact hl
 ·exact h.same b hb fun h => h.elim hg e⟩
def natsI (ws : List Nat) : List Int := ws.map fun x => ((x : Nat) : Int)
theorem splay_ok {L : Value → Heap → Prop} {P : Nat → Nodes → Prop} {m0 h : Nat} {ws : List Nat} (hN : NA H t g c len N) (hh : h < len) (hw : IsWay N h ws) (hwl : ∀ x ∈ ws, x < len) (hlen : ws.length < 4096)
  (h0 : P m0 (pushAll N ws)) (hP : ∀ m N, P m N → topB N h = true ∨ (topB N h = false ∧ ∃ m', m' < m ∧ P m' (stepN N h)))
  (fin : ∀ H' N' m', NA H' t g c len N' → P m' N' → topB N' h = true → Fr (· = g) H H' → L (.tuple #[]) H') :
  CallsH Try.prog 45 #[.pointer (some ⟨t, 0, none⟩), .int .i64 (h : Nat)] H L := by
 have hsz := hN.lt
 refine callsH_top 97 [] (f := 45) (fn := Try.f45) (by kernel_rfl) (by kernel_rfl) (c := Try.f45.body.getD .skip) (by kernel_rfl) (by kernel_rfl) (by kernel_rfl) (by simp) ?_
 simp only [Try.f45, Option.getD_some]
 refine top_seq (top_of mixed [] (by kernel_rfl) ?_)
 repeat' (first|(with_reducible first|refine jA ?_|(refine hK _ _ ?_;clear hK K)|refine jJ fun K hK=>?_|refine jK ?_|refine jL ?_|refine jM ?_|refine jN ?_|refine jO ?_|refine jP ?_|refine jQ ?_|(refine jB ?_;clear hK K)|(refine jC ?_;clear hK K)|refine jD ?_|refine jE ?_|refine jG ?_|refine jH ?_|refine jI ?_)|((with_reducible refine jR ?hq ?_);case hq=>rfl)|((first|(with_reducible first|refine jS fun K hK=>?_|refine jT ?_|refine jU ?_)|((with_reducible refine jV ?hy fun K hK=>?_);case hy=>rfl));simp only [go_sem, Nat.reduceEqDiff, Nat.reduceAdd, Nat.reduceMul, Nat.reduceLeDiff, Nat.reduceLT, Int.reduceLT, Int.reduceLE, Int.reduceEq, Int.reduceNeg, Int.reduceToNat, Nat.reducePow, reduceIte, reduceCtorEq])|((with_reducible first|refine jW ?hy ?_|refine jY ?hy ?_);case hy=>rfl)|((with_reducible first|refine jX ?hy ?_|refine jZ ?hy ?_);case hy=>rfl)|((with_reducible refine jF ?hy ?_);case hy=>decide))
 intro hx_; clear hx_
 generalize eHB : H.push _ = HB
 have f0 : Fr (fun _ => False) H HB := by rw [← eHB]; exact (Fr.refl _ _).push _
 have q0 : hcell HB ⟨H.size, 0, none⟩ = some (.pointer (some ⟨t, 0, none⟩)) := by rw [← eHB]; exact (Blk.new H [.pointer (some ⟨t, 0, none⟩)] _).cellOf rfl
 have hNB := hN.grow f0
 have sB : HB.size = H.size + 1 := by rw [← eHB]; simp
 clear eHB
 refine top_seq (top_of mixed [] (by kernel_rfl) ?_)
 repeat' (first|(with_reducible first|refine jA ?_|(refine hK _ _ ?_;clear hK K)|refine jJ fun K hK=>?_|refine jK ?_|refine jL ?_|refine jM ?_|refine jN ?_|refine jO ?_|refine jP ?_|refine jQ ?_|(refine jB ?_;clear hK K)|(refine jC ?_;clear hK K)|refine jD ?_|refine jE ?_|refine jG ?_|refine jH ?_|refine jI ?_)|((with_reducible refine jR ?hq ?_);case hq=>rfl)|((first|(with_reducible first|refine jS fun K hK=>?_|refine jT ?_|refine jU ?_)|((with_reducible refine jV ?hy fun K hK=>?_);case hy=>rfl));simp only [go_sem, Nat.reduceEqDiff, Nat.reduceAdd, Nat.reduceMul, Nat.reduceLeDiff, Nat.reduceLT, Int.reduceLT, Int.reduceLE, Int.reduceEq, Int.reduceNeg, Int.reduceToNat, Nat.reducePow, reduceIte, reduceCtorEq])|((with_reducible first|refine jW ?hy ?_|refine jY ?hy ?_);case hy=>rfl)|((with_reducible first|refine jX ?hy ?_|refine jZ ?hy ?_);case hy=>rfl)|((with_reducible refine jF ?hy ?_);case hy=>decide))
 intro hx_; clear hx_
 generalize eH1 : HB.push _ = H1
 have f1 : Fr (fun _ => False) HB H1 := by rw [← eH1]; exact (Fr.refl _ _).push _
 have s1 : H1.size = H.size + 2 := by rw [← eH1]; simp [sB]
 have r1 : IR H1 (some HB.size) (.slice (some ⟨HB.size, 0, none⟩) 1 1) (natsI [h]) := by
  rw [← eH1]
  exact ⟨rfl, .inr ⟨HB.size, 1, [], rfl, rfl, Blk.new HB [.int .i64 (h : Nat)] _, rfl, Nat.le_refl _⟩⟩
 have hN1 := hNB.grow f1
 clear eH1
 refine top_seq (top_of mixed [] (by kernel_rfl) ?_)
 repeat' (first|(with_reducible first|refine jA ?_|(refine hK _ _ ?_;clear hK K)|refine jJ fun K hK=>?_|refine jK ?_|refine jL ?_|refine jM ?_|refine jN ?_|refine jO ?_|refine jP ?_|refine jQ ?_|(refine jB ?_;clear hK K)|(refine jC ?_;clear hK K)|refine jD ?_|refine jE ?_|refine jG ?_|refine jH ?_|refine jI ?_)|((with_reducible refine jR ?hq ?_);case hq=>rfl)|((first|(with_reducible first|refine jS fun K hK=>?_|refine jT ?_|refine jU ?_)|((with_reducible refine jV ?hy fun K hK=>?_);case hy=>rfl));simp only [go_sem, Nat.reduceEqDiff, Nat.reduceAdd, Nat.reduceMul, Nat.reduceLeDiff, Nat.reduceLT, Int.reduceLT, Int.reduceLE, Int.reduceEq, Int.reduceNeg, Int.reduceToNat, Nat.reducePow, reduceIte, reduceCtorEq])|((with_reducible first|refine jW ?hy ?_|refine jY ?hy ?_);case hy=>rfl)|((with_reducible first|refine jX ?hy ?_|refine jZ ?hy ?_);case hy=>rfl)|((with_reducible refine jF ?hy ?_);case hy=>decide))
 obtain ⟨w0, w1, w2⟩ := hw.at
 refine x_loop (fun m e' H' => ∃ (k y : Nat) (B : Option Nat) (v : Value), ws[k]? = some y ∧ m = ws.length - k ∧ e' 5 = .int .i64 (y : Nat) ∧ e' 4 = v ∧ IR H' B v (natsI (ws.take (k + 1))) ∧ Fr (fun _ => False) HB H' ∧ (∀ b, B = some b → HB.size ≤ b)) ws.length
  ⟨0, h, some HB.size, _, w0, rfl, rfl, rfl, by
   have : ws.take (0 + 1) = [h] := by
    cases ws with
    | nil => simp at w0
    | cons a r => simp at w0; simp [w0]
   rw [this]; exact r1, f1, fun b hb => by obtain rfl := Option.some.inj hb; exact Nat.le_refl _⟩ ?_
 rintro m e1 H2 ⟨k, y, B, v, hk, rfl, i5, i4, hr, hf2, hB⟩ hoff
 have i1 : e1 1 = .int .i64 (h : Nat) := (hoff 1 rfl).trans rfl
 have i2 : e1 2 = .pointer (some ⟨H.size, 0, none⟩) := (hoff 2 rfl).trans rfl
 clear hoff
 have hy : y < len := hwl y (List.mem_of_getElem? hk)
 have hN2 := hNB.grow hf2
 have q2 : hcell H2 ⟨H.size, 0, none⟩ = some (.pointer (some ⟨t, 0, none⟩)) := by rw [hf2.cell (hcell_lt q0) (fun h => h)]; exact q0
 repeat' (first|(with_reducible first|refine jA ?_|(refine hK _ _ ?_;clear hK K)|refine jJ fun K hK=>?_|refine jK ?_|refine jL ?_|refine jM ?_|refine jN ?_|refine jO ?_|refine jP ?_|refine jQ ?_|(refine jB ?_;clear hK K)|(refine jC ?_;clear hK K)|refine jD ?_|refine jE ?_|refine jG ?_|refine jH ?_|refine jI ?_)|((with_reducible refine jR ?hq ?_);case hq=>rfl)|((first|(with_reducible first|refine jS fun K hK=>?_|refine jT ?_|refine jU ?_)|((with_reducible refine jV ?hy fun K hK=>?_);case hy=>rfl));simp only [go_sem, Nat.reduceEqDiff, Nat.reduceAdd, Nat.reduceMul, Nat.reduceLeDiff, Nat.reduceLT, Int.reduceLT, Int.reduceLE, Int.reduceEq, Int.reduceNeg, Int.reduceToNat, Nat.reducePow, reduceIte, reduceCtorEq, i2, q2, i5])|((with_reducible first|refine jW ?hy ?_|refine jY ?hy ?_);case hy=>rfl)|((with_reducible first|refine jX ?hy ?_|refine jZ ?hy ?_);case hy=>rfl)|((with_reducible refine jF ?hy ?_);case hy=>decide))
 refine top_ok hN2 hy ?_
 cases hT : topB N y with
 | false =>
  have hlt : k + 1 < ws.length := by
   rcases Nat.lt_or_ge (k + 1) ws.length with h | h
   ·exact h
   ·have := (List.getElem?_eq_some_iff.1 hk).1
    have := w2 k y hk (by omega)
    rw [hT] at this; cases this
  obtain ⟨z, hz⟩ : ∃ z, ws[k + 1]? = some z := ⟨_, List.getElem?_eq_getElem hlt⟩
  obtain ⟨_, ez⟩ := w1 k y z hk hz
  have hd2 := hN2.hd
  have c0 := hN2.cell0 hy
  rw [← ez] at c0
  repeat' (first|(with_reducible first|refine jA ?_|(refine hK _ _ ?_;clear hK K)|refine jJ fun K hK=>?_|refine jK ?_|refine jL ?_|refine jM ?_|refine jN ?_|refine jO ?_|refine jP ?_|refine jQ ?_|(refine jB ?_;clear hK K)|(refine jC ?_;clear hK K)|refine jD ?_|refine jE ?_|refine jG ?_|refine jH ?_|refine jI ?_)|((with_reducible refine jR ?hq ?_);case hq=>rfl)|((first|(with_reducible first|refine jS fun K hK=>?_|refine jT ?_|refine jU ?_)|((with_reducible refine jV ?hy fun K hK=>?_);case hy=>rfl));simp only [go_sem, Nat.reduceEqDiff, Nat.reduceAdd, Nat.reduceMul, Nat.reduceLeDiff, Nat.reduceLT, Int.reduceLT, Int.reduceLE, Int.reduceEq, Int.reduceNeg, Int.reduceToNat, Nat.reducePow, reduceIte, reduceCtorEq, i2, q2, i5, i4, hd2, c0, hy])|((with_reducible first|refine jW ?hy ?_|refine jY ?hy ?_);case hy=>rfl)|((with_reducible first|refine jX ?hy ?_|refine jZ ?hy ?_);case hy=>rfl)|((with_reducible refine jF ?hy ?_);case hy=>decide))
  have hln : (natsI (ws.take (k + 1))).length ≤ 4096 := by unfold natsI; simp; omega
  refine append_ir elems22 tl3 hr rfl (by decide) (by simp only []; omega) rfl ?_
  intro v' H3 B' hr3 hf3 hB3
  have er : natsI (ws.take (k + 1)) ++ [((z : Nat) : Int)] = natsI (ws.take (k + 1 + 1)) := by
   unfold natsI
   rw [List.take_add_one (i := k + 1), hz]
   simp
  rw [er] at hr3
  repeat' (first|(with_reducible first|refine jA ?_|(refine hK _ _ ?_;clear hK K)|refine jJ fun K hK=>?_|refine jK ?_|refine jL ?_|refine jM ?_|refine jN ?_|refine jO ?_|refine jP ?_|refine jQ ?_|(refine jB ?_;clear hK K)|(refine jC ?_;clear hK K)|refine jD ?_|refine jE ?_|refine jG ?_|refine jH ?_|refine jI ?_)|((with_reducible refine jR ?hq ?_);case hq=>rfl)|((first|(with_reducible first|refine jS fun K hK=>?_|refine jT ?_|refine jU ?_)|((with_reducible refine jV ?hy fun K hK=>?_);case hy=>rfl));simp only [go_sem, Nat.reduceEqDiff, Nat.reduceAdd, Nat.reduceMul, Nat.reduceLeDiff, Nat.reduceLT, Int.reduceLT, Int.reduceLE, Int.reduceEq, Int.reduceNeg, Int.reduceToNat, Nat.reducePow, reduceIte, reduceCtorEq])|((with_reducible first|refine jW ?hy ?_|refine jY ?hy ?_);case hy=>rfl)|((with_reducible first|refine jX ?hy ?_|refine jZ ?hy ?_);case hy=>rfl)|((with_reducible refine jF ?hy ?_);case hy=>decide))
  refine loop_normal (m' := ws.length - (k + 1)) (by omega) ⟨k + 1, z, B', v', hz, rfl, rfl, rfl, hr3, hf2.trans' hf3 (fun b hb hBb => ?_), fun b hb => ?_⟩
  ·have := hB b hBb
   omega
  ·have hs := hf2.size
   rcases hB3 with rfl | ⟨g', hg', hge⟩
   ·exact hB b hb
   ·rw [hg'] at hb
    obtain rfl := Option.some.inj hb
    omega
 | true =>
  have hlt : k + 1 = ws.length := by
   have h1 := (List.getElem?_eq_some_iff.1 hk).1
   rcases Nat.lt_or_ge (k + 1) ws.length with h | h
   ·obtain ⟨z, hz⟩ : ∃ z, ws[k + 1]? = some z := ⟨_, List.getElem?_eq_getElem h⟩
    have := (w1 k y z hk hz).1
    rw [hT] at this; cases this
   ·omega
  rw [hlt, List.take_length] at hr
  repeat' (first|(with_reducible first|refine jA ?_|(refine hK _ _ ?_;clear hK K)|refine jJ fun K hK=>?_|refine jK ?_|refine jL ?_|refine jM ?_|refine jN ?_|refine jO ?_|refine jP ?_|refine jQ ?_|(refine jB ?_;clear hK K)|(refine jC ?_;clear hK K)|refine jD ?_|refine jE ?_|refine jG ?_|refine jH ?_|refine jI ?_)|((with_reducible refine jR ?hq ?_);case hq=>rfl)|((first|(with_reducible first|refine jS fun K hK=>?_|refine jT ?_|refine jU ?_)|((with_reducible refine jV ?hy fun K hK=>?_);case hy=>rfl));simp only [go_sem, Nat.reduceEqDiff, Nat.reduceAdd, Nat.reduceMul, Nat.reduceLeDiff, Nat.reduceLT, Int.reduceLT, Int.reduceLE, Int.reduceEq, Int.reduceNeg, Int.reduceToNat, Nat.reducePow, reduceIte, reduceCtorEq])|((with_reducible first|refine jW ?hy ?_|refine jY ?hy ?_);case hy=>rfl)|((with_reducible first|refine jX ?hy ?_|refine jZ ?hy ?_);case hy=>rfl)|((with_reducible refine jF ?hy ?_);case hy=>decide))
  intro hx_; clear hx_
  refine top_seq (top_seq (top_of mixed [] (by kernel_rfl) ?_))
  repeat' (first|(with_reducible first|refine jA ?_|(refine hK _ _ ?_;clear hK K)|refine jJ fun K hK=>?_|refine jK ?_|refine jL ?_|refine jM ?_|refine jN ?_|refine jO ?_|refine jP ?_|refine jQ ?_|(refine jB ?_;clear hK K)|(refine jC ?_;clear hK K)|refine jD ?_|refine jE ?_|refine jG ?_|refine jH ?_|refine jI ?_)|((with_reducible refine jR ?hq ?_);case hq=>rfl)|((first|(with_reducible first|refine jS fun K hK=>?_|refine jT ?_|refine jU ?_)|((with_reducible refine jV ?hy fun K hK=>?_);case hy=>rfl));simp only [go_sem, Nat.reduceEqDiff, Nat.reduceAdd, Nat.reduceMul, Nat.reduceLeDiff, Nat.reduceLT, Int.reduceLT, Int.reduceLE, Int.reduceEq, Int.reduceNeg, Int.reduceToNat, Nat.reducePow, reduceIte, reduceCtorEq, i4])|((with_reducible first|refine jW ?hy ?_|refine jY ?hy ?_);case hy=>rfl)|((with_reducible first|refine jX ?hy ?_|refine jZ ?hy ?_);case hy=>rfl)|((with_reducible refine jF ?hy ?_);case hy=>decide))
  obtain ⟨rg, cap, rfl, rfl, hcells⟩ := hcell_app hr (by unfold natsI; simpa using hw.ne)
  refine back_ok (a := some ⟨rg, 0, none⟩) fun H3 hf3 q3' => ?_
  repeat' (first|(with_reducible first|refine jA ?_|(refine hK _ _ ?_;clear hK K)|refine jJ fun K hK=>?_|refine jK ?_|refine jL ?_|refine jM ?_|refine jN ?_|refine jO ?_|refine jP ?_|refine jQ ?_|(refine jB ?_;clear hK K)|(refine jC ?_;clear hK K)|refine jD ?_|refine jE ?_|refine jG ?_|refine jH ?_|refine jI ?_)|((with_reducible refine jR ?hq ?_);case hq=>rfl)|((first|(with_reducible first|refine jS fun K hK=>?_|refine jT ?_|refine jU ?_)|((with_reducible refine jV ?hy fun K hK=>?_);case hy=>rfl));simp only [go_sem, Nat.reduceEqDiff, Nat.reduceAdd, Nat.reduceMul, Nat.reduceLeDiff, Nat.reduceLT, Int.reduceLT, Int.reduceLE, Int.reduceEq, Int.reduceNeg, Int.reduceToNat, Nat.reducePow, reduceIte, reduceCtorEq])|((with_reducible first|refine jW ?hy ?_|refine jY ?hy ?_);case hy=>rfl)|((with_reducible first|refine jX ?hy ?_|refine jZ ?hy ?_);case hy=>rfl)|((with_reducible refine jF ?hy ?_);case hy=>decide))
  intro hx_; clear hx_
  have hN3 := hN2.grow hf3
  have q3 : hcell H3 ⟨H.size, 0, none⟩ = some (.pointer (some ⟨t, 0, none⟩)) := by rw [hf3.cell (hcell_lt q2) (fun h => h)]; exact q2
  have hc3 : ∀ k x, (natsI ws)[k]? = some x → hcell H3 ⟨rg, k, none⟩ = some (.int .i64 x) := fun k x hx => by
   have := hcells k x hx
   rw [hf3.cell (hcell_lt this) (fun h => h)]; exact this
  have hs2 := hf2.size
  have hs3 := hf3.size
  have nrg : rg ≠ g := by have := hB rg rfl; omega
  have hnw : (natsI ws).length = ws.length := by unfold natsI; simp
  refine top_block (top_rangeN rfl fun r H4 hR hD hl hf4 s4 => ?_)
  have hN4 := hN3.grow hf4
  have q4 : hcell H4 ⟨H.size, 0, none⟩ = some (.pointer (some ⟨t, 0, none⟩)) := by rw [hf4.cell (hcell_lt q3) (fun h => h)]; exact q3
  have qs4 : hcell H4 ⟨H2.size, 0, none⟩ = some (.slice (some ⟨rg, 0, none⟩) (natsI ws).length cap) := by rw [hf4.cell (hcell_lt q3') (fun h => h)]; exact q3'
  have hc4 : ∀ k x, (natsI ws)[k]? = some x → hcell H4 ⟨rg, k, none⟩ = some (.int .i64 x) := fun k x hx => by
   have := hc3 k x hx
   rw [hf4.cell (hcell_lt this) (fun h => h)]; exact this
  have lS2 := hcell_lt q3'
  simp only at lS2
  refine backward_ok (l := H3.size + 1) (b := H2.size) (rg := rg) (cap := cap) (xs := natsI ws) (fun i H' => NA H' t g c len (pushAll N (ws.drop i)) ∧ Fr (· = g) H4 H') (by omega) ?_ ?_ ?_ ?_
  ·rintro i H' ⟨_, hf⟩
   refine ⟨by rw [hf.cell (hcell_lt qs4) (by simp only; omega)]; exact qs4, fun k x hx => ?_⟩
   have := hc4 k x hx
   rw [hf.cell (hcell_lt this) (by simpa using nrg)]; exact this
  ·refine ⟨?_, .refl _ _⟩
   rw [hnw, List.drop_length]
   exact hN4
  ·rintro i x H' K' hxi ⟨hNi, hfi⟩ hk
   obtain ⟨y', hyi, rfl⟩ : ∃ y' : Nat, ws[i]? = some y' ∧ x = (y' : Nat) := by
    unfold natsI at hxi
    rw [List.getElem?_map] at hxi
    cases hw' : ws[i]? with
    | none => rw [hw'] at hxi; cases hxi
    | some y' => rw [hw'] at hxi; exact ⟨y', rfl, (Option.some.inj hxi).symm⟩
   have hy' : y' < len := hwl y' (List.mem_of_getElem? hyi)
   have hli : H'[H3.size + 1]? = some (.loop r) := by rw [hfi.same _ (by omega) (by omega)]; exact hl
   refine hp_round mixed [] hR hli rfl (by simp) (by kernel_rfl) (by kernel_rfl) (fun e => e 7 = .int .i64 (y' : Nat) ∧ e 2 = .pointer (some ⟨H.size, 0, none⟩)) ?_ ?_
   ·rw [show (#[32, 33].zip #[Value.int .i64 (i : Nat), Value.int .i64 (y' : Nat)]).toList = [(32, Value.int .i64 (i : Nat)), (33, Value.int .i64 (y' : Nat))] from by simp [Array.toList_zip]]
    simp only [List.foldl_cons, List.foldl_nil]
    repeat' (first|(with_reducible first|refine jA ?_|(refine hK _ _ ?_;clear hK K)|refine jJ fun K hK=>?_|refine jK ?_|refine jL ?_|refine jM ?_|refine jN ?_|refine jO ?_|refine jP ?_|refine jQ ?_|(refine jB ?_;clear hK K)|(refine jC ?_;clear hK K)|refine jD ?_|refine jE ?_|refine jG ?_|refine jH ?_|refine jI ?_)|((with_reducible refine jR ?hq ?_);case hq=>rfl)|((first|(with_reducible first|refine jS fun K hK=>?_|refine jT ?_|refine jU ?_)|((with_reducible refine jV ?hy fun K hK=>?_);case hy=>rfl));simp only [go_sem, Nat.reduceEqDiff, Nat.reduceAdd, Nat.reduceMul, Nat.reduceLeDiff, Nat.reduceLT, Int.reduceLT, Int.reduceLE, Int.reduceEq, Int.reduceNeg, Int.reduceToNat, Nat.reducePow, reduceIte, reduceCtorEq])|((with_reducible first|refine jW ?hy ?_|refine jY ?hy ?_);case hy=>rfl)|((with_reducible first|refine jX ?hy ?_|refine jZ ?hy ?_);case hy=>rfl)|((with_reducible refine jF ?hy ?_);case hy=>decide))
    refine ⟨rfl, rfl, ?_, ?_⟩
    ·rfl
    ·exact i2
   ·rintro e1 ⟨j7, j2⟩
    have hfb : Fr (· = H3.size + 1) H' (H'.setIfInBounds (H3.size + 1) (.loop (busy r))) := setIB_fr _ _ _
    have hNb := hNi.frame hfb (by omega) (by omega)
    have qb : hcell (H'.setIfInBounds (H3.size + 1) (.loop (busy r))) ⟨H.size, 0, none⟩ = some (.pointer (some ⟨t, 0, none⟩)) := by
     have h1 : hcell H' ⟨H.size, 0, none⟩ = some (.pointer (some ⟨t, 0, none⟩)) := by rw [hfi.cell (hcell_lt q4) (by simp only; omega)]; exact q4
     rw [hfb.cell (hcell_lt h1) (by simp only; omega)]; exact h1
    have hlb : (H'.setIfInBounds (H3.size + 1) (.loop (busy r)))[H3.size + 1]? = some (.loop (busy r)) := by rw [Array.getElem?_setIfInBounds_self_of_lt (by have := hfi.size; omega)]
    generalize H'.setIfInBounds (H3.size + 1) (.loop (busy r)) = Hb at hfb hNb qb hlb
    repeat' (first|(with_reducible first|refine jA ?_|(refine hK _ _ ?_;clear hK K)|refine jJ fun K hK=>?_|refine jK ?_|refine jL ?_|refine jM ?_|refine jN ?_|refine jO ?_|refine jP ?_|refine jQ ?_|(refine jB ?_;clear hK K)|(refine jC ?_;clear hK K)|refine jD ?_|refine jE ?_|refine jG ?_|refine jH ?_|refine jI ?_)|((with_reducible refine jR ?hq ?_);case hq=>rfl)|((first|(with_reducible first|refine jS fun K hK=>?_|refine jT ?_|refine jU ?_)|((with_reducible refine jV ?hy fun K hK=>?_);case hy=>rfl));simp only [go_sem, Nat.reduceEqDiff, Nat.reduceAdd, Nat.reduceMul, Nat.reduceLeDiff, Nat.reduceLT, Int.reduceLT, Int.reduceLE, Int.reduceEq, Int.reduceNeg, Int.reduceToNat, Nat.reducePow, reduceIte, reduceCtorEq, j7, j2, qb])|((with_reducible first|refine jW ?hy ?_|refine jY ?hy ?_);case hy=>rfl)|((with_reducible first|refine jX ?hy ?_|refine jZ ?hy ?_);case hy=>rfl)|((with_reducible refine jF ?hy ?_);case hy=>decide))
    refine push_ok hNb hy' fun H6 hN6 hf6 => ?_
    repeat' (first|(with_reducible first|refine jA ?_|(refine hK _ _ ?_;clear hK K)|refine jJ fun K hK=>?_|refine jK ?_|refine jL ?_|refine jM ?_|refine jN ?_|refine jO ?_|refine jP ?_|refine jQ ?_|(refine jB ?_;clear hK K)|(refine jC ?_;clear hK K)|refine jD ?_|refine jE ?_|refine jG ?_|refine jH ?_|refine jI ?_)|((with_reducible refine jR ?hq ?_);case hq=>rfl)|((first|(with_reducible first|refine jS fun K hK=>?_|refine jT ?_|refine jU ?_)|((with_reducible refine jV ?hy fun K hK=>?_);case hy=>rfl));simp only [go_sem, Nat.reduceEqDiff, Nat.reduceAdd, Nat.reduceMul, Nat.reduceLeDiff, Nat.reduceLT, Int.reduceLT, Int.reduceLE, Int.reduceEq, Int.reduceNeg, Int.reduceToNat, Nat.reducePow, reduceIte, reduceCtorEq])|((with_reducible first|refine jW ?hy ?_|refine jY ?hy ?_);case hy=>rfl)|((with_reducible first|refine jX ?hy ?_|refine jZ ?hy ?_);case hy=>rfl)|((with_reducible refine jF ?hy ?_);case hy=>decide))
    have hl6 : H6[H3.size + 1]? = some (.loop (busy r)) := by rw [hf6.same _ (by have := hfb.size; have := hfi.size; omega) (by omega)]; exact hlb
    refine roundQ_normal hR hl6 (hk _ ⟨?_, ?_⟩)
    ·have := hN6.frame (setIB_fr H6 (H3.size + 1) (.loop r)) (by omega) (by omega)
     rw [List.drop_eq_getElem_cons (by exact (List.getElem?_eq_some_iff.1 hyi).1), (List.getElem?_eq_some_iff.1 hyi).2]
     exact this
    ·have f1 : Fr (fun b => b = g ∨ b = H3.size + 1) H4 (H6.setIfInBounds (H3.size + 1) (.loop r)) :=
      (((hfi.mono fun _ _ h => .inl h).trans (hfb.mono fun _ _ h => .inr h)).trans (hf6.mono fun _ _ h => .inl h)).trans ((setIB_fr _ _ _).mono fun _ _ h => .inr h)
     exact fr_close f1 (by rw [hl, Array.getElem?_setIfInBounds_self_of_lt (by have := hfb.size; have := hfi.size; have := hf6.size; omega)])
  ·rintro H5 ⟨hN5, hf5⟩
   have hl5 : H5[H3.size + 1]? = some (.loop r) := by rw [hf5.same _ (by omega) (by omega)]; exact hl
   refine ⟨hl5, ?_⟩
   have hD5 : H5[H3.size]? = some (.deferred (some [])) := by rw [hf5.same _ (by omega) (by omega)]; exact hD
   have q5 : hcell H5 ⟨H.size, 0, none⟩ = some (.pointer (some ⟨t, 0, none⟩)) := by rw [hf5.cell (hcell_lt q4) (by simp only; omega)]; exact q4
   have f6 := setIB_fr H5 (H3.size + 1) (.loop { r with state := .exhausted })
   have hN6 := hN5.frame f6 (by omega) (by omega)
   have hD6 : (H5.setIfInBounds (H3.size + 1) (.loop { r with state := .exhausted }))[H3.size]? = some (.deferred (some [])) := by rw [f6.same _ (by have := hf5.size; omega) (by omega)]; exact hD5
   have q6 : hcell (H5.setIfInBounds (H3.size + 1) (.loop { r with state := .exhausted })) ⟨H.size, 0, none⟩ = some (.pointer (some ⟨t, 0, none⟩)) := by rw [f6.cell (hcell_lt q5) (by simp only; omega)]; exact q5
   have f46 : Fr (fun b => b = g ∨ b = H3.size + 1) H4 (H5.setIfInBounds (H3.size + 1) (.loop { r with state := .exhausted })) := (hf5.mono fun _ _ h => .inl h).trans (f6.mono fun _ _ h => .inr h)
   generalize H5.setIfInBounds (H3.size + 1) (.loop { r with state := .exhausted }) = H6 at f6 hN6 hD6 q6 f46
   have f06 : Fr (· = g) H H6 := ((f0.trans (hf2.trans (hf3.trans hf4))).mono (S' := (· = g)) fun _ _ h => h.elim).trans' f46 fun b hb hS => by
    rcases hS with h | h
    ·exact h
    ·omega
   have s6 := f46.size
   rw [List.drop_zero] at hN6
   clear hN5 hl5 hD5 q5 f6 hf5 hD hl hR hN4 q4 qs4 hc4
   refine top_of mixed [13] (by kernel_rfl) ?_
   repeat' (first|(with_reducible first|refine jA ?_|(refine hK _ _ ?_;clear hK K)|refine jJ fun K hK=>?_|refine jK ?_|refine jL ?_|refine jM ?_|refine jN ?_|refine jO ?_|refine jP ?_|refine jQ ?_|(refine jB ?_;clear hK K)|(refine jC ?_;clear hK K)|refine jD ?_|refine jE ?_|refine jG ?_|refine jH ?_|refine jI ?_)|((with_reducible refine jR ?hq ?_);case hq=>rfl)|((first|(with_reducible first|refine jS fun K hK=>?_|refine jT ?_|refine jU ?_)|((with_reducible refine jV ?hy fun K hK=>?_);case hy=>rfl));simp only [go_sem, Nat.reduceEqDiff, Nat.reduceAdd, Nat.reduceMul, Nat.reduceLeDiff, Nat.reduceLT, Int.reduceLT, Int.reduceLE, Int.reduceEq, Int.reduceNeg, Int.reduceToNat, Nat.reducePow, reduceIte, reduceCtorEq])|((with_reducible first|refine jW ?hy ?_|refine jY ?hy ?_);case hy=>rfl)|((with_reducible first|refine jX ?hy ?_|refine jZ ?hy ?_);case hy=>rfl)|((with_reducible refine jF ?hy ?_);case hy=>decide))
   refine x_loop (fun m e' H' => ∃ N', NA H' t g c len N' ∧ P m N' ∧ Fr (· = g) H6 H') m0 ⟨_, hN6, h0, .refl _ _⟩ ?_
   rintro m e3 H7 ⟨N7, hN7, hP7, hf7⟩ hoff
   have j1 : e3 1 = .int .i64 (h : Nat) := (hoff 1 rfl).trans i1
   have j2 : e3 2 = .pointer (some ⟨H.size, 0, none⟩) := (hoff 2 rfl).trans i2
   clear hoff
   have hq : ∀ H', Fr (· = g) H6 H' → hcell H' ⟨H.size, 0, none⟩ = some (.pointer (some ⟨t, 0, none⟩)) := fun H' hf => by rw [hf.cell (hcell_lt q6) (by simp only; omega)]; exact q6
   have q7 := hq H7 hf7
   repeat' (first|(with_reducible first|refine jA ?_|(refine hK _ _ ?_;clear hK K)|refine jJ fun K hK=>?_|refine jK ?_|refine jL ?_|refine jM ?_|refine jN ?_|refine jO ?_|refine jP ?_|refine jQ ?_|(refine jB ?_;clear hK K)|(refine jC ?_;clear hK K)|refine jD ?_|refine jE ?_|refine jG ?_|refine jH ?_|refine jI ?_)|((with_reducible refine jR ?hq ?_);case hq=>rfl)|((first|(with_reducible first|refine jS fun K hK=>?_|refine jT ?_|refine jU ?_)|((with_reducible refine jV ?hy fun K hK=>?_);case hy=>rfl));simp only [go_sem, Nat.reduceEqDiff, Nat.reduceAdd, Nat.reduceMul, Nat.reduceLeDiff, Nat.reduceLT, Int.reduceLT, Int.reduceLE, Int.reduceEq, Int.reduceNeg, Int.reduceToNat, Nat.reducePow, reduceIte, reduceCtorEq, j1, j2, q7])|((with_reducible first|refine jW ?hy ?_|refine jY ?hy ?_);case hy=>rfl)|((with_reducible first|refine jX ?hy ?_|refine jZ ?hy ?_);case hy=>rfl)|((with_reducible refine jF ?hy ?_);case hy=>decide))
   refine top_ok hN7 hh ?_
   rcases hP m N7 hP7 with hT | ⟨hT, m', hm, hP8⟩
   ·rw [hT]
    repeat' (first|(with_reducible first|refine jA ?_|(refine hK _ _ ?_;clear hK K)|refine jJ fun K hK=>?_|refine jK ?_|refine jL ?_|refine jM ?_|refine jN ?_|refine jO ?_|refine jP ?_|refine jQ ?_|(refine jB ?_;clear hK K)|(refine jC ?_;clear hK K)|refine jD ?_|refine jE ?_|refine jG ?_|refine jH ?_|refine jI ?_)|((with_reducible refine jR ?hq ?_);case hq=>rfl)|((first|(with_reducible first|refine jS fun K hK=>?_|refine jT ?_|refine jU ?_)|((with_reducible refine jV ?hy fun K hK=>?_);case hy=>rfl));simp only [go_sem, Nat.reduceEqDiff, Nat.reduceAdd, Nat.reduceMul, Nat.reduceLeDiff, Nat.reduceLT, Int.reduceLT, Int.reduceLE, Int.reduceEq, Int.reduceNeg, Int.reduceToNat, Nat.reducePow, reduceIte, reduceCtorEq])|((with_reducible first|refine jW ?hy ?_|refine jY ?hy ?_);case hy=>rfl)|((with_reducible first|refine jX ?hy ?_|refine jZ ?hy ?_);case hy=>rfl)|((with_reducible refine jF ?hy ?_);case hy=>decide))
    intro hx_
    clear hx_
    have hD7 : H7[H3.size]? = some (.deferred (some [])) := by rw [hf7.same _ (by omega) (by omega)]; exact hD6
    refine ⟨⟨hD7, trivial⟩, ?_⟩
    have f8 := setIB_fr H7 H3.size (.deferred none)
    show L (.tuple #[]) _
    refine fin _ N7 m (hN7.frame f8 (by omega) (by omega)) hP7 hT ?_
    exact (f06.trans hf7).trans' f8 fun b hb e => by omega
   ·rw [hT]
    have hu := hN7.cl.up h hh
    have c0 := hN7.cell0 hh
    have hd7 := hN7.hd
    unfold stepN at hP8
    obtain ⟨u, eu⟩ : ∃ u, (N7 h).up = u := ⟨_, rfl⟩
    rw [eu] at hu c0
    rw [eu] at hP8
    repeat' (first|(with_reducible first|refine jA ?_|(refine hK _ _ ?_;clear hK K)|refine jJ fun K hK=>?_|refine jK ?_|refine jL ?_|refine jM ?_|refine jN ?_|refine jO ?_|refine jP ?_|refine jQ ?_|(refine jB ?_;clear hK K)|(refine jC ?_;clear hK K)|refine jD ?_|refine jE ?_|refine jG ?_|refine jH ?_|refine jI ?_)|((with_reducible refine jR ?hq ?_);case hq=>rfl)|((first|(with_reducible first|refine jS fun K hK=>?_|refine jT ?_|refine jU ?_)|((with_reducible refine jV ?hy fun K hK=>?_);case hy=>rfl));simp only [go_sem, Nat.reduceEqDiff, Nat.reduceAdd, Nat.reduceMul, Nat.reduceLeDiff, Nat.reduceLT, Int.reduceLT, Int.reduceLE, Int.reduceEq, Int.reduceNeg, Int.reduceToNat, Nat.reducePow, reduceIte, reduceCtorEq, j1, j2, q7, hd7, c0, hh])|((with_reducible first|refine jW ?hy ?_|refine jY ?hy ?_);case hy=>rfl)|((with_reducible first|refine jX ?hy ?_|refine jZ ?hy ?_);case hy=>rfl)|((with_reducible refine jF ?hy ?_);case hy=>decide))
    refine top_ok hN7 hu ?_
    cases hTu : topB N7 u with
    | true =>
     rw [hTu, if_pos rfl] at hP8
     repeat' (first|(with_reducible first|refine jA ?_|(refine hK _ _ ?_;clear hK K)|refine jJ fun K hK=>?_|refine jK ?_|refine jL ?_|refine jM ?_|refine jN ?_|refine jO ?_|refine jP ?_|refine jQ ?_|(refine jB ?_;clear hK K)|(refine jC ?_;clear hK K)|refine jD ?_|refine jE ?_|refine jG ?_|refine jH ?_|refine jI ?_)|((with_reducible refine jR ?hq ?_);case hq=>rfl)|((first|(with_reducible first|refine jS fun K hK=>?_|refine jT ?_|refine jU ?_)|((with_reducible refine jV ?hy fun K hK=>?_);case hy=>rfl));simp only [go_sem, Nat.reduceEqDiff, Nat.reduceAdd, Nat.reduceMul, Nat.reduceLeDiff, Nat.reduceLT, Int.reduceLT, Int.reduceLE, Int.reduceEq, Int.reduceNeg, Int.reduceToNat, Nat.reducePow, reduceIte, reduceCtorEq, j1, j2, q7])|((with_reducible first|refine jW ?hy ?_|refine jY ?hy ?_);case hy=>rfl)|((with_reducible first|refine jX ?hy ?_|refine jZ ?hy ?_);case hy=>rfl)|((with_reducible refine jF ?hy ?_);case hy=>decide))
     refine rotate_ok hN7 hh fun H8 hN8 hf8 => ?_
     repeat' (first|(with_reducible first|refine jA ?_|(refine hK _ _ ?_;clear hK K)|refine jJ fun K hK=>?_|refine jK ?_|refine jL ?_|refine jM ?_|refine jN ?_|refine jO ?_|refine jP ?_|refine jQ ?_|(refine jB ?_;clear hK K)|(refine jC ?_;clear hK K)|refine jD ?_|refine jE ?_|refine jG ?_|refine jH ?_|refine jI ?_)|((with_reducible refine jR ?hq ?_);case hq=>rfl)|((first|(with_reducible first|refine jS fun K hK=>?_|refine jT ?_|refine jU ?_)|((with_reducible refine jV ?hy fun K hK=>?_);case hy=>rfl));simp only [go_sem, Nat.reduceEqDiff, Nat.reduceAdd, Nat.reduceMul, Nat.reduceLeDiff, Nat.reduceLT, Int.reduceLT, Int.reduceLE, Int.reduceEq, Int.reduceNeg, Int.reduceToNat, Nat.reducePow, reduceIte, reduceCtorEq])|((with_reducible first|refine jW ?hy ?_|refine jY ?hy ?_);case hy=>rfl)|((with_reducible first|refine jX ?hy ?_|refine jZ ?hy ?_);case hy=>rfl)|((with_reducible refine jF ?hy ?_);case hy=>decide))
     exact loop_normal hm ⟨_, hN8, hP8, hf7.trans hf8⟩
    | false =>
     rw [hTu, if_neg (by simp)] at hP8
     have ho := hN7.cl.up u hu
     have u0 := hN7.cell0 hu
     have u1 := hN7.cell (j := 1) hu rfl
     have o1 := hN7.cell (j := 1) ho rfl
     have e1 : (((N7 (N7 u).up).l : Int) == (u : Int)) = decide ((N7 (N7 u).up).l = u) := by rw [Bool.eq_iff_iff]; simp; omega
     have e2 : (((N7 u).l : Int) == (h : Int)) = decide ((N7 u).l = h) := by rw [Bool.eq_iff_iff]; simp; omega
     unfold firstN at hP8
     rw [eu] at hP8
     by_cases hb : (decide ((N7 (N7 u).up).l = u) == decide ((N7 u).l = h)) = true
     ·rw [if_pos hb] at hP8
      repeat' (first|(with_reducible first|refine jA ?_|(refine hK _ _ ?_;clear hK K)|refine jJ fun K hK=>?_|refine jK ?_|refine jL ?_|refine jM ?_|refine jN ?_|refine jO ?_|refine jP ?_|refine jQ ?_|(refine jB ?_;clear hK K)|(refine jC ?_;clear hK K)|refine jD ?_|refine jE ?_|refine jG ?_|refine jH ?_|refine jI ?_)|((with_reducible refine jR ?hq ?_);case hq=>rfl)|((first|(with_reducible first|refine jS fun K hK=>?_|refine jT ?_|refine jU ?_)|((with_reducible refine jV ?hy fun K hK=>?_);case hy=>rfl));simp only [go_sem, Nat.reduceEqDiff, Nat.reduceAdd, Nat.reduceMul, Nat.reduceLeDiff, Nat.reduceLT, Int.reduceLT, Int.reduceLE, Int.reduceEq, Int.reduceNeg, Int.reduceToNat, Nat.reducePow, reduceIte, reduceCtorEq, j1, j2, q7, hd7, u0, u1, o1, hu, ho, e1, e2, hb])|((with_reducible first|refine jW ?hy ?_|refine jY ?hy ?_);case hy=>rfl)|((with_reducible first|refine jX ?hy ?_|refine jZ ?hy ?_);case hy=>rfl)|((with_reducible refine jF ?hy ?_);case hy=>decide))
      refine rotate_ok hN7 hu fun H8 hN8 hf8 => ?_
      have q8 := hq H8 (hf7.trans hf8)
      repeat' (first|(with_reducible first|refine jA ?_|(refine hK _ _ ?_;clear hK K)|refine jJ fun K hK=>?_|refine jK ?_|refine jL ?_|refine jM ?_|refine jN ?_|refine jO ?_|refine jP ?_|refine jQ ?_|(refine jB ?_;clear hK K)|(refine jC ?_;clear hK K)|refine jD ?_|refine jE ?_|refine jG ?_|refine jH ?_|refine jI ?_)|((with_reducible refine jR ?hq ?_);case hq=>rfl)|((first|(with_reducible first|refine jS fun K hK=>?_|refine jT ?_|refine jU ?_)|((with_reducible refine jV ?hy fun K hK=>?_);case hy=>rfl));simp only [go_sem, Nat.reduceEqDiff, Nat.reduceAdd, Nat.reduceMul, Nat.reduceLeDiff, Nat.reduceLT, Int.reduceLT, Int.reduceLE, Int.reduceEq, Int.reduceNeg, Int.reduceToNat, Nat.reducePow, reduceIte, reduceCtorEq, j1, j2, q8])|((with_reducible first|refine jW ?hy ?_|refine jY ?hy ?_);case hy=>rfl)|((with_reducible first|refine jX ?hy ?_|refine jZ ?hy ?_);case hy=>rfl)|((with_reducible refine jF ?hy ?_);case hy=>decide))
      refine rotate_ok hN8 hh fun H9 hN9 hf9 => ?_
      repeat' (first|(with_reducible first|refine jA ?_|(refine hK _ _ ?_;clear hK K)|refine jJ fun K hK=>?_|refine jK ?_|refine jL ?_|refine jM ?_|refine jN ?_|refine jO ?_|refine jP ?_|refine jQ ?_|(refine jB ?_;clear hK K)|(refine jC ?_;clear hK K)|refine jD ?_|refine jE ?_|refine jG ?_|refine jH ?_|refine jI ?_)|((with_reducible refine jR ?hq ?_);case hq=>rfl)|((first|(with_reducible first|refine jS fun K hK=>?_|refine jT ?_|refine jU ?_)|((with_reducible refine jV ?hy fun K hK=>?_);case hy=>rfl));simp only [go_sem, Nat.reduceEqDiff, Nat.reduceAdd, Nat.reduceMul, Nat.reduceLeDiff, Nat.reduceLT, Int.reduceLT, Int.reduceLE, Int.reduceEq, Int.reduceNeg, Int.reduceToNat, Nat.reducePow, reduceIte, reduceCtorEq])|((with_reducible first|refine jW ?hy ?_|refine jY ?hy ?_);case hy=>rfl)|((with_reducible first|refine jX ?hy ?_|refine jZ ?hy ?_);case hy=>rfl)|((with_reducible refine jF ?hy ?_);case hy=>decide))
      exact loop_normal hm ⟨_, hN9, hP8, (hf7.trans hf8).trans hf9⟩
     ·rw [if_neg hb] at hP8
      simp only [Bool.not_eq_true] at hb
      repeat' (first|(with_reducible first|refine jA ?_|(refine hK _ _ ?_;clear hK K)|refine jJ fun K hK=>?_|refine jK ?_|refine jL ?_|refine jM ?_|refine jN ?_|refine jO ?_|refine jP ?_|refine jQ ?_|(refine jB ?_;clear hK K)|(refine jC ?_;clear hK K)|refine jD ?_|refine jE ?_|refine jG ?_|refine jH ?_|refine jI ?_)|((with_reducible refine jR ?hq ?_);case hq=>rfl)|((first|(with_reducible first|refine jS fun K hK=>?_|refine jT ?_|refine jU ?_)|((with_reducible refine jV ?hy fun K hK=>?_);case hy=>rfl));simp only [go_sem, Nat.reduceEqDiff, Nat.reduceAdd, Nat.reduceMul, Nat.reduceLeDiff, Nat.reduceLT, Int.reduceLT, Int.reduceLE, Int.reduceEq, Int.reduceNeg, Int.reduceToNat, Nat.reducePow, reduceIte, reduceCtorEq, j1, j2, q7, hd7, u0, u1, o1, hu, ho, e1, e2, hb])|((with_reducible first|refine jW ?hy ?_|refine jY ?hy ?_);case hy=>rfl)|((with_reducible first|refine jX ?hy ?_|refine jZ ?hy ?_);case hy=>rfl)|((with_reducible refine jF ?hy ?_);case hy=>decide))
      refine rotate_ok hN7 hh fun H8 hN8 hf8 => ?_
      have q8 := hq H8 (hf7.trans hf8)
      repeat' (first|(with_reducible first|refine jA ?_|(refine hK _ _ ?_;clear hK K)|refine jJ fun K hK=>?_|refine jK ?_|refine jL ?_|refine jM ?_|refine jN ?_|refine jO ?_|refine jP ?_|refine jQ ?_|(refine jB ?_;clear hK K)|(refine jC ?_;clear hK K)|refine jD ?_|refine jE ?_|refine jG ?_|refine jH ?_|refine jI ?_)|((with_reducible refine jR ?hq ?_);case hq=>rfl)|((first|(with_reducible first|refine jS fun K hK=>?_|refine jT ?_|refine jU ?_)|((with_reducible refine jV ?hy fun K hK=>?_);case hy=>rfl));simp only [go_sem, Nat.reduceEqDiff, Nat.reduceAdd, Nat.reduceMul, Nat.reduceLeDiff, Nat.reduceLT, Int.reduceLT, Int.reduceLE, Int.reduceEq, Int.reduceNeg, Int.reduceToNat, Nat.reducePow, reduceIte, reduceCtorEq, j1, j2, q8])|((with_reducible first|refine jW ?hy ?_|refine jY ?hy ?_);case hy=>rfl)|((with_reducible first|refine jX ?hy ?_|refine jZ ?hy ?_);case hy=>rfl)|((with_reducible refine jF ?hy ?_);case hy=>decide))
      refine rotate_ok hN8 hh fun H9 hN9 hf9 => ?_
      repeat' (first|(with_reducible first|refine jA ?_|(refine hK _ _ ?_;clear hK K)|refine jJ fun K hK=>?_|refine jK ?_|refine jL ?_|refine jM ?_|refine jN ?_|refine jO ?_|refine jP ?_|refine jQ ?_|(refine jB ?_;clear hK K)|(refine jC ?_;clear hK K)|refine jD ?_|refine jE ?_|refine jG ?_|refine jH ?_|refine jI ?_)|((with_reducible refine jR ?hq ?_);case hq=>rfl)|((first|(with_reducible first|refine jS fun K hK=>?_|refine jT ?_|refine jU ?_)|((with_reducible refine jV ?hy fun K hK=>?_);case hy=>rfl));simp only [go_sem, Nat.reduceEqDiff, Nat.reduceAdd, Nat.reduceMul, Nat.reduceLeDiff, Nat.reduceLT, Int.reduceLT, Int.reduceLE, Int.reduceEq, Int.reduceNeg, Int.reduceToNat, Nat.reducePow, reduceIte, reduceCtorEq])|((with_reducible first|refine jW ?hy ?_|refine jY ?hy ?_);case hy=>rfl)|((with_reducible first|refine jX ?hy ?_|refine jZ ?hy ?_);case hy=>rfl)|((with_reducible refine jF ?hy ?_);case hy=>decide))
      exact loop_normal hm ⟨_, hN9, hP8, (hf7.trans hf8).trans hf9⟩
end
end Go.Proofs.Ytoplhfhjokjbiaa
namespace Go.Li
set_option linter.unusedVariables false
set_option linter.unusedSimpArgs false

abbrev Par := Nat → Nat
inductive Ch (par : Par) : Nat → List Nat → Prop
 | root {h : Nat} : par h = 0 → Ch par h [h]
 | step {h : Nat} {l : List Nat} : par h ≠ 0 → Ch par (par h) l → Ch par h (h :: l)
variable {par : Par}
theorem Ch.uniq {h : Nat} {l l' : List Nat} (a : Ch par h l) (b : Ch par h l') : l = l' := by
 induction a generalizing l' with
 | root h0 =>
  cases b with
  | root _ => rfl
  | step h1 _ => exact absurd h0 h1
 | step h0 _ ih =>
  cases b with
  | root h1 => exact absurd h1 h0
  | step _ k => rw [ih k]
theorem Ch.head {h : Nat} {l : List Nat} (a : Ch par h l) : ∃ r, l = h :: r := by
 cases a
 ·exact ⟨_, rfl⟩
 ·exact ⟨_, rfl⟩
theorem Ch.ne {h : Nat} {l : List Nat} (a : Ch par h l) : l ≠ [] := by obtain ⟨r, rfl⟩ := a.head; simp
theorem Ch.tail {h : Nat} {p q : List Nat} {x : Nat} (a : Ch par h (p ++ x :: q)) : Ch par x (x :: q) := by
 generalize hl : p ++ x :: q = l at a
 induction a generalizing p with
 | @root h h0 =>
  cases p with
  | nil => simp at hl; obtain ⟨rfl, rfl⟩ := hl; exact .root h0
  | cons y p => simp at hl
 | @step h l h0 k ih =>
  cases p with
  | nil => simp at hl; obtain ⟨rfl, rfl⟩ := hl; exact .step h0 k
  | cons y p =>
   simp at hl
   exact ih hl.2
theorem Ch.par_eq {h : Nat} {p q : List Nat} {x y : Nat} (a : Ch par h (p ++ x :: y :: q)) : par x = y ∧ y ≠ 0 := by
 have := a.tail
 cases this with
 | step h0 k =>
  obtain ⟨r, hr⟩ := k.head
  simp at hr
  exact ⟨hr.1.symm, by rw [hr.1]; exact h0⟩
theorem Ch.last_par {h : Nat} {l : List Nat} {r : Nat} (a : Ch par h l) (hl : l.getLast? = some r) : par r = 0 := by
 induction a with
 | root h0 => simp at hl; subst hl; exact h0
 | @step h l h0 k ih =>
  obtain ⟨q, rfl⟩ := k.head
  exact ih (by simpa using hl)
theorem Ch.nodup {h : Nat} {l : List Nat} (a : Ch par h l) : l.Nodup := by
 induction a with
 | root _ => simp
 | @step h l h0 k ih =>
  refine List.nodup_cons.2 ⟨fun hm => ?_, ih⟩
  obtain ⟨p, q, e⟩ := List.append_of_mem hm
  rw [e] at k
  have h1 := k.tail
  have h2 : Ch par h (h :: (p ++ h :: q)) := .step h0 k
  have := congrArg List.length (h1.uniq h2)
  simp at this
  omega
theorem Ch.mem_self {h : Nat} {l : List Nat} (a : Ch par h l) : h ∈ l := by obtain ⟨r, rfl⟩ := a.head; exact .head _
theorem Ch.nz {h : Nat} {l : List Nat} (a : Ch par h l) (h0 : h ≠ 0) : 0 ∉ l := by
 induction a with
 | root _ => simp; omega
 | @step h l h1 k ih =>
  simp only [List.mem_cons, not_or]
  exact ⟨Ne.symm h0, ih h1⟩
theorem Ch.congr {par' : Par} {h : Nat} {l : List Nat} (a : Ch par h l) (hp : ∀ x ∈ l, par' x = par x) : Ch par' h l := by
 induction a with
 | root h0 => exact .root (by rw [hp _ (.head _)]; exact h0)
 | @step h l h0 k ih =>
  have e := hp h (.head _)
  have := ih fun x hx => hp x (.tail _ hx)
  rw [← e] at this
  exact .step (by rw [e]; exact h0) this
def RootOf (par : Par) (h r : Nat) : Prop := ∃ l, Ch par h l ∧ l.getLast? = some r
theorem RootOf.uniq {h r r' : Nat} (a : RootOf par h r) (b : RootOf par h r') : r = r' := by
 obtain ⟨l, h1, h2⟩ := a
 obtain ⟨l', h3, h4⟩ := b
 obtain rfl := h1.uniq h3
 rw [h2] at h4
 exact Option.some.inj h4
theorem RootOf.up {h r : Nat} (h0 : par h ≠ 0) : RootOf par h r ↔ RootOf par (par h) r := by
 constructor
 ·rintro ⟨l, h1, h2⟩
  cases h1 with
  | root h => exact absurd h h0
  | step _ k =>
   obtain ⟨q, rfl⟩ := k.head
   exact ⟨_, k, by simpa using h2⟩
 ·rintro ⟨l, h1, h2⟩
  obtain ⟨q, rfl⟩ := h1.head
  exact ⟨_, .step h0 h1, by simpa using h2⟩
theorem RootOf.self {h : Nat} (h0 : par h = 0) : RootOf par h h := ⟨_, .root h0, rfl⟩
def ev (par : Par) : Nat → List Nat → Nat → Nat
 | _, [], i => par i
 | prev, x :: r, i => if i = x then prev else ev par x r i
theorem ev_not_mem : ∀ {l : List Nat} {prev i : Nat}, i ∉ l → ev par prev l i = par i
 | [], _, _, _ => rfl
 | x :: r, prev, i, h => by
  simp only [List.mem_cons, not_or] at h
  unfold ev
  rw [if_neg h.1]
  exact ev_not_mem h.2
theorem ev_head {prev x : Nat} {r : List Nat} : ev par prev (x :: r) x = prev := if_pos rfl
theorem ev_next : ∀ {p : List Nat} {q : List Nat} {prev x y : Nat}, (p ++ x :: y :: q).Nodup → ev par prev (p ++ x :: y :: q) y = x
 | [], q, prev, x, y, h => by
  simp only [List.nil_append, List.nodup_cons, List.mem_cons, not_or] at h
  show ev par prev (x :: y :: q) y = x
  unfold ev
  rw [if_neg (Ne.symm h.1.1)]
  exact ev_head
 | z :: p, q, prev, x, y, h => by
  simp only [List.cons_append, List.nodup_cons, List.mem_append, List.mem_cons, not_or] at h
  show ev par prev (z :: (p ++ x :: y :: q)) y = x
  unfold ev
  rw [if_neg (Ne.symm h.1.2.2.1)]
  exact ev_next h.2
theorem ev_chain : ∀ {r : List Nat} {x : Nat} {p : List Nat}, (p.reverse ++ x :: r).Nodup → 0 ∉ p → Ch (ev par 0 (p.reverse ++ x :: r)) x (x :: p)
 | r, x, [], h, h0 => .root (by simp [ev_head])
 | r, x, y :: p, h, h0 => by
  have e : (y :: p).reverse ++ x :: r = p.reverse ++ y :: x :: r := by simp
  rw [e] at h ⊢
  have h1 := ev_next (par := par) (prev := 0) (p := p.reverse) (x := y) (y := x) (q := r) h
  simp only [List.mem_cons, not_or] at h0
  refine .step (by rw [h1]; exact Ne.symm h0.1) ?_
  rw [h1]
  exact ev_chain (r := x :: r) h h0.2
theorem ev_acyc {l : List Nat} {h0 : Nat} (hl : Ch par h0 l) (hz : h0 ≠ 0) {x : Nat} {m : List Nat} (hm : Ch par x m) : ∃ m', Ch (ev par 0 l) x m' := by
 have hn := hl.nodup
 have hnz := hl.nz hz
 have onl : ∀ y ∈ l, ∃ m', Ch (ev par 0 l) y m' := fun y hy => by
  obtain ⟨p, q, e⟩ := List.append_of_mem hy
  subst e
  refine ⟨y :: p.reverse, ?_⟩
  have := ev_chain (par := par) (r := q) (x := y) (p := p.reverse) (by rw [List.reverse_reverse]; exact hn) (fun h => hnz (List.mem_append_left _ (List.mem_reverse.1 h)))
  rw [List.reverse_reverse] at this
  exact this
 induction hm with
 | @root h h1 =>
  by_cases hh : h ∈ l
  ·exact onl h hh
  ·exact ⟨_, .root (by rw [ev_not_mem hh]; exact h1)⟩
 | @step h m h1 k ih =>
  by_cases hh : h ∈ l
  ·exact onl h hh
  ·obtain ⟨m', hm'⟩ := ih
   have e := ev_not_mem (par := par) (prev := 0) hh
   exact ⟨_, .step (by rw [e]; exact h1) (by rw [e]; exact hm')⟩
def Adj (par : Par) (x y : Nat) : Prop := (par x = y ∧ y ≠ 0) ∨ (par y = x ∧ x ≠ 0)
theorem Adj.symm {x y : Nat} (h : Adj par x y) : Adj par y x := Or.symm h
theorem ev_adj {l : List Nat} {h0 : Nat} (hl : Ch par h0 l) (hz : h0 ≠ 0) {x y : Nat} : Adj (ev par 0 l) x y ↔ Adj par x y := by
 have hn := hl.nodup
 have hnz := hl.nz hz
 have key : ∀ x y, (ev par 0 l x = y ∧ y ≠ 0) → Adj par x y := fun x y ⟨h1, h2⟩ => by
  by_cases hx : x ∈ l
  ·obtain ⟨p, q, e⟩ := List.append_of_mem hx
   rcases List.eq_nil_or_concat p with rfl | ⟨p', z, rfl⟩
   ·rw [e, List.nil_append, ev_head] at h1
    exact absurd h1.symm h2
   ·have e2 : l = p' ++ z :: x :: q := by rw [e]; simp
    rw [e2] at hn h1 hl
    rw [ev_next hn] at h1
    subst h1
    exact .inr ⟨(hl.par_eq).1, (hl.par_eq).2⟩
  ·rw [ev_not_mem hx] at h1
   exact .inl ⟨h1, h2⟩
 have key2 : ∀ x y, (par x = y ∧ y ≠ 0) → Adj (ev par 0 l) x y := fun x y ⟨h1, h2⟩ => by
  by_cases hx : x ∈ l
  ·obtain ⟨p, q, e⟩ := List.append_of_mem hx
   subst e
   have ht := hl.tail
   cases ht with
   | root h => rw [h] at h1; exact absurd h1.symm h2
   | step h k =>
    obtain ⟨r, hr⟩ := k.head
    rw [h1] at hr
    subst hr
    refine .inr ⟨ev_next hn, ?_⟩
    rintro rfl
    exact hnz (by simp)
  ·exact .inl ⟨by rw [ev_not_mem hx]; exact h1, h2⟩
 constructor
 ·rintro (h | h)
  ·exact key _ _ h
  ·exact (key _ _ h).symm
 ·rintro (h | h)
  ·exact key2 _ _ h
  ·exact (key2 _ _ h).symm
theorem ev_back : ∀ {l : List Nat} {h0 : Nat}, Ch par h0 l → h0 ≠ 0 → ev (ev par 0 l) 0 l.reverse = par := by
 intro l h0 hl hz
 have hn := hl.nodup
 funext i
 by_cases hi : i ∈ l
 ·obtain ⟨p, q, e⟩ := List.append_of_mem hi
  subst e
  have e1 : (p ++ i :: q).reverse = q.reverse ++ i :: p.reverse := by simp
  rw [e1]
  have hn' : (q.reverse ++ i :: p.reverse).Nodup := by rw [← e1]; exact (List.reverse_perm _).nodup_iff.2 hn
  have ht := hl.tail
  cases ht with
  | root h =>
   simp only [List.reverse_nil, List.nil_append]
   rw [ev_head, h]
  | step h k =>
   obtain ⟨r, hr⟩ := k.head
   subst hr
   have e2 : (par i :: r).reverse ++ i :: p.reverse = r.reverse ++ par i :: i :: p.reverse := by simp
   rw [e2] at hn' ⊢
   rw [ev_next hn']
 ·rw [ev_not_mem (by simpa using hi), ev_not_mem hi]
theorem ev_root {l : List Nat} {h0 r0 : Nat} (hl : Ch par h0 l) (hz : h0 ≠ 0) (hr : l.getLast? = some r0) {x r : Nat} (hx : RootOf par x r) : RootOf (ev par 0 l) x (if r = r0 then h0 else r) := by
 have hn := hl.nodup
 have hnz := hl.nz hz
 have onl : ∀ y ∈ l, RootOf (ev par 0 l) y h0 := fun y hy => by
  obtain ⟨p, q, e⟩ := List.append_of_mem hy
  have he := hl.head
  subst e
  have := ev_chain (par := par) (r := q) (x := y) (p := p.reverse) (by rw [List.reverse_reverse]; exact hn) (fun h => hnz (List.mem_append_left _ (List.mem_reverse.1 h)))
  rw [List.reverse_reverse] at this
  refine ⟨_, this, ?_⟩
  obtain ⟨s, hs⟩ := he
  cases p with
  | nil => simp at hs ⊢; exact hs.1
  | cons z p =>
   simp at hs ⊢
   rw [hs.1, ← List.cons_append, List.getLast?_append]
   simp
 have rl : ∀ y ∈ l, RootOf par y r0 := fun y hy => by
  obtain ⟨p, q, e⟩ := List.append_of_mem hy
  subst e
  exact ⟨_, hl.tail, by simpa using hr⟩
 obtain ⟨m, hm, hl'⟩ := hx
 induction hm with
 | @root h h1 =>
  simp at hl'
  subst hl'
  by_cases hh : h ∈ l
  ·have := (rl h hh).uniq (RootOf.self h1)
   rw [if_pos this.symm]
   exact onl h hh
  ·rw [if_neg]
   ·exact RootOf.self (by rw [ev_not_mem hh]; exact h1)
   ·rintro rfl
    exact hh (List.mem_of_getLast? hr)
 | @step h m h1 k ih =>
  have hr1 : RootOf par h r := ⟨_, .step h1 k, hl'⟩
  by_cases hh : h ∈ l
  ·have := (rl h hh).uniq hr1
   rw [if_pos this.symm]
   exact onl h hh
  ·obtain ⟨q, rfl⟩ := k.head
   have := ih (by simpa using hl')
   have e := ev_not_mem (par := par) (prev := 0) hh
   rw [RootOf.up (by rw [e]; exact h1), e]
   exact this
def setP (par : Par) (a p : Nat) : Par := fun i => if i = a then p else par i
theorem setP_same (par : Par) (a p : Nat) : setP par a p a = p := if_pos rfl
theorem setP_ne (par : Par) {a p i : Nat} (h : i ≠ a) : setP par a p i = par i := if_neg h
theorem cut_chain {a : Nat} {x : Nat} {m : List Nat} (hm : Ch par x m) : ∃ m', Ch (setP par a 0) x m' ∧ m' <+: m ∧ (a ∉ m → m' = m) ∧ (a ∈ m → m'.getLast? = some a) := by
 induction hm with
 | @root h h1 =>
  refine ⟨[h], .root ?_, List.prefix_refl _, fun _ => rfl, fun ha => by simp at ha; simp [ha]⟩
  unfold setP; split; rfl; exact h1
 | @step h m h1 k ih =>
  by_cases e : h = a
  ·subst e
   refine ⟨[h], .root (setP_same _ _ _), ⟨m, rfl⟩, fun hn => absurd (.head _) hn, fun _ => rfl⟩
  ·obtain ⟨m', i1, i2, i3, i4⟩ := ih
   have e1 := setP_ne par (p := 0) e
   obtain ⟨q, hq⟩ := i1.head
   refine ⟨h :: m', .step (by rw [e1]; exact h1) (by rw [e1]; exact i1), (List.cons_prefix_cons).2 ⟨rfl, i2⟩, fun hn => ?_, fun hm => ?_⟩
   ·rw [i3 fun hm => hn (.tail _ hm)]
   ·have := i4 ((List.mem_cons.1 hm).resolve_left (Ne.symm e))
    subst hq
    simpa using this
theorem hang_chain {a p : Nat} {lp : List Nat} (hp : p ≠ 0) (hlp : Ch par p lp) (hap : a ∉ lp) {x : Nat} {m : List Nat} (hm : Ch par x m) (ha : par a = 0) :
  ∃ m', Ch (setP par a p) x m' ∧ (a ∉ m → m' = m) ∧ (a ∈ m → m' = m ++ lp) := by
 have hlp' : Ch (setP par a p) p lp := hlp.congr fun y hy => setP_ne par fun e => hap (e ▸ hy)
 induction hm with
 | @root h h1 =>
  by_cases e : h = a
  ·subst e
   exact ⟨h :: lp, .step (by rw [setP_same]; exact hp) (by rw [setP_same]; exact hlp'), fun hn => absurd (.head _) hn, fun _ => rfl⟩
  ·exact ⟨[h], .root (by rw [setP_ne _ e]; exact h1), fun _ => rfl, fun h => by simp at h; exact absurd h.symm e⟩
 | @step h m h1 k ih =>
  have e : h ≠ a := fun e => h1 (e ▸ ha)
  obtain ⟨m', i1, i2, i3⟩ := ih
  have e1 := setP_ne par (p := p) e
  refine ⟨h :: m', .step (by rw [e1]; exact h1) (by rw [e1]; exact i1), fun hn => ?_, fun hm => ?_⟩
  ·rw [i2 fun hm => hn (.tail _ hm)]
  ·rw [i3 ((List.mem_cons.1 hm).resolve_left (Ne.symm e))]; rfl
end Go.Li
namespace Go.Li
open Go Go.Hp
set_option linter.unusedVariables false
set_option linter.unusedSimpArgs false

def Lk (par : Par) : List Nat → Prop
 | x :: y :: r => par y = x ∧ x ≠ 0 ∧ Lk par (y :: r)
 | _ => True
theorem Lk.tail {par : Par} {x : Nat} {r : List Nat} (h : Lk par (x :: r)) : Lk par r := by
 cases r with
 | nil => trivial
 | cons y r => exact h.2.2
theorem Lk.right {par : Par} : ∀ {p q : List Nat}, Lk par (p ++ q) → Lk par q
 | [], _, h => h
 | x :: p, q, h => Lk.right (p := p) h.tail
theorem Lk.left {par : Par} : ∀ {p q : List Nat}, Lk par (p ++ q) → Lk par p
 | [], _, _ => trivial
 | [x], _, _ => trivial
 | x :: y :: p, q, h => ⟨h.1, h.2.1, Lk.left (p := y :: p) h.2.2⟩
theorem Lk.mid {par : Par} : ∀ {p q : List Nat} {x y : Nat}, Lk par (p ++ x :: y :: q) → par y = x
 | [], _, _, _, h => h.1
 | _ :: p, q, x, y, h => Lk.mid (p := p) (q := q) h.tail
theorem Lk.join {par : Par} : ∀ {p q : List Nat} {x y : Nat}, Lk par (p ++ [x]) → Lk par (y :: q) → par y = x → x ≠ 0 → Lk par (p ++ x :: y :: q)
 | [], _, _, _, _, h, e, h0 => ⟨e, h0, h⟩
 | [z], _, _, _, k, h, e, h0 => ⟨k.1, k.2.1, e, h0, h⟩
 | z :: w :: p, q, x, y, k, h, e, h0 => ⟨k.1, k.2.1, Lk.join (p := w :: p) (q := q) k.2.2 h e h0⟩
theorem Lk.congr {par par' : Par} : ∀ {l : List Nat}, Lk par l → (∀ x ∈ l, par' x = par x) → Lk par' l
 | [], _, _ => trivial
 | [x], _, _ => trivial
 | x :: y :: r, h, hp => ⟨by rw [hp y (by simp)]; exact h.1, h.2.1, h.2.2.congr fun z hz => hp z (.tail _ hz)⟩
theorem Lk.chain {par : Par} : ∀ {r : List Nat} {x : Nat} {l : List Nat}, Lk par (x :: r) → Ch par x l → ∀ y ∈ x :: r, ∃ m, Ch par y m ∧ l.length ≤ m.length
 | [], x, l, _, hl, y, hy => by
  obtain rfl : y = x := by simpa using hy
  exact ⟨l, hl, Nat.le_refl _⟩
 | z :: r, x, l, h, hl, y, hy => by
  rcases List.mem_cons.1 hy with rfl | hy
  ·exact ⟨l, hl, Nat.le_refl _⟩
  ·have h1 : Ch par z (z :: l) := .step (by rw [h.1]; exact h.2.1) (by rw [h.1]; exact hl)
   obtain ⟨m, h2, h3⟩ := Lk.chain h.2.2 h1 y hy
   exact ⟨m, h2, by simp at h3; omega⟩
theorem Lk.ch {par : Par} : ∀ {l : List Nat} {h : Nat}, Lk par (l.reverse ++ [h]) → par ((l.reverse ++ [h]).headD 0) = 0 → Ch par h (h :: l)
 | [], h, _, h0 => .root h0
 | x :: l, h, hk, h0 => by
  have e : (x :: l).reverse ++ [h] = l.reverse ++ x :: h :: [] := by simp
  rw [e] at hk h0
  have h1 := hk.mid
  have hx : x ≠ 0 := by
   have := hk.right
   exact this.2.1
  refine .step (by rw [h1]; exact hx) ?_
  rw [h1]
  have e2 : l.reverse ++ x :: h :: [] = (l.reverse ++ [x]) ++ [h] := by simp
  rw [e2] at hk h0
  refine Lk.ch hk.left ?_
  cases hl : l.reverse with
  | nil => rw [hl] at h0; exact h0
  | cons a b => rw [hl] at h0; exact h0
theorem TrAt.kids {N : Nodes} {E : Es} : ∀ {t : Tr} {rev : Bool} {up x : Nat}, TrAt N E rev up t → x ∈ t.list → ∀ s, (N x).kid s = 0 ∨ (N x).kid s ∈ t.list
 | .nil, _, _, _, _, hx, _ => by simp [Tr.list] at hx
 | .node l h r, rev, up, x, ⟨a, b, c, d, e, f, g⟩, hx, s => by
  simp only [Tr.list, List.mem_append, List.mem_cons] at hx ⊢
  have rm : ∀ t : Tr, t.root = 0 ∨ t.root ∈ t.list := fun t => by
   by_cases h0 : t.root = 0
   ·exact .inl h0
   ·exact .inr (Tr.root_mem h0)
  rcases hx with hx | rfl | hx
  ·exact (f.kids hx s).imp id .inl
  ·by_cases hs : s = rev
   ·subst hs
    rw [c]
    exact (rm l).imp id .inl
   ·have : s = !rev := by cases s <;> cases rev <;> simp_all
    rw [this, d]
    exact (rm r).imp id fun h => .inr (.inr h)
  ·exact (g.kids hx s).imp id fun h => .inr (.inr h)
theorem Tr.nil_of {t : Tr} (h : t.list = []) : t = .nil := by
 cases t with
 | nil => rfl
 | node l x r => simp [Tr.list] at h
def opt (l : List Nat) : List (List Nat) := if l = [] then [] else [l]
theorem opt_flat (l : List Nat) : (opt l).flatten = l := by
 unfold opt; split
 ·rename_i h; rw [h]; rfl
 ·simp
theorem mem_opt {l xs : List Nat} : xs ∈ opt l ↔ xs = l ∧ l ≠ [] := by
 unfold opt; split
 ·rename_i h; simp [h]
 ·rename_i h; simp [h]
structure LC (N : Nodes) (E : Es) (par : Par) (rows : List (List Nat)) (V : Nat → Prop) : Prop where
 eok : EOk N E
 z : (N 0).best = 0
 v0 : ¬ V 0
 trees : ∀ xs ∈ rows, ∃ T, TrAt N E false (par (xs.headD 0)) T ∧ T.list = xs
 link : ∀ xs ∈ rows, Lk par xs
 ne : ∀ xs ∈ rows, xs ≠ []
 nd : rows.flatten.Nodup
 use : ∀ h, h ∈ rows.flatten ↔ V h
 cl : ∀ h, V h → par h = 0 ∨ V (par h)
 ac : ∀ h, V h → ∃ l, Ch par h l
section
variable {N N' : Nodes} {E : Es} {par : Par} {rows rows' R : List (List Nat)} {V : Nat → Prop} {xs : List Nat}
theorem flat_perm {r r' : List (List Nat)} (h : r.Perm r') : r.flatten.Perm r'.flatten := h.flatten
theorem LC.perm (h : LC N E par rows V) (hp : rows.Perm rows') : LC N E par rows' V :=
 ⟨h.eok, h.z, h.v0, fun xs hx => h.trees xs (hp.mem_iff.2 hx), fun xs hx => h.link xs (hp.mem_iff.2 hx), fun xs hx => h.ne xs (hp.mem_iff.2 hx), (flat_perm hp).nodup_iff.1 h.nd, fun k => by rw [← (flat_perm hp).mem_iff]; exact h.use k, h.cl, h.ac⟩
theorem LC.find (h : LC N E par rows V) {k : Nat} (hk : V k) : ∃ xs R, rows.Perm (xs :: R) ∧ k ∈ xs := by
 obtain ⟨xs, hx, hkx⟩ := List.mem_flatten.1 ((h.use k).2 hk)
 obtain ⟨p, q, e⟩ := List.append_of_mem hx
 exact ⟨xs, p ++ q, by rw [e]; exact List.perm_middle, hkx⟩
theorem LC.apart (h : LC N E par (xs :: R) V) {i : Nat} (hi : i ∈ xs) : i ∉ R.flatten := fun hR => by
 have := h.nd
 rw [List.flatten_cons, List.nodup_append] at this
 exact this.2.2 i hi i hR rfl
theorem LC.live (h : LC N E par (xs :: R) V) {i : Nat} (hi : i ∈ xs) : V i := (h.use i).1 (by rw [List.flatten_cons]; exact List.mem_append_left _ hi)
theorem LC.head_ch (h : LC N E par (xs :: R) V) : ∃ a r l, xs = a :: r ∧ Ch par a l := by
 cases hx : xs with
 | nil => exact absurd hx (h.ne xs (.head _))
 | cons a r =>
  obtain ⟨l, hl⟩ := h.ac a (h.live (by rw [hx]; exact .head _))
  exact ⟨a, r, l, rfl, hl⟩
theorem LC.row (h : LC N E par (xs :: R) V) : Row N E (par (xs.headD 0)) xs := by
 have hnd : xs.Nodup := by
  have := h.nd
  rw [List.flatten_cons, List.nodup_append] at this
  exact this.1
 obtain ⟨a, r, l, rfl, hl⟩ := h.head_ch
 have hup : par a ∉ a :: r := fun hm => by
  obtain ⟨m, hm1, hm2⟩ := (h.link _ (.head _)).chain hl _ hm
  cases hl with
  | root h0 => rw [h0] at hm; exact h.v0 (h.live hm)
  | step h0 k =>
   have := hm1.uniq k
   subst this
   simp at hm2
   omega
 refine ⟨hnd, h.z, hup, ?_⟩
 show par a = 0 ∨ _
 rcases h.cl a (h.live (.head _)) with h0 | hV
 ·exact .inl h0
 ·refine .inr fun i hi => ?_
  obtain ⟨ys, hy, hpy⟩ := List.mem_flatten.1 ((h.use _).2 hV)
  have hyR : ys ∈ R := by
   rcases List.mem_cons.1 hy with rfl | hy
   ·exact absurd hpy hup
   ·exact hy
  obtain ⟨T, hT, eT⟩ := h.trees ys hy
  have kk := fun s => hT.kids (x := par a) (by rw [eT]; exact hpy) s
  have hi0 : i ≠ 0 := fun e => h.v0 (e ▸ h.live hi)
  have no : ∀ s, (N (par a)).kid s ≠ i := fun s e => by
   rcases kk s with h1 | h1
   ·rw [e] at h1; exact hi0 h1
   ·rw [e, eT] at h1
    exact h.apart hi (List.mem_flatten.2 ⟨ys, hyR, h1⟩)
  unfold hasK
  have n1 := no false
  have n2 := no true
  have n1' : (N (par a)).l ≠ i := n1
  have n2' : (N (par a)).r ≠ i := n2
  simp [n1', n2']
theorem LC.off (h : LC N E par (xs :: R) V) {T : Tr} (hT : TrAt N' E false (par (xs.headD 0)) T) (hl : T.list = xs) (ho : ∀ i, i ∉ xs → N' i = N i) (hE : EOk N' E) : LC N' E par (xs :: R) V where
 eok := hE
 z := by rw [ho 0 fun h0 => h.v0 (h.live h0)]; exact h.z
 v0 := h.v0
 trees := fun ys hy => by
  rcases List.mem_cons.1 hy with rfl | hy
  ·exact ⟨T, hT, hl⟩
  ·obtain ⟨T2, h2, e2⟩ := h.trees ys (.tail _ hy)
   refine ⟨T2, h2.congr fun i hi => ho i fun hx => h.apart hx (List.mem_flatten.2 ⟨ys, hy, by rw [← e2]; exact hi⟩), e2⟩
 link := h.link
 ne := h.ne
 nd := h.nd
 use := h.use
 cl := h.cl
 ac := h.ac
theorem LC.cut {a b T : Tr} {x : Nat} {R' : List (List Nat)} (h : LC N E par (xs :: (opt T.list ++ R')) V) (hT : TrAt N E false (par (xs.headD 0)) (.node a x b)) (hl : a.list ++ x :: b.list = xs) (ht : (N x).turned = false)
  (hT2 : TrAt N E false x T) (hp : T ≠ .nil → par (T.list.headD 0) = x) :
  LC (pullN (upd N x { N x with r := T.root }) x) E par ((a.list ++ x :: T.list) :: (opt b.list ++ R')) V ∧ TrAt (pullN (upd N x { N x with r := T.root }) x) E false (par (xs.headD 0)) (.node a x T) ∧
   (∀ i, i ≠ x → pullN (upd N x { N x with r := T.root }) x i = N i) := by
 subst hl
 have hr := h.row
 obtain ⟨x0, xu, xl, xr, xb, ha, hb⟩ := hT
 rw [ht] at ha hb
 have hxl : (N x).l = a.root := xl
 have hapx := fun i hi => h.apart (i := i) hi
 have hnd := hr.nd
 rw [List.nodup_append, List.nodup_cons] at hnd
 obtain ⟨na, ⟨xb', nb⟩, nab⟩ := hnd
 have hTx : ∀ i ∈ T.list, i ∉ a.list ++ x :: b.list := fun i hi hx => hapx i hx (by rw [List.flatten_append, opt_flat]; exact List.mem_append_left _ hi)
 have hxT : x ∉ T.list := fun hm => hTx x hm (by simp)
 have hxa : x ∉ a.list := fun hm => nab x hm x (.head _) rfl
 have nT : T.list.Nodup := by
  have := h.nd
  rw [List.flatten_cons, List.flatten_append, opt_flat, List.nodup_append] at this
  have := this.2.1
  rw [List.nodup_append] at this
  exact this.1
 obtain ⟨M, hM⟩ : ∃ M, upd N x { N x with r := T.root } = M := ⟨_, rfl⟩
 have Mx : M x = { N x with r := T.root } := by rw [← hM, upd_same]
 have Mn : ∀ i, i ≠ x → M i = N i := fun i hi => by rw [← hM, upd_ne _ _ hi]
 have hE : EOk M E := h.eok.congr fun i => by
  by_cases e : i = x
  ·subst e; rw [Mx]; exact ⟨rfl, rfl⟩
  ·rw [Mn i e]; exact ⟨rfl, rfl⟩
 have hzM : (M 0).best = 0 := by rw [Mn 0 (Ne.symm x0)]; exact h.z
 have haM : TrAt M E false x a := ha.congr fun i hi => Mn i fun e => hxa (e ▸ hi)
 have hTM : TrAt M E false x T := hT2.congr fun i hi => Mn i fun e => hxT (e ▸ hi)
 have nd2 : (a.list ++ x :: T.list).Nodup := by
  rw [List.nodup_append, List.nodup_cons]
  refine ⟨na, ⟨hxT, nT⟩, fun i hi j hj => ?_⟩
  rcases List.mem_cons.1 hj with rfl | hj
  ·exact nab i hi j (.head _)
  ·rintro rfl; exact hTx i hj (List.mem_append_left _ hi)
 have z2 : 0 ∉ a.list ++ x :: T.list := by
  simp only [List.mem_append, List.mem_cons, not_or]
  exact ⟨ha.ne_zero, Ne.symm x0, hT2.ne_zero⟩
 obtain ⟨B, p1, b1⟩ := pull_best (N := M) (h := x) (xs := a.list) (ys := T.list) hE (by rw [Mx]; show Best E (M (N x).l).best _; rw [hxl]; exact haM.best hzM) (by rw [Mx]; exact hTM.best hzM) nd2 z2
 rw [hM, p1]
 have Px : upd M x { M x with best := B } x = { N x with r := T.root, best := B } := by rw [upd_same, Mx]
 have Pn : ∀ i, i ≠ x → upd M x { M x with best := B } i = N i := fun i hi => by rw [upd_ne _ _ hi, Mn i hi]
 have hT' : TrAt (upd M x { M x with best := B }) E false (par ((a.list ++ x :: b.list).headD 0)) (.node a x T) := by
  refine ⟨x0, by rw [Px]; exact xu, by rw [Px]; exact xl, by rw [Px]; rfl, by rw [Px]; exact b1, ?_, ?_⟩
  ·rw [Px]
   show TrAt _ E (false != (N x).turned) x a
   rw [ht]
   exact ha.congr fun i hi => Pn i fun e => hxa (e ▸ hi)
  ·rw [Px]
   show TrAt _ E (false != (N x).turned) x T
   rw [ht]
   exact hT2.congr fun i hi => Pn i fun e => hxT (e ▸ hi)
 have ehead : (a.list ++ x :: T.list).headD 0 = (a.list ++ x :: b.list).headD 0 := by cases a.list <;> rfl
 have hlk := h.link _ (.head _)
 refine ⟨⟨?_, ?_, h.v0, ?_, ?_, ?_, ?_, ?_, h.cl, h.ac⟩, hT', Pn⟩
 ·exact hE.congr fun i => (upd_other (N := M) (h := x) (r := { M x with best := B }) rfl rfl rfl i).2
 ·rw [Pn 0 (Ne.symm x0)]; exact h.z
 ·intro ys hy
  rcases List.mem_cons.1 hy with rfl | hy
  ·exact ⟨_, by rw [ehead]; exact hT', rfl⟩
  ·rcases List.mem_append.1 hy with hy | hy
   ·obtain ⟨rfl, hne⟩ := mem_opt.1 hy
    refine ⟨b, ?_, rfl⟩
    have hph : par (b.list.headD 0) = x := by
     cases hb' : b.list with
     | nil => exact absurd hb' hne
     | cons y q => rw [hb'] at hlk; exact hlk.mid
    rw [hph]
    exact hb.congr fun i hi => Pn i fun e => xb' (e ▸ hi)
   ·obtain ⟨T2, h2, e2⟩ := h.trees ys (.tail _ (List.mem_append_right _ hy))
    refine ⟨T2, h2.congr fun i hi => Pn i fun e => ?_, e2⟩
    have hxi : x ∈ ys := by rw [← e2, ← e]; exact hi
    exact hapx x (by simp) (by rw [List.flatten_append]; exact List.mem_append_right _ (List.mem_flatten.2 ⟨ys, hy, hxi⟩))
 ·intro ys hy
  rcases List.mem_cons.1 hy with rfl | hy
  ·have e1 : a.list ++ x :: b.list = (a.list ++ [x]) ++ b.list := by simp
   rw [e1] at hlk
   have h1 := hlk.left
   cases hT3 : T.list with
   | nil => exact h1
   | cons y q =>
    have hne : T ≠ .nil := fun e => by rw [e] at hT3; simp [Tr.list] at hT3
    have h2 := h.link T.list (.tail _ (List.mem_append_left _ (mem_opt.2 ⟨rfl, by rw [hT3]; simp⟩)))
    have h3 := hp hne
    rw [hT3] at h2 h3
    exact Lk.join h1 h2 h3 x0
  ·rcases List.mem_append.1 hy with hy | hy
   ·obtain ⟨rfl, hne⟩ := mem_opt.1 hy
    exact (hlk.right).tail
   ·exact h.link ys (.tail _ (List.mem_append_right _ hy))
 ·intro ys hy
  rcases List.mem_cons.1 hy with rfl | hy
  ·simp
  ·rcases List.mem_append.1 hy with hy | hy
   ·obtain ⟨rfl, hne⟩ := mem_opt.1 hy
    exact hne
   ·exact h.ne ys (.tail _ (List.mem_append_right _ hy))
 ·refine (List.Perm.nodup_iff ?_).1 h.nd
  simp only [List.flatten_cons, List.flatten_append, opt_flat, List.append_assoc, List.cons_append]
  refine List.Perm.append_left _ (List.Perm.cons _ ?_)
  rw [← List.append_assoc, ← List.append_assoc]
  exact List.perm_append_comm.append_right _
 ·intro k
  rw [← h.use k]
  simp only [List.flatten_cons, List.flatten_append, opt_flat, List.mem_append, List.mem_cons]
  constructor
  ·rintro ((h | h | h) | h | h) <;> simp [h]
  ·rintro ((h | h | h) | h | h) <;> simp [h]
end
end Go.Li
namespace Go.Li
open Go Go.Hp
set_option linter.unusedVariables false
set_option linter.unusedSimpArgs false

structure Acc (N : Nodes) (E : Es) (par : Par) (rows : List (List Nat)) (V : Nat → Prop) (h : Nat) (a : Tr) (R : List (List Nat)) : Prop where
 lc : LC N E par ((a.list ++ [h]) :: R) V
 perm : rows.Perm ((a.list ++ [h]) :: R)
 tree : TrAt N E false 0 (.node a h .nil)
 flag : (N h).turned = false
 top : par ((a.list ++ [h]).headD 0) = 0
section
variable {N N' : Nodes} {E : Es} {par : Par} {rows R : List (List Nat)} {V : Nat → Prop} {h : Nat} {a : Tr}
theorem Acc.ch (k : Acc N E par rows V h a R) : Ch par h (h :: a.list.reverse) := by
 have h1 := k.lc.link _ (.head _)
 have h2 := k.top
 have e : a.list = a.list.reverse.reverse := by simp
 rw [e] at h1 h2
 exact h1.ch h2
theorem ev_lk : ∀ {l p : List Nat} {prev : Nat}, (p ++ l).Nodup → 0 ∉ l → Lk (ev par prev (p ++ l)) l
 | [], _, _, _, _ => trivial
 | [x], _, _, _, _ => trivial
 | x :: y :: r, p, prev, hd, h0 => by
  simp only [List.mem_cons, not_or] at h0
  refine ⟨ev_next hd, Ne.symm h0.1, ?_⟩
  have := ev_lk (l := y :: r) (p := p ++ [x]) (prev := prev) (by simpa using hd) (by simp only [List.mem_cons, not_or]; exact h0.2)
  simpa using this
theorem ev_mem : ∀ {l : List Nat} {prev i : Nat}, ev par prev l i = prev ∨ ev par prev l i ∈ l ∨ (i ∉ l ∧ ev par prev l i = par i)
 | [], _, _ => .inr (.inr ⟨by simp, rfl⟩)
 | x :: r, prev, i => by
  unfold ev
  by_cases e : i = x
  ·rw [if_pos e]; exact .inl rfl
  ·rw [if_neg e]
   rcases ev_mem (l := r) (prev := x) (i := i) with h | h | ⟨h1, h2⟩
   ·exact .inr (.inl (by rw [h]; exact .head _))
   ·exact .inr (.inl (.tail _ h))
   ·exact .inr (.inr ⟨by simp only [List.mem_cons, not_or]; exact ⟨e, h1⟩, h2⟩)
theorem Acc.evert (k : Acc N E par rows V h a R) : LC (pushN (upd N h (N h).flip) h) E (ev par 0 (h :: a.list.reverse)) ((h :: a.list.reverse) :: R) V := by
 have hr := k.lc.row
 have hch := k.ch
 have h0 : h ≠ 0 := k.tree.1
 have hnz := hch.nz h0
 have hnd := hch.nodup
 have hnT : (Tr.node a h .nil).list.Nodup := hr.nd
 have h1 : TrAt (upd N h (N h).flip) E true 0 (.node a h .nil) := k.tree.flip hnT (fun _ => upd_same _ _ _) (fun i _ hi => upd_ne _ _ hi)
 have h2 : TrAt (upd N h (N h).flip) E false 0 (.node .nil h a.mir) := h1.mir
 have el : (Tr.node .nil h a.mir).list = h :: a.list.reverse := by simp [Tr.list, Tr.mir_list]
 obtain ⟨p1, p2, p3⟩ := push_tr h2 (by rw [el]; exact hnd)
 rw [el] at p3
 have off : ∀ i, i ∉ h :: a.list.reverse → pushN (upd N h (N h).flip) h i = N i := fun i hi => by
  rw [p3 i hi]
  exact upd_ne _ _ fun e => hi (e ▸ .head _)
 have hap : ∀ i, i ∈ R.flatten → i ∉ h :: a.list.reverse := fun i hR hi => k.lc.apart (i := i) (by simp at hi ⊢; rcases hi with h | h <;> simp [h]) hR
 have live : ∀ i ∈ h :: a.list.reverse, V i := fun i hi => k.lc.live (by simp at hi ⊢; rcases hi with h | h <;> simp [h])
 refine ⟨?_, ?_, k.lc.v0, ?_, ?_, ?_, ?_, ?_, ?_, ?_⟩
 ·refine k.lc.eok.congr fun i => ?_
  obtain ⟨a1, a2, a3, a4⟩ := pushN_up (N := upd N h (N h).flip) (h := h) i
  obtain ⟨b1, b2⟩ : (upd N h (N h).flip i).isEdge = (N i).isEdge ∧ (upd N h (N h).flip i).e = (N i).e := by
   by_cases e : i = h
   ·subst e; rw [upd_same]; exact ⟨rfl, rfl⟩
   ·rw [upd_ne _ _ e]; exact ⟨rfl, rfl⟩
  exact ⟨a2.trans b1, a3.trans b2⟩
 ·rw [off 0 hnz]; exact k.lc.z
 ·intro ys hy
  rcases List.mem_cons.1 hy with rfl | hy
  ·refine ⟨_, ?_, el⟩
   show TrAt _ E false (ev par 0 (h :: a.list.reverse) h) _
   rw [ev_head]
   exact p1
  ·obtain ⟨T, hT, eT⟩ := k.lc.trees ys (.tail _ hy)
   have hne := k.lc.ne ys (.tail _ hy)
   have hh : ys.headD 0 ∈ R.flatten := by
    cases ys with
    | nil => exact absurd rfl hne
    | cons y r => exact List.mem_flatten.2 ⟨_, hy, .head _⟩
   refine ⟨T, ?_, eT⟩
   rw [ev_not_mem (hap _ hh)]
   exact hT.congr fun i hi => off i (hap i (List.mem_flatten.2 ⟨ys, hy, by rw [← eT]; exact hi⟩))
 ·intro ys hy
  rcases List.mem_cons.1 hy with rfl | hy
  ·exact ev_lk (p := []) hnd hnz
  ·exact (k.lc.link ys (.tail _ hy)).congr fun i hi => ev_not_mem (hap i (List.mem_flatten.2 ⟨ys, hy, hi⟩))
 ·intro ys hy
  rcases List.mem_cons.1 hy with rfl | hy
  ·simp
  ·exact k.lc.ne ys (.tail _ hy)
 ·refine (List.Perm.nodup_iff ?_).1 k.lc.nd
  rw [List.flatten_cons, List.flatten_cons]
  refine List.Perm.append_right _ ?_
  have : (h :: a.list.reverse) = (a.list ++ [h]).reverse := by simp
  rw [this]
  exact (List.reverse_perm _).symm
 ·intro i
  rw [← k.lc.use i]
  simp only [List.flatten_cons, List.mem_append, List.mem_cons, List.mem_reverse, List.not_mem_nil, or_false]
  constructor
  ·rintro ((h | h) | h) <;> simp [h]
  ·rintro ((h | h) | h) <;> simp [h]
 ·intro i hi
  rcases ev_mem (par := par) (l := h :: a.list.reverse) (prev := 0) (i := i) with e | e | ⟨_, e⟩
  ·exact .inl e
  ·exact .inr (live _ e)
  ·rw [e]; exact k.lc.cl i hi
 ·intro i hi
  obtain ⟨m, hm⟩ := k.lc.ac i hi
  exact ev_acyc hch h0 hm
theorem Acc.evert_tree (k : Acc N E par rows V h a R) : TrAt (pushN (upd N h (N h).flip) h) E false 0 (.node .nil h a.mir) ∧ (Tr.node .nil h a.mir).list = h :: a.list.reverse := by
 have hr := k.lc.row
 have hnT : (Tr.node a h .nil).list.Nodup := hr.nd
 have h1 : TrAt (upd N h (N h).flip) E true 0 (.node a h .nil) := k.tree.flip hnT (fun _ => upd_same _ _ _) (fun i _ hi => upd_ne _ _ hi)
 have h2 : TrAt (upd N h (N h).flip) E false 0 (.node .nil h a.mir) := h1.mir
 have el : (Tr.node .nil h a.mir).list = h :: a.list.reverse := by simp [Tr.list, Tr.mir_list]
 obtain ⟨p1, p2, p3⟩ := push_tr h2 (by rw [el]; exact k.ch.nodup)
 exact ⟨p1, el⟩
theorem Acc.part (k : Acc N E par rows V h a R) (ha : a.root ≠ 0) :
  LC (pullN (upd (upd N a.root { N a.root with up := 0 }) h { upd N a.root { N a.root with up := 0 } h with l := 0 }) h) E (setP par h 0) (a.list :: [h] :: R) V := by
 have hr := k.lc.row
 have hnd := hr.nd
 have h0 : h ≠ 0 := k.tree.1
 have hha : h ∉ a.list := by
  rw [List.nodup_append] at hnd
  exact fun hm => hnd.2.2 h hm h (.head _) rfl
 have nda : a.list.Nodup := by
  rw [List.nodup_append] at hnd
  exact hnd.1
 obtain ⟨_, ku, kl, kr, kb, kta, _⟩ := k.tree
 rw [k.flag] at kta
 have hra : a.root ∈ a.list := Tr.root_mem ha
 have hne : a.root ≠ h := fun e => hha (e ▸ hra)
 obtain ⟨M1, hM1⟩ : ∃ M1, upd N a.root { N a.root with up := 0 } = M1 := ⟨_, rfl⟩
 obtain ⟨M2, hM2⟩ : ∃ M2, upd M1 h { M1 h with l := 0 } = M2 := ⟨_, rfl⟩
 rw [hM1, hM2]
 have M1h : M1 h = N h := by rw [← hM1, upd_ne _ _ (Ne.symm hne)]
 have M2h : M2 h = { N h with l := 0 } := by rw [← hM2, upd_same, M1h]
 have M2r : M2 a.root = { N a.root with up := 0 } := by rw [← hM2, upd_ne _ _ hne, ← hM1, upd_same]
 have M2n : ∀ i, i ≠ h → i ≠ a.root → M2 i = N i := fun i h1 h2 => by rw [← hM2, upd_ne _ _ h1, ← hM1, upd_ne _ _ h2]
 have hE : EOk M2 E := k.lc.eok.congr fun i => by
  by_cases e : i = h
  ·subst e; rw [M2h]; exact ⟨rfl, rfl⟩
  ·by_cases e2 : i = a.root
   ·subst e2; rw [M2r]; exact ⟨rfl, rfl⟩
   ·rw [M2n i e e2]; exact ⟨rfl, rfl⟩
 have hzM : (M2 0).best = 0 := by rw [M2n 0 (Ne.symm h0) (Ne.symm ha)]; exact k.lc.z
 have kr' : (N h).r = 0 := kr
 obtain ⟨B, p1, b1⟩ := pull_best (N := M2) (h := h) (xs := []) (ys := []) hE (by rw [M2h]; show Best E (M2 0).best []; rw [hzM]; exact Best.nil E) (by rw [M2h]; show Best E (M2 (N h).r).best []; rw [kr', hzM]; exact Best.nil E) (by simp) (by simp; exact Ne.symm h0)
 rw [p1]
 have Ph : upd M2 h { M2 h with best := B } h = { N h with l := 0, best := B } := by rw [upd_same, M2h]
 have Pn : ∀ i, i ≠ h → upd M2 h { M2 h with best := B } i = M2 i := fun i hi => upd_ne _ _ hi
 have haM : TrAt M2 E false 0 a := kta.hung nda (fun _ => M2r) (fun i hi h2 => M2n i (fun e => hha (e ▸ hi)) h2)
 have hap : ∀ i, i ∈ R.flatten → i ≠ h ∧ i ≠ a.root := fun i hR => ⟨fun e => k.lc.apart (i := i) (by simp [e]) hR, fun e => k.lc.apart (i := i) (by rw [e]; exact List.mem_append_left _ hra) hR⟩
 have hda : par (a.list.headD 0) = 0 ∧ a.list.headD 0 ≠ h ∧ a.list ≠ [] := by
  have := k.top
  cases hl : a.list with
  | nil => rw [hl] at hra; cases hra
  | cons y r =>
   rw [hl] at this
   exact ⟨this, fun e => hha (by rw [hl, ← e]; exact .head _), by simp⟩
 have sp : ∀ i, i ≠ h → setP par h 0 i = par i := fun i hi => setP_ne _ hi
 refine ⟨?_, ?_, k.lc.v0, ?_, ?_, ?_, ?_, ?_, ?_, ?_⟩
 ·exact hE.congr fun i => (upd_other (N := M2) (h := h) (r := { M2 h with best := B }) rfl rfl rfl i).2
 ·rw [Pn 0 (Ne.symm h0)]; exact hzM
 ·intro ys hy
  rcases List.mem_cons.1 hy with rfl | hy
  ·refine ⟨a, ?_, rfl⟩
   rw [sp _ hda.2.1, hda.1]
   exact haM.congr fun i hi => Pn i fun e => hha (e ▸ hi)
  ·rcases List.mem_cons.1 hy with rfl | hy
   ·refine ⟨.node .nil h .nil, ?_, rfl⟩
    show TrAt _ E false (setP par h 0 h) _
    rw [setP_same]
    exact ⟨h0, by rw [Ph]; exact ku, by rw [Ph]; rfl, by rw [Ph]; exact kr, by rw [Ph]; exact b1, trivial, trivial⟩
   ·obtain ⟨T, hT, eT⟩ := k.lc.trees ys (.tail _ hy)
    have hne := k.lc.ne ys (.tail _ hy)
    have hh : ys.headD 0 ∈ R.flatten := by
     cases ys with
     | nil => exact absurd rfl hne
     | cons y r => exact List.mem_flatten.2 ⟨_, hy, .head _⟩
    refine ⟨T, ?_, eT⟩
    rw [sp _ (hap _ hh).1]
    refine hT.congr fun i hi => ?_
    have := hap i (List.mem_flatten.2 ⟨ys, hy, by rw [← eT]; exact hi⟩)
    rw [Pn i this.1, M2n i this.1 this.2]
 ·intro ys hy
  rcases List.mem_cons.1 hy with rfl | hy
  ·exact ((k.lc.link _ (.head _)).left).congr fun i hi => sp i fun e => hha (e ▸ hi)
  ·rcases List.mem_cons.1 hy with rfl | hy
   ·trivial
   ·exact (k.lc.link ys (.tail _ hy)).congr fun i hi => sp i (hap i (List.mem_flatten.2 ⟨ys, hy, hi⟩)).1
 ·intro ys hy
  rcases List.mem_cons.1 hy with rfl | hy
  ·exact hda.2.2
  ·rcases List.mem_cons.1 hy with rfl | hy
   ·simp
   ·exact k.lc.ne ys (.tail _ hy)
 ·have := k.lc.nd
  simpa using this
 ·intro i
  rw [← k.lc.use i]
  simp only [List.flatten_cons, List.mem_append, List.mem_cons, List.not_mem_nil, or_false, or_assoc]
 ·intro i hi
  by_cases e : i = h
  ·exact .inl (by rw [e, setP_same])
  ·rw [sp i e]; exact k.lc.cl i hi
 ·intro i hi
  obtain ⟨m, hm⟩ := k.lc.ac i hi
  obtain ⟨m', h1, _⟩ := cut_chain (a := h) hm
  exact ⟨m', h1⟩
theorem plug_left : ∀ (ps : List Fm) (t : Tr), (∀ f ∈ ps, f.side = false) → ∃ q, (plug t ps).list = t.list ++ q
 | [], t, _ => ⟨[], by simp [plug]⟩
 | f :: ps, t, h => by
  obtain ⟨q, e⟩ := plug_left ps (sn f.side t f.h f.sib) fun g hg => h g (.tail _ hg)
  refine ⟨f.h :: f.sib.list ++ q, ?_⟩
  show (plug (sn f.side t f.h f.sib) ps).list = _
  rw [e, sn_list, h f (.head _)]
  simp [sl]
theorem push_plug {up0 x : Nat} {a b : Tr} {ps : List Fm} (hT : TrAt N E false up0 (plug (.node a x b) ps)) (hf : ∀ f ∈ ps, (N f.h).turned = false) (hd : (plug (.node a x b) ps).list.Nodup) :
  TrAt (pushN N x) E false up0 (plug (.node a x b) ps) ∧ (pushN N x x).turned = false ∧ (∀ f ∈ ps, (pushN N x f.h).turned = false) ∧ (∀ i, i ∉ (plug (.node a x b) ps).list → pushN N x i = N i) := by
 have hp := plug_perm ps (.node a x b)
 have hd1 := hp.nodup_iff.1 hd
 rw [List.nodup_append] at hd1
 obtain ⟨hK, hP⟩ := (trAt_plug _ _).1 ⟨hT, hf⟩
 obtain ⟨p1, p2, p3⟩ := push_tr hK hd1.1
 have hc : ∀ i ∈ ctx ps, pushN N x i = N i := fun i hi => p3 i fun hm => hd1.2.2 i hm i hi rfl
 have hfc : ∀ f ∈ ps, f.h ∈ ctx ps := by
  intro f
  clear hT hf hd hp hd1 hK hP p1 p2 p3 hc
  induction ps with
  | nil => intro h; cases h
  | cons g ps ih =>
   intro h
   rcases List.mem_cons.1 h with rfl | h
   ·simp [ctx]
   ·simp [ctx, ih h]
 obtain ⟨h1, h2⟩ := (trAt_plug (N := pushN N x) (E := E) (up0 := up0) ps (.node a x b)).2 ⟨p1, hP.congr hc⟩
 refine ⟨h1, p2, h2, fun i hi => p3 i fun hm => hi (hp.mem_iff.2 (List.mem_append_left _ hm))⟩
theorem root_nil {t : Tr} {rev : Bool} {up : Nat} (hT : TrAt N E rev up t) (h0 : t.root = 0) : t = .nil := by
 cases t with
 | nil => rfl
 | node l k r => exact absurd h0 hT.1
end
end Go.Li
namespace Go.Proofs.Ytoplhfhjokjbiaa
open Go Go.Hp Go.Li
set_option linter.all false
set_option maxRecDepth 100000
set_option maxHeartbeats 1600000
section
variable {H H' : Heap} {t g c len : Nat} {N : Nodes} {E : Es} {par : Par} {rows R : List (List Nat)} {V : Nat → Prop} {xs : List Nat} {K : Value → Heap → Prop}
theorem len_bound {l : List Nat} {n : Nat} (hd : l.Nodup) (hl : ∀ x ∈ l, x < n) : l.length ≤ n := by
 have h := hd.length_le_of_subset (l₂ := List.range n) (fun x hx => List.mem_range.2 (hl x hx))
 rwa [List.length_range] at h
theorem splay_row {k : Nat} (hN : NA H t g c len N) (hL : LC N E par rows V) (hV : ∀ h, V h → h < len) (hp : rows.Perm (xs :: R)) (hk : k ∈ xs)
  (fin : ∀ H' N' a b, NA H' t g c len N' → LC N' E par (xs :: R) V → TrAt N' E false (par (xs.headD 0)) (.node a k b) → a.list ++ k :: b.list = xs → (N' k).turned = false → (∀ i, i ∉ xs → N' i = N i) → Fr (· = g) H H' → K (.tuple #[]) H') :
  CallsH Try.prog 45 #[.pointer (some ⟨t, 0, none⟩), .int .i64 (k : Nat)] H K := by
 have hL1 := hL.perm hp
 have hr := hL1.row
 obtain ⟨T, hT, eT⟩ := hL1.trees xs (.head _)
 obtain ⟨s1, s2, m, s3⟩ := splay_start hL1.eok hr hT eT hk
 have hlt : ∀ x ∈ xs, x < len := fun x hx => hV x (hL1.live hx)
 have hl := len_bound hr.nd hlt
 have hwl := wayT_len T k
 rw [eT] at hwl
 refine splay_ok (P := Below E N (par (xs.headD 0)) k xs) hN (hlt k hk) s1 (fun x hx => hlt x (s2 x hx)) (by have := hN.z.2; omega) s3 (below_step hr) ?_
 intro H' N' m' hN' hB ht hf
 obtain ⟨a, b, e1, e2, e3, e4, e5⟩ := splay_end hB ht
 exact fin H' N' a b hN' (hL1.off e1 e2 e4 e5) e1 e2 e3 e4 hf
theorem access_ok {h : Nat} (hN : NA H t g c len N) (hL : LC N E par rows V) (hV : ∀ h, V h → h < len) (hh : V h)
  (fin : ∀ H' N' a R, NA H' t g c len N' → Acc N' E par ((a.list ++ [h]) :: R) V h a R → Fr (· = g) H H' → K (.tuple #[]) H') :
  CallsH Try.prog 43 #[.pointer (some ⟨t, 0, none⟩), .int .i64 (h : Nat)] H K := by
 have h0 : h ≠ 0 := fun e => hL.v0 (e ▸ hh)
 obtain ⟨l0, hl0⟩ := hL.ac h hh
 refine call43 (by simp) ?_
 simp only [Try.f43, Option.getD_some]
 repeat' (first|(with_reducible first|refine jA ?_|(refine hK _ _ ?_;clear hK K)|refine jJ fun K hK=>?_|refine jK ?_|refine jL ?_|refine jM ?_|refine jN ?_|refine jO ?_|refine jP ?_|refine jQ ?_|(refine jB ?_;clear hK K)|(refine jC ?_;clear hK K)|refine jD ?_|refine jE ?_|refine jG ?_|refine jH ?_|refine jI ?_)|((with_reducible refine jR ?hq ?_);case hq=>rfl)|((first|(with_reducible first|refine jS fun K hK=>?_|refine jT ?_|refine jU ?_)|((with_reducible refine jV ?hy fun K hK=>?_);case hy=>rfl));simp only [go_sem, Nat.reduceEqDiff, Nat.reduceAdd, Nat.reduceMul, Nat.reduceLeDiff, Nat.reduceLT, Int.reduceLT, Int.reduceLE, Int.reduceEq, Int.reduceNeg, Int.reduceToNat, Nat.reducePow, reduceIte, reduceCtorEq])|((with_reducible first|refine jW ?hy ?_|refine jY ?hy ?_);case hy=>rfl)|((with_reducible first|refine jX ?hy ?_|refine jZ ?hy ?_);case hy=>rfl)|((with_reducible refine jF ?hy ?_);case hy=>decide))
 refine x_loop (fun m e' H' => ∃ N1 T x R1, NA H' t g c len N1 ∧ LC N1 E par (opt T.list ++ R1) V ∧ Fr (· = g) H H' ∧ e' 5 = .int .i64 (x : Nat) ∧ e' 4 = .int .i64 (T.root : Nat) ∧ TrAt N1 E false x T ∧
   (T = .nil → x = h) ∧ (T ≠ .nil → T.list.getLast? = some h ∧ par (T.list.headD 0) = x) ∧ ((x = 0 ∧ m = 0) ∨ (V x ∧ ∃ l, Ch par x l ∧ l.length = m))) l0.length
  ⟨N, Tr.nil, h, rows, hN, by simpa [opt, Tr.list] using hL, .refl _ _, rfl, rfl, trivial, fun _ => rfl, fun e => absurd rfl e, .inr ⟨hh, l0, hl0, rfl⟩⟩ ?_
 rintro m e1 H1 ⟨N1, T, x, R1, hN1, hL1, hf1, i5, i4, hT, hT0, hT1, hx⟩ hoff
 have i0 : e1 0 = .pointer (some ⟨t, 0, none⟩) := (hoff 0 rfl).trans rfl
 have i1 : e1 1 = .int .i64 (h : Nat) := (hoff 1 rfl).trans rfl
 clear hoff
 rcases hx with ⟨rfl, rfl⟩ | ⟨hVx, l, hl, rfl⟩
 ·have hTn : T ≠ .nil := fun e => h0 (hT0 e).symm
  obtain ⟨hlast, hhead⟩ := hT1 hTn
  have eo : opt T.list = [T.list] := by
   unfold opt
   rw [if_neg]
   intro e
   rw [e] at hlast; cases hlast
  rw [eo] at hL1
  repeat' (first|(with_reducible first|refine jA ?_|(refine hK _ _ ?_;clear hK K)|refine jJ fun K hK=>?_|refine jK ?_|refine jL ?_|refine jM ?_|refine jN ?_|refine jO ?_|refine jP ?_|refine jQ ?_|(refine jB ?_;clear hK K)|(refine jC ?_;clear hK K)|refine jD ?_|refine jE ?_|refine jG ?_|refine jH ?_|refine jI ?_)|((with_reducible refine jR ?hq ?_);case hq=>rfl)|((first|(with_reducible first|refine jS fun K hK=>?_|refine jT ?_|refine jU ?_)|((with_reducible refine jV ?hy fun K hK=>?_);case hy=>rfl));simp only [go_sem, Nat.reduceEqDiff, Nat.reduceAdd, Nat.reduceMul, Nat.reduceLeDiff, Nat.reduceLT, Int.reduceLT, Int.reduceLE, Int.reduceEq, Int.reduceNeg, Int.reduceToNat, Nat.reducePow, reduceIte, reduceCtorEq, i0, i1, i5])|((with_reducible first|refine jW ?hy ?_|refine jY ?hy ?_);case hy=>rfl)|((with_reducible first|refine jX ?hy ?_|refine jZ ?hy ?_);case hy=>rfl)|((with_reducible refine jF ?hy ?_);case hy=>decide))
  refine splay_row hN1 hL1 hV (List.Perm.refl _) (List.mem_of_getLast? hlast) ?_
  intro H2 N2 a b hN2 hL2 hT2 e2 hfl _ hf2
  have hb : b.list = [] := by
   have hnd := hL2.row.nd
   rw [← e2] at hlast hnd
   rcases List.eq_nil_or_concat b.list with hb | ⟨b', z, hb⟩
   ·exact hb
   ·rw [hb] at hlast hnd
    have : (a.list ++ h :: b'.concat z).getLast? = some z := by
     rw [show a.list ++ h :: b'.concat z = (a.list ++ h :: b') ++ [z] from by simp, List.getLast?_append]; rfl
    rw [this] at hlast
    obtain rfl := Option.some.inj hlast
    simp only [List.nodup_append, List.nodup_cons] at hnd
    exact absurd (by simp) hnd.2.1.1
  obtain rfl := Tr.nil_of hb
  have e3 : a.list ++ [h] = T.list := e2
  repeat' (first|(with_reducible first|refine jA ?_|(refine hK _ _ ?_;clear hK K)|refine jJ fun K hK=>?_|refine jK ?_|refine jL ?_|refine jM ?_|refine jN ?_|refine jO ?_|refine jP ?_|refine jQ ?_|(refine jB ?_;clear hK K)|(refine jC ?_;clear hK K)|refine jD ?_|refine jE ?_|refine jG ?_|refine jH ?_|refine jI ?_)|((with_reducible refine jR ?hq ?_);case hq=>rfl)|((first|(with_reducible first|refine jS fun K hK=>?_|refine jT ?_|refine jU ?_)|((with_reducible refine jV ?hy fun K hK=>?_);case hy=>rfl));simp only [go_sem, Nat.reduceEqDiff, Nat.reduceAdd, Nat.reduceMul, Nat.reduceLeDiff, Nat.reduceLT, Int.reduceLT, Int.reduceLE, Int.reduceEq, Int.reduceNeg, Int.reduceToNat, Nat.reducePow, reduceIte, reduceCtorEq])|((with_reducible first|refine jW ?hy ?_|refine jY ?hy ?_);case hy=>rfl)|((with_reducible first|refine jX ?hy ?_|refine jZ ?hy ?_);case hy=>rfl)|((with_reducible refine jF ?hy ?_);case hy=>decide))
  refine fin _ N2 a R1 hN2 ⟨by rw [e3]; exact hL2, List.Perm.refl _, ?_, hfl, by rw [e3]; exact hhead⟩ (hf1.trans hf2)
  rw [hhead] at hT2
  exact hT2
 ·have hx0 : x ≠ 0 := fun e => hL.v0 (e ▸ hVx)
  have hxl := hV x hVx
  have t1 : ((x : Int) != 0) = true := by simp [hx0]
  have hxT : x ∉ T.list := fun hm => by
   have hTn : T ≠ .nil := by rintro rfl; simp [Tr.list] at hm
   obtain ⟨_, hhead⟩ := hT1 hTn
   have eo : opt T.list = [T.list] := by
    unfold opt
    rw [if_neg]
    intro e
    rw [e] at hm; cases hm
   rw [eo] at hL1
   have := hL1.row.up
   rw [hhead] at this
   exact this hm
  obtain ⟨xs, R2, hp, hxs⟩ : ∃ xs R2, R1.Perm (xs :: R2) ∧ x ∈ xs := by
   have := (hL1.use x).2 hVx
   rw [List.flatten_append, opt_flat, List.mem_append] at this
   obtain ⟨xs, hx1, hx2⟩ := List.mem_flatten.1 (this.resolve_left hxT)
   obtain ⟨p, q, e⟩ := List.append_of_mem hx1
   exact ⟨xs, p ++ q, by rw [e]; exact List.perm_middle, hx2⟩
  have hp2 : (opt T.list ++ R1).Perm (xs :: (opt T.list ++ R2)) := (hp.append_left _).trans List.perm_middle
  repeat' (first|(with_reducible first|refine jA ?_|(refine hK _ _ ?_;clear hK K)|refine jJ fun K hK=>?_|refine jK ?_|refine jL ?_|refine jM ?_|refine jN ?_|refine jO ?_|refine jP ?_|refine jQ ?_|(refine jB ?_;clear hK K)|(refine jC ?_;clear hK K)|refine jD ?_|refine jE ?_|refine jG ?_|refine jH ?_|refine jI ?_)|((with_reducible refine jR ?hq ?_);case hq=>rfl)|((first|(with_reducible first|refine jS fun K hK=>?_|refine jT ?_|refine jU ?_)|((with_reducible refine jV ?hy fun K hK=>?_);case hy=>rfl));simp only [go_sem, Nat.reduceEqDiff, Nat.reduceAdd, Nat.reduceMul, Nat.reduceLeDiff, Nat.reduceLT, Int.reduceLT, Int.reduceLE, Int.reduceEq, Int.reduceNeg, Int.reduceToNat, Nat.reducePow, reduceIte, reduceCtorEq, i0, i5, t1])|((with_reducible first|refine jW ?hy ?_|refine jY ?hy ?_);case hy=>rfl)|((with_reducible first|refine jX ?hy ?_|refine jZ ?hy ?_);case hy=>rfl)|((with_reducible refine jF ?hy ?_);case hy=>decide))
  refine splay_row hN1 hL1 hV hp2 hxs ?_
  intro H2 N2 a b hN2 hL2 hT2 e2 hfl hoff2 hf2
  have hTN2 : TrAt N2 E false x T := hT.congr fun i hi => hoff2 i fun hx => hL2.apart hx (by rw [List.flatten_append, opt_flat]; exact List.mem_append_left _ hi)
  have hd2 := hN2.hd
  have w2 := hN2.okw hxl 2 (by omega)
  have hTl : T.root < len := by
   by_cases hz : T.root = 0
   ·rw [hz]; exact hN.z.1
   ·refine hV _ ((hL1.use _).1 ?_)
    rw [List.flatten_append, opt_flat]
    exact List.mem_append_left _ (Tr.root_mem hz)
  have hN3 := setR hN2 hxl hTl
  obtain ⟨c1, c2, c3⟩ := hL2.cut hT2 e2 hfl hTN2 (fun hne => (hT1 hne).2)
  have hf3 := hset_fr H2 g (x * 10 + 2) (.int .i64 (T.root : Nat))
  repeat' (first|(with_reducible first|refine jA ?_|(refine hK _ _ ?_;clear hK K)|refine jJ fun K hK=>?_|refine jK ?_|refine jL ?_|refine jM ?_|refine jN ?_|refine jO ?_|refine jP ?_|refine jQ ?_|(refine jB ?_;clear hK K)|(refine jC ?_;clear hK K)|refine jD ?_|refine jE ?_|refine jG ?_|refine jH ?_|refine jI ?_)|((with_reducible refine jR ?hq ?_);case hq=>rfl)|((first|(with_reducible first|refine jS fun K hK=>?_|refine jT ?_|refine jU ?_)|((with_reducible refine jV ?hy fun K hK=>?_);case hy=>rfl));simp only [go_sem, Nat.reduceEqDiff, Nat.reduceAdd, Nat.reduceMul, Nat.reduceLeDiff, Nat.reduceLT, Int.reduceLT, Int.reduceLE, Int.reduceEq, Int.reduceNeg, Int.reduceToNat, Nat.reducePow, reduceIte, reduceCtorEq, i0, i5, i4, hd2, hxl, w2])|((with_reducible first|refine jW ?hy ?_|refine jY ?hy ?_);case hy=>rfl)|((with_reducible first|refine jX ?hy ?_|refine jZ ?hy ?_);case hy=>rfl)|((with_reducible refine jF ?hy ?_);case hy=>decide))
  refine pull_ok hN3 hxl fun H4 hN4 hf4 => ?_
  have hd4 := hN4.hd
  have u4 := hN4.cell0 hxl
  have eu := c2.2.1
  rw [eu] at u4
  repeat' (first|(with_reducible first|refine jA ?_|(refine hK _ _ ?_;clear hK K)|refine jJ fun K hK=>?_|refine jK ?_|refine jL ?_|refine jM ?_|refine jN ?_|refine jO ?_|refine jP ?_|refine jQ ?_|(refine jB ?_;clear hK K)|(refine jC ?_;clear hK K)|refine jD ?_|refine jE ?_|refine jG ?_|refine jH ?_|refine jI ?_)|((with_reducible refine jR ?hq ?_);case hq=>rfl)|((first|(with_reducible first|refine jS fun K hK=>?_|refine jT ?_|refine jU ?_)|((with_reducible refine jV ?hy fun K hK=>?_);case hy=>rfl));simp only [go_sem, Nat.reduceEqDiff, Nat.reduceAdd, Nat.reduceMul, Nat.reduceLeDiff, Nat.reduceLT, Int.reduceLT, Int.reduceLE, Int.reduceEq, Int.reduceNeg, Int.reduceToNat, Nat.reducePow, reduceIte, reduceCtorEq, i0, i5, hd4, hxl, u4])|((with_reducible first|refine jW ?hy ?_|refine jY ?hy ?_);case hy=>rfl)|((with_reducible first|refine jX ?hy ?_|refine jZ ?hy ?_);case hy=>rfl)|((with_reducible refine jF ?hy ?_);case hy=>decide))
  have ehead : (a.list ++ x :: T.list).headD 0 = xs.headD 0 := by rw [← e2]; cases a.list <;> rfl
  have elast : (a.list ++ x :: T.list).getLast? = some h := by
   by_cases hTn : T = .nil
   ·rw [hTn]; rw [hT0 hTn]; simp [Tr.list]
   ·have := (hT1 hTn).1
    rw [List.getLast?_append, List.getLast?_cons, this]
    simp
  have hm : ∃ m', m' < l.length ∧ ((par (xs.headD 0) = 0 ∧ m' = 0) ∨ (V (par (xs.headD 0)) ∧ ∃ l', Ch par (par (xs.headD 0)) l' ∧ l'.length = m')) := by
   obtain ⟨y, r, ly, ey, hy⟩ := hL2.head_ch
   subst ey
   obtain ⟨m1, h1, h2⟩ := (hL2.link _ (.head _)).chain hy x hxs
   obtain rfl := h1.uniq hl
   show ∃ m', m' < m1.length ∧ ((par y = 0 ∧ m' = 0) ∨ (V (par y) ∧ _))
   cases hy with
   | root h => exact ⟨0, by simp at h2; omega, .inl ⟨h, rfl⟩⟩
   | @step _ l' h k => exact ⟨l'.length, by simp at h2; omega, .inr ⟨(hL2.cl y (hL2.live (.head _))).resolve_left h, l', k, rfl⟩⟩
  obtain ⟨m', hm1, hm2⟩ := hm
  refine loop_normal hm1 ⟨_, .node a x T, par (xs.headD 0), opt b.list ++ R2, hN4, ?_, ((hf1.trans hf2).trans hf3).trans hf4, rfl, rfl, c2, fun e => (by cases e), fun _ => ⟨elast, by rw [show (Tr.node a x T).list = a.list ++ x :: T.list from rfl, ehead]⟩, hm2⟩
  have eo : opt (Tr.node a x T).list = [a.list ++ x :: T.list] := by
   unfold opt
   rw [if_neg (by simp [Tr.list])]
   rfl
  rw [eo]
  exact c1
end
end Go.Proofs.Ytoplhfhjokjbiaa
