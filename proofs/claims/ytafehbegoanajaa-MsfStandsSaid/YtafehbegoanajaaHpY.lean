/-
  Maps whose keys are numbers or texts, over a heap: looked up, laid, counted; what a map's block means to cells.
-/
import Derived.Test.YtafehbegoanajaaHpN
namespace Go.Hp
open Go
set_option linter.unusedVariables false
set_option linter.unusedSimpArgs false

def plainKey : TypeDesc → Bool
  | .int _ | .string => true
  | _ => false
/-- A map type's keys' description, and its things' zero: keys are numbers or texts. -/
def mapK (P : Program) (t : TypeId) : Option (TypeDesc × Value) :=
  match tab P t with
  | some ti => match ti.desc with
    | .map k e => match tab P k, tab P e with
      | some tk, some te => if plainKey tk.desc then some (tk.desc, te.zero) else none
      | _, _ => none
    | _ => none
  | none => none
theorem mapK_spec {P : Program} {t : TypeId} {d : TypeDesc} {z : Value} (h : mapK P t = some (d, z)) :
    ∃ ti k e tk te, tab P t = some ti ∧ ti.desc = .map k e ∧ tab P k = some tk ∧ tab P e = some te ∧ tk.desc = d ∧ te.zero = z ∧ plainKey d = true := by
  unfold mapK at h
  split at h
  · rename_i ti ht
    split at h
    · rename_i k e hd
      split at h
      · rename_i tk te hk he
        split at h
        · rename_i hp
          simp only [Option.some.injEq, Prod.mk.injEq] at h
          obtain ⟨rfl, rfl⟩ := h
          exact ⟨ti, k, e, tk, te, ht, hd, hk, he, rfl, rfl, hp⟩
        · cases h
      · cases h
    · cases h
  · cases h
theorem rd_checkKey {P : Program} {H : Heap} {k : TypeId} {tk : TI} (hk : tab P k = some tk) (hp : plainKey tk.desc = true) (b : Bool) (v : Value) : Rd P H (Instr.checkKey b 10000 k v) () := by
  unfold Instr.checkKey
  refine Rd.bind (rd_underlying hk) ?_
  cases hd : tk.desc <;> rw [hd] at hp <;> first | (simp [plainKey] at hp; done) | exact Rd.ret _
theorem rd_findKey {P : Program} {H : Heap} {k : TypeId} {tk : TI} (hk : tab P k = some tk) {v : Value} {es : List MapEntry} {r : Option (Nat × Value)} (hf : Instr.findNow tk.desc v es 0 = some r) : Rd P H (Instr.findKey k v es) r := by
  unfold Instr.findKey
  refine Rd.bind (rd_underlying hk) ?_
  rw [hf]
  exact Rd.ret _
def lookedUp (z : Value) (ok : Bool) : Option (Nat × Value) → Value
  | some (_, v) => if ok then .tuple #[v, .bool true] else v
  | none => if ok then .tuple #[z, .bool false] else z
theorem rd_lookup {P : Program} {H : Heap} {t : TypeId} {d : TypeDesc} {z : Value} {r : Nat} {es : Array MapEntry} {c : Nat} {v : Value} {ok : Bool} {res : Option (Nat × Value)}
    (ht : mapK P t = some (d, z)) (hr : H[r]? = some (.map es c)) (hf : Instr.findNow d v es.toList 0 = some res) : Rd P H (Instr.lookup t (.map (some r)) v ok) (lookedUp z ok res) := by
  obtain ⟨ti, k, e, tk, te, h1, h2, h3, h4, rfl, rfl, h7⟩ := mapK_spec ht
  unfold Instr.lookup
  refine Rd.bind (rd_underlying h1) ?_
  rw [h2]
  refine Rd.bind (x := .map es c) (Rd.getObj hr rfl) (Rd.bind (x := es) (Rd.ret _) (Rd.bind (x := ()) (rd_checkKey h3 h7 _ _) (Rd.bind (x := res) (rd_findKey h3 hf) ?_)))
  cases res with
  | none => exact Rd.bind (rd_zeroValue h4) (Rd.bind (x := (te.zero, false)) (Rd.ret _) (Rd.ret _))
  | some p => exact Rd.bind (x := (p.2, true)) (Rd.ret _) (Rd.ret _)
theorem rdX_lookup {P : Program} {H : Heap} {t : TypeId} {ρ : Operand → Value} {d : Option Tmp} {x i : Operand} {ok : Bool} {ty : TypeId} {pos : String} {af : Array Edge} {g : Option (Nat × Bool)} {kd : TypeDesc} {z : Value} {r : Nat} {es : Array MapEntry} {c : Nat} {v : Value} {res : Option (Nat × Value)} {K : Value → Prop}
    (hx : ρ x = .map (some r)) (hi : ρ i = v) (ht : mapK P t = some (kd, z)) (hr : H[r]? = some (.map es c)) (hf : Instr.findNow kd v es.toList 0 = some res) (hk : K (lookedUp z ok res)) :
    ∃ u, Rd P H (execOp ρ ⟨d, .lookup t x i ok, ty, pos, af, g⟩) (.value u) ∧ K u := by
  refine ⟨_, Rd.value ?_, hk⟩
  show Rd P H (Instr.lookup t (ρ x) (ρ i) ok) _
  rw [hx, hi]
  exact rd_lookup ht hr hf
theorem semHp_rd {P : Program} {H : Heap} {α : Type} {s : Sem α} {x : α} {K : α → Heap → Prop} (h : Rd P H s x) (hk : K x H) : semHp P s H K := by
  induction s with
  | pure a => rw [show a = x from h]; exact hk
  | load m a c ih => obtain ⟨v, hv, h⟩ := h; exact ⟨v, hv, ih v h⟩
  | getObj r c ih => obtain ⟨o, ho, hc, h⟩ := h; exact ⟨o, ho, hc, ih o h⟩
  | shape r c ih => exact ih _ h.2
  | frozen a c ih => exact ih _ h.2
  | program c ih => exact ih P h
  | mark m c ih => exact ih h
  | _ => exact h.elim
theorem hp_rd {P : Program} {H : Heap} {α β : Type} {s : Sem α} {x : α} {f : α → Sem β} {K : β → Heap → Prop} (h : Rd P H s x) (hk : semHp P (f x) H K) : semHp P (s >>= f) H K := by
  rw [semHp_bind']; exact semHp_rd h hk
/-- A map with one key's thing laid. -/
def laidIn (es : Array MapEntry) (c : Nat) (k v : Value) : Option (Nat × Value) → Obj
  | some (i, _) => .map (es.modify i fun e => { e with key := k, val := v }) c
  | none => .map (es.push { key := k, val := v, born := c }) (c + 1)
def oldKey (es : Array MapEntry) (k : Value) (i : Nat) : Value := ((es[i]?).map (·.key)).getD k
theorem hp_mapUpdate {P : Program} {H : Heap} {t : TypeId} {d : TypeDesc} {z : Value} {r : Nat} {es : Array MapEntry} {c : Nat} {k v : Value} {res : Option (Nat × Value)} {K : Unit → Heap → Prop}
    (ht : mapK P t = some (d, z)) (hr : H[r]? = some (.map es c)) (hf : Instr.findNow d k es.toList 0 = some res) (hs : ∀ i u, res = some (i, u) → Instr.sameBits 10000 (oldKey es k i) k = true)
    (hk : K () (H.setIfInBounds r (laidIn es c k v res))) : semHp P (Instr.mapUpdate t (.map (some r)) k v) H K := by
  obtain ⟨ti, kt, e, tk, te, h1, h2, h3, h4, rfl, rfl, h7⟩ := mapK_spec ht
  unfold Instr.mapUpdate
  refine hp_rd (rd_underlying h1) ?_
  rw [h2]
  refine hp_rd (Rd.getObj hr rfl) (hp_rd (rd_checkKey h3 h7 _ _) (hp_rd (x := res) (rd_findKey h3 hf) ?_))
  cases res with
  | none => exact ⟨⟨_, hr, rfl⟩, hk⟩
  | some p =>
    obtain ⟨i, u⟩ := p
    have hb := hs i u rfl
    unfold oldKey at hb
    simp only []
    refine hp_rd (x := k) ?_ ⟨⟨_, hr, rfl⟩, hk⟩
    unfold Instr.keyThatStays
    rw [if_pos hb]
    exact Rd.ret _
theorem opX_mapUpdate {P : Program} {H : Heap} {t : TypeId} {ρ : Operand → Value} {dst : Option Tmp} {m i x : Operand} {ty : TypeId} {pos : String} {af : Array Edge} {g : Option (Nat × Bool)} {d : TypeDesc} {z : Value} {r : Nat} {es : Array MapEntry} {c : Nat} {k v : Value} {res : Option (Nat × Value)} {K : Value → Heap → Prop}
    (hm : ρ m = .map (some r)) (hi : ρ i = k) (hx : ρ x = v) (ht : mapK P t = some (d, z)) (hr : H[r]? = some (.map es c)) (hf : Instr.findNow d k es.toList 0 = some res) (hs : ∀ i u, res = some (i, u) → Instr.sameBits 10000 (oldKey es k i) k = true)
    (hk : K undef (H.setIfInBounds r (laidIn es c k v res))) : semHp P (execOp ρ ⟨dst, .mapUpdate t m i x, ty, pos, af, g⟩) H (nextHp P K) := by
  have : semHp P (Instr.mapUpdate t (ρ m) (ρ i) (ρ x) >>= fun _ => (pure Next.skip : Sem Next)) H (nextHp P K) := by
    rw [hm, hi, hx, semHp_bind']
    exact hp_mapUpdate ht hr hf hs hk
  exact this
theorem rd_lenMap {P : Program} {H : Heap} {t ty : TypeId} {d : TypeDesc} {z : Value} {r : Nat} {es : Array MapEntry} {c : Nat} (ht : mapK P t = some (d, z)) (hr : H[r]? = some (.map es c)) :
    Rd P H (Builtin.len_ #[t] ty #[.map (some r)]) (.int .i64 es.size) := by
  obtain ⟨ti, kt, e, tk, te, h1, h2, h3, h4, rfl, rfl, h7⟩ := mapK_spec ht
  have hu := rd_underlying (H := H) h1
  rw [h2] at hu
  refine Rd.bind hu ?_
  exact Rd.bind (Rd.getObj hr rfl) (Rd.ret _)
/-! ### cells beside maps -/
def isMap (H : Heap) (r : Nat) : Prop := ∃ es c, H[r]? = some (.map es c)
theorem hcell_setMap {H : Heap} {r : Nat} {es : Array MapEntry} {c : Nat} (h : isMap H r) (a : Addr) : hcell (H.setIfInBounds r (.map es c)) a = hcell H a := by
  obtain ⟨es', c', h⟩ := h
  unfold hcell
  by_cases hb : a.block = r
  · have hlt : r < H.size := by
      rcases Nat.lt_or_ge r H.size with h' | h'
      · exact h'
      · rw [Array.getElem?_eq_none h'] at h; cases h
    rw [hb, h]
    simp [hlt]
  · rw [Array.getElem?_setIfInBounds_ne (Ne.symm hb)]
theorem setMap_get {H : Heap} {r b : Nat} {o : Obj} (h : b ≠ r) : (H.setIfInBounds r o)[b]? = H[b]? := Array.getElem?_setIfInBounds_ne (Ne.symm h)
theorem setMap_same {H : Heap} {r : Nat} {o : Obj} (h : isMap H r) : (H.setIfInBounds r o)[r]? = some o := by
  obtain ⟨es', c', h⟩ := h
  have hlt : r < H.size := by
    rcases Nat.lt_or_ge r H.size with h' | h'
    · exact h'
    · rw [Array.getElem?_eq_none h'] at h; cases h
  simp [hlt]
theorem Fr.setMap {S : Nat → Prop} {H H' : Heap} (h : Fr S H H') {r : Nat} (ha : S r ∨ H.size ≤ r) (o : Obj) : Fr S H (H'.setIfInBounds r o) :=
  h.trans' (S' := fun b => b = r) ⟨by simp, fun b _ hb => setMap_get hb⟩ fun b hb e => by
    subst e
    rcases ha with ha | ha
    · exact ha
    · omega
end Go.Hp
