/-
  Regions that draw their order, as in HpK, where making a struct's value counts as reading too.
-/
import Derived.Test.YtdhepjcdlkahnaaDoorHpY
namespace Go.Hp
open Go
set_option linter.unusedVariables false
set_option linter.unusedSimpArgs false

theorem rd_mapM_places {P : Program} {H : Heap} : ∀ (fs : List Field) (l : List (Nat × Nat × Bool)), layOf P fs = some l →
    Rd P H (fs.mapM fun f => do pure (f.offset, ← sizeOf f.type) : Sem (List (Nat × Nat))) (l.map fun (o, n, _) => (o, n))
  | [], l, hl => by
    obtain rfl := Option.some.inj hl
    exact Rd.ret _
  | f :: fs, l, hl => by
    unfold layOf at hl
    split at hl
    · rename_i tf l' ht hl'
      obtain rfl := Option.some.inj hl
      rw [List.mapM_cons]
      exact Rd.bind (Rd.bind (rd_sizeOf ht) (Rd.ret _)) (Rd.bind (rd_mapM_places fs l' hl') (Rd.ret _))
    · cases hl
/-- A struct's value, made of parts. -/
def buildQ (P : Program) (t : TypeId) (parts : List (Nat × Value)) (K : Value → Prop) : Prop :=
  match tl P t with
  | some ti => match ti.kind with
    | .struct => match flay P t with
      | some l => match fillX (fun i => (l[i]?).map fun (o, n, _) => (o, n)) ti.zero.cells.toList parts with
        | some cs => K (.agg cs.toArray)
        | none => False
      | none => False
    | _ => False
  | none => False
theorem rd_build {P : Program} {H : Heap} {t : TypeId} {parts : Array (Nat × Value)} {K : Value → Prop} (h : buildQ P t parts.toList K) : ∃ v, K v ∧ Rd P H (Instr.build t parts) v := by
  unfold buildQ at h
  split at h
  · rename_i ti hl
    obtain ⟨tt, ht, hk, hs, hb, hz⟩ := tl_spec hl
    split at h
    · rename_i hkk
      rw [hkk] at hk
      obtain ⟨fs, hd⟩ : ∃ fs, tt.desc = .struct fs := by cases hd : tt.desc <;> rw [hd] at hk <;> simp [kindD] at hk; exact ⟨_, rfl⟩
      split at h
      · rename_i l hl
        have hlay := flay_spec ht hd hl
        split at h
        · rename_i cs hcs
          refine ⟨_, h, ?_⟩
          unfold Instr.build
          have hu := rd_underlying (H := H) ht
          rw [hd] at hu
          refine Rd.bind (rd_zeroValue ht) (Rd.bind hu ?_)
          have hm : (fs.mapM fun f => do pure (f.offset, ← sizeOf f.type) : Sem (Array (Nat × Nat))) = (do let l ← (fs.toList.mapM fun f => do pure (f.offset, ← sizeOf f.type) : Sem (List (Nat × Nat))); pure l.toArray) := by
            rw [Array.mapM_eq_mapM_toList]
            simp
          refine Rd.bind (x := (l.map fun (o, n, _) => (o, n)).toArray) ?_ ?_
          · rw [hm]
            exact Rd.bind (rd_mapM_places _ l hlay) (Rd.ret _)
          · have : Instr.fill ((l.map fun (o, n, _) => (o, n)).toArray[·]?) tt.zero.cells parts.toList = some cs.toArray := by
              rw [fill_eq, hz]
              have e : (fun i : Nat => (l.map fun ((o, n, _) : Nat × Nat × Bool) => (o, n)).toArray[i]?) = fun i : Nat => (l[i]?).map fun (o, n, _) => (o, n) := by funext i; simp
              rw [e, hcs]; rfl
            rw [this]
            exact Rd.ret _
        · exact h.elim
      · exact h.elim
    · exact h.elim
  · exact h.elim
def isQ (op : Op) : Bool := match op with
  | .build .. => true
  | op => isRdOp op
def qX (P : Program) (o : Oper) (ρ : Operand → Value) (H : Heap) (K : Value → Prop) : Prop := match o.op with
  | .build t parts => buildQ P t (parts.toList.map fun (i, x) => (i, ρ x)) K
  | _ => rdX P o ρ H K
theorem qX_sound {P : Program} {o : Oper} {ρ : Operand → Value} {H : Heap} {K : Value → Prop} (h : qX P o ρ H K) : ∃ v, K v ∧ Rd P H (execOp ρ o) (.value v) := by
  obtain ⟨dst, op, type, pos, after, guard⟩ := o
  unfold qX at h
  cases op <;> simp only [] at h <;> first | exact rdX_sound h | skip
  rename_i t parts
  obtain ⟨v, h1, h2⟩ := rd_build (P := P) (H := H) (t := t) (parts := parts.map fun (i, x) => (i, ρ x)) (K := K) (by simpa using h)
  exact ⟨v, h1, Rd.value h2⟩
section
variable {P : Program} {ops : Array Oper} {S : Heap → Prop} {Z : List Nat} {K : Env → Heap → Prop}
theorem still_q {o : Oper} {e : Env} {v : Value} (hg : o.guard = none) (h : ∀ H, S H → qX P o (Env.eval e) H (· = v)) : Still P ops S o e v := by
  unfold Still
  rw [hg]
  intro H hS
  obtain ⟨u, h1, h2⟩ := qX_sound (h H hS)
  rw [← h1]; exact h2
/-- In the order given, the reads of which stand in every heap of S; the operations of Z come last: nothing else may come up. -/
def opsT (P : Program) (ops : Array Oper) (S : Heap → Prop) (Z : List Nat) : List Nat → Env → Heap → (Env → Heap → Prop) → Prop
  | [], e, H, K => K e H
  | i :: rest, e, H, K => match ops[i]? with
    | none => False
    | some o => if (isQ o.op && !Z.contains i) = true then ∃ v, Still P ops S o e v ∧ opsT P ops S Z rest (e.put o.dst v) H K
      else opAt P ops o e H fun e' H' => (Z.contains i = false → S H') ∧ opsT P ops S Z rest e' H' K
def lexTFrom (ops : Array Oper) (Z : List Nat) : List Nat → Array Bool → Bool
  | [], listed => (Region.ready .any ops listed).isEmpty
  | i :: rest, listed => (match ops[i]? with
    | none => false
    | some o => if isQ o.op && !Z.contains i then takeS ops listed Z i else Region.ready .any ops listed == [i] && (!Z.contains i || rest.all fun j => Z.contains j)) && lexTFrom ops Z rest (listed.setIfInBounds i true)
def lexT (ops : Array Oper) (Z ord : List Nat) : Bool := ord.length == ops.size && lexTFrom ops Z ord (Array.replicate ops.size false)
theorem anyH_lexT : ∀ (ord : List Nat) (listed : Array Bool) (e : Env) (H : Heap), lexTFrom ops Z ord listed = true → ((∃ i rest, ord = i :: rest ∧ Z.contains i = false) → S H) → opsT P ops S Z ord e H K → anyH P ops S Z K ord.length listed e H
  | [], _, _, _, hB, _, h => ⟨by simpa [lexTFrom] using hB, h⟩
  | i :: rest, listed, e, H, hB, hS, h => by
    unfold lexTFrom at hB
    rw [Bool.and_eq_true] at hB
    obtain ⟨hB, hB'⟩ := hB
    unfold opsT at h
    cases h0 : ops[i]? with
    | none => rw [h0] at hB; cases hB
    | some o =>
      rw [h0] at hB h
      simp only [] at hB h
      by_cases hc : (isQ o.op && !Z.contains i) = true
      · rw [if_pos hc] at h hB
        simp only [Bool.and_eq_true, Bool.not_eq_true'] at hc
        obtain ⟨v, h1, h2⟩ := h
        have hSH := hS ⟨i, rest, rfl, hc.2⟩
        exact anyH_take h0 hB h1 hSH (anyH_lexT rest _ _ H hB' (fun _ => hSH) h2)
      · rw [if_neg hc] at h hB
        rw [Bool.and_eq_true, beq_iff_eq] at hB
        obtain ⟨hB, hZ⟩ := hB
        refine ⟨fun h => (by rw [h] at hB; cases hB), fun j hj => ?_⟩
        rw [hB] at hj
        obtain rfl := List.mem_singleton.1 hj
        simp only [h0]
        refine opAtR_mono (opAtR_of h) fun e' H' ⟨a, b⟩ => ⟨a, anyH_lexT rest _ e' H' hB' ?_ b⟩
        rintro ⟨k, rest', rfl, hk⟩
        refine a ?_
        rw [Bool.or_eq_true] at hZ
        rcases hZ with hZ | hZ
        · simpa using hZ
        · have := List.all_eq_true.1 hZ k (.head _)
          rw [hk] at this
          cases this
theorem x_drawT {qs : List Nat} {id : Nat} {l : List Oper} {Q : HX → Env → Heap → Prop} {e : Env} {H : Heap} (Z ord : List Nat) (hq : qs.contains id = false) (hl : lexT l.toArray Z ord = true) (S : Heap → Prop) (hS : S H) (h : opsT P l.toArray S Z ord e H (Q .normal)) :
    codeX P qs (.region id l.toArray true) Q e H := by
  refine x_draw hq S Z hS ?_
  unfold lexT at hl
  rw [Bool.and_eq_true, beq_iff_eq] at hl
  have := anyH_lexT (K := Q .normal) (ops := l.toArray) ord _ e H hl.2 (fun _ => hS) h
  rw [hl.1] at this
  exact this
theorem xt_nil {e : Env} {H : Heap} (h : K e H) : opsT P ops S Z [] e H K := h
theorem xt_rd {l : List Oper} {i : Nat} {d : Option Tmp} {op : Op} {t : TypeId} {pos : String} {after : Array Edge} {rest : List Nat} {e : Env} {H : Heap} {v : Value} (hi : l[i]? = some ⟨d, op, t, pos, after, none⟩) (hr : (isQ op && !Z.contains i) = true) (h1 : ∀ H', S H' → qX P ⟨d, op, t, pos, after, none⟩ (Env.eval e) H' (· = v))
    (h2 : opsT P l.toArray S Z rest (e.put d v) H K) : opsT P l.toArray S Z (i :: rest) e H K := by
  unfold opsT
  rw [List.getElem?_toArray, hi]
  simp only []
  rw [if_pos hr]
  exact ⟨v, still_q rfl h1, h2⟩
theorem xt_guard_yes {l : List Oper} {i : Nat} {d : Option Tmp} {op : Op} {t : TypeId} {pos : String} {after : Array Edge} {rest : List Nat} {e : Env} {H : Heap} {v : Value} {j : Nat} {w : Bool} (hi : l[i]? = some ⟨d, op, t, pos, after, some (j, w)⟩) (hr : (isQ op && !Z.contains i) = true) (hy : yieldedE l.toArray e j = some w)
    (h1 : ∀ H', S H' → qX P ⟨d, op, t, pos, after, some (j, w)⟩ (Env.eval e) H' (· = v))
    (h2 : opsT P l.toArray S Z rest (e.put d v) H K) : opsT P l.toArray S Z (i :: rest) e H K := by
  unfold opsT
  rw [List.getElem?_toArray, hi]
  simp only []
  rw [if_pos hr]
  refine ⟨v, ?_, h2⟩
  unfold Still
  simp only []
  rw [if_pos hy]
  intro H hS
  obtain ⟨u, h3, h4⟩ := qX_sound (h1 H hS)
  rw [← h3]; exact h4
theorem xt_guard_no {l : List Oper} {i : Nat} {d : Option Tmp} {op : Op} {t : TypeId} {pos : String} {after : Array Edge} {rest : List Nat} {e : Env} {H : Heap} {j : Nat} {w : Bool} (hi : l[i]? = some ⟨d, op, t, pos, after, some (j, w)⟩) (hy : yieldedE l.toArray e j = some (!w)) (hS : S H)
    (h2 : opsT P l.toArray S Z rest (e.put d undef) H K) : opsT P l.toArray S Z (i :: rest) e H K := by
  have hne : ¬ yieldedE l.toArray e j = some w := by rw [hy]; cases w <;> simp
  unfold opsT
  rw [List.getElem?_toArray, hi]
  simp only []
  by_cases hr : (isQ op && !Z.contains i) = true
  · rw [if_pos hr]
    refine ⟨undef, ?_, h2⟩
    unfold Still
    simp only []
    rw [if_neg hne]
    trivial
  · rw [if_neg hr]
    unfold opAt
    simp only []
    rw [if_neg hne]
    exact ⟨fun _ => hS, h2⟩
theorem xt_op {l : List Oper} {i : Nat} {d : Option Tmp} {op : Op} {t : TypeId} {pos : String} {after : Array Edge} {rest : List Nat} {e : Env} {H : Heap} (hi : l[i]? = some ⟨d, op, t, pos, after, none⟩) (hr : (isQ op && !Z.contains i) = false)
    (h : ∀ K' : Value → Heap → Prop, (∀ v H', (Z.contains i = false → S H') ∧ opsT P l.toArray S Z rest (e.put d v) H' K → K' v H') → opX P ⟨d, op, t, pos, after, none⟩ (Env.eval e) H K') : opsT P l.toArray S Z (i :: rest) e H K := by
  unfold opsT
  rw [List.getElem?_toArray, hi]
  simp only []
  rw [if_neg (by rw [hr]; simp)]
  exact h _ fun _ _ h => h
theorem xt_op_yes {l : List Oper} {i : Nat} {d : Option Tmp} {op : Op} {t : TypeId} {pos : String} {after : Array Edge} {rest : List Nat} {e : Env} {H : Heap} {j : Nat} {w : Bool} (hi : l[i]? = some ⟨d, op, t, pos, after, some (j, w)⟩) (hr : (isQ op && !Z.contains i) = false) (hy : yieldedE l.toArray e j = some w)
    (h : ∀ K' : Value → Heap → Prop, (∀ v H', (Z.contains i = false → S H') ∧ opsT P l.toArray S Z rest (e.put d v) H' K → K' v H') → opX P ⟨d, op, t, pos, after, some (j, w)⟩ (Env.eval e) H K') : opsT P l.toArray S Z (i :: rest) e H K := by
  unfold opsT
  rw [List.getElem?_toArray, hi]
  simp only []
  rw [if_neg (by rw [hr]; simp)]
  unfold opAt
  simp only []
  rw [if_pos hy]
  exact h _ fun _ _ h => h
theorem xt_tail {i : Nat} {rest : List Nat} {e : Env} {H : Heap} (hz : Z.contains i = true) (h : opsT P ops S Z rest e H K) : (Z.contains i = false → S H) ∧ opsT P ops S Z rest e H K :=
  ⟨fun hk => (by rw [hz] at hk; cases hk), h⟩
theorem xt_keep {i : Nat} {rest : List Nat} {e : Env} {H : Heap} (hS : S H) (h : opsT P ops S Z rest e H K) : (Z.contains i = false → S H) ∧ opsT P ops S Z rest e H K := ⟨fun _ => hS, h⟩
end
attribute [go_sem] qX isQ buildQ
end Go.Hp
