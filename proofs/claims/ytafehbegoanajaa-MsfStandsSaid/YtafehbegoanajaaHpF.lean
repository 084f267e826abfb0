/-
  One operation, a region, code and calls over a heap: sound for the model's own.
-/
import Derived.Test.YtafehbegoanajaaHpE
namespace Go.Hp
open Go
set_option linter.unusedVariables false
set_option linter.unusedSimpArgs false

section
variable {P : Program}
/-- What one operation comes to in a world. -/
def Runs (P : Program) (o : Oper) (ρ : Operand → Value) (w : World) (K : Value → Heap → Prop) : Prop :=
  ∃ nx w', (execOp ρ o).run P w = .ok nx w' ∧ nextHp P K nx w'.heap ∧ Like w w'
theorem runs_of_rd {o : Oper} {ρ : Operand → Value} {w : World} {K : Value → Heap → Prop} (h : rdX P o ρ w.heap fun v => K v w.heap) : Runs P o ρ w K := by
  obtain ⟨v, h1, h2⟩ := rdX_sound h
  exact ⟨_, w, h2.run w rfl, h1, .refl w⟩
theorem runs_of_hp {o : Oper} {ρ : Operand → Value} {w : World} {K : Value → Heap → Prop} (h : semHp P (execOp ρ o) w.heap (nextHp P K)) : Runs P o ρ w K := by
  obtain ⟨x, w', h1, h2, h3⟩ := semHp_run _ w _ h
  exact ⟨x, w', h1, h2, h3⟩
theorem hp_callFunc {f : FuncId} {args : Array Value} {H : Heap} {K : Value → Heap → Prop} (h : CallsH P f args H K) : semHp P (callFunc f args) H (nextHp P K) := by
  have hc := h.1
  unfold callable at hc
  unfold callFunc
  rw [semHp_bind']
  show semHp P (match P.funcs[f]? with | none => _ | some fn => _) H _
  split at hc
  · rename_i fn hf
    simp only [Bool.and_eq_true, Bool.not_eq_true'] at hc
    rw [hf]
    simp only []
    have h2 : fn.body.isNone = false := by cases hb : fn.body <;> simp [hb] at hc ⊢
    rw [if_neg (by rw [hc.2]; simp), if_neg (by rw [h2]; simp)]
    exact h
  · cases hc
theorem hp_append {t : TypeId} {ty : TypeId} {s x : Value} {H : Heap} {K : Value → Heap → Prop} (h : appendX P t s x H K) : semHp P (Builtin.append_ #[t, t] ty #[s, x]) H K := by
  unfold appendX at h
  split at h
  · rename_i e sz base sLen sCap he
    obtain ⟨ti, tt, h2, h3, h4, h5⟩ := elems_spec he
    have htl : tl P e = some ⟨kindD tt.desc, tt.size, tt.bytes, tt.zero⟩ := by unfold tl; rw [h3]; rfl
    rw [htl] at h
    simp only [] at h
    obtain ⟨n, new, hx, h⟩ := h
    unfold srcX at hx
    have hlen : Builtin.lenOf x = (Pure.pure n : Sem Nat) := by
      split at hx
      · rw [← hx.1]; rfl
      · rw [← hx.1]; rfl
      · rw [← hx.1]; rfl
      · exact hx.elim
    have hnew : ∀ (H' : Heap) (K' : Array Value → Heap → Prop), H' = H → K' new.toArray H' → semHp P (Builtin.firstCells sz n x) H' K' := by
      rintro H' K' rfl hk
      split at hx
      · obtain ⟨rfl, hr⟩ := hx
        unfold Builtin.firstCells loadCells
        exact hp_loadCells _ 0 new [] K' hr (by simpa using hk)
      · obtain ⟨rfl, h0, rfl⟩ := hx
        unfold Builtin.firstCells
        exact hk
      · rename_i s
        obtain ⟨rfl, rfl⟩ := hx
        unfold Builtin.firstCells
        rw [semHp_pure]
        have : s.extract 0 s.size = s := by
          apply ByteArray.ext
          rw [ByteArray.data_extract]
          exact Array.extract_size
        rw [this]
        have h6 : (s.data.map fun b => Value.int .u8 b.toNat) = (s.data.toList.map fun b => Value.int .u8 b.toNat).toArray := by
          apply Array.ext' ; simp
        rw [h6]; exact hk
      · exact hx.elim
    unfold Builtin.append_
    simp only [List.getElem?_toArray, List.getElem?_cons_zero, List.getElem?_cons_succ]
    rw [semHp_bind', hp_underlying h2, h5]
    simp only [descOf]
    rw [semHp_bind', hp_sizeOf h3, h4, semHp_bind', hp_underlying h2, h5]
    simp only [descOf]
    rw [semHp_bind', semHp_pure]
    simp only [Bool.false_eq_true, if_false, Bool.not_false, if_true]
    rw [semHp_bind', hlen, semHp_pure]
    split at h
    · rename_i hc
      rw [if_pos hc, semHp_bind']
      refine hnew H _ rfl ?_
      cases base with
      | none => exact h
      | some a =>
        simp only [] at h ⊢
        rw [semHp_bind']
        exact semHp_mono _ _ _ _ (fun _ _ h => h) (hp_stores (P := P) _ _ _ _ h)
    · rename_i hc
      obtain ⟨old, ho, hb0, hb, hk⟩ := h
      rw [if_neg hc]
      obtain ⟨i, hi1, hi2, hi3, hi4, hi5, hi6⟩ := tab_spec h3
      have hns : Builtin.nextslicecap (sLen + n) sCap * tt.bytes ≤ 2 ^ 48 :=
        Nat.le_trans (Nat.mul_le_mul_right _ (nextslicecap_le _ _ (by omega))) hb
      rw [semHp_bind', hp_typeInfo hi1, hi5]
      have hne : ¬ (((sLen + n : Nat) : Int) > IntKind.i64.max ∧ (False ∨ tt.bytes = 0)) := by
        rintro ⟨_, h | h⟩
        · exact h
        · omega
      rw [if_neg hne, semHp_bind', hp_typeInfo hi1, hi5, if_neg (by omega), semHp_bind']
      show semHp P (choose _) H _
      unfold Go.choose semHp
      rw [if_neg (by simp [Question.forced])]
      intro tp
      show semHp P (Sem.pure _) H _
      unfold semHp
      generalize hcap : Question.cut (.appendCap (sLen + n) sCap e) tp = c
      have hc1 : sLen + n ≤ c ∧ (c < 2 ^ 63 ∨ sLen + n ≥ 2 ^ 63) := by
        rw [← hcap]
        unfold Question.cut
        simp only []
        refine ⟨by omega, ?_⟩
        by_cases hbig : sLen + n < 2 ^ 63
        · left
          have := Nat.mod_lt tp (show 2 ^ 63 - (sLen + n) > 0 by omega)
          omega
        · right; omega
      have hc2 : c < 2 ^ 63 := by
        rcases hc1.2 with h | h
        · exact h
        · exfalso
          have : 2 * (sLen + n) * 1 ≤ 2 * (sLen + n) * tt.bytes := Nat.mul_le_mul_left _ hb0
          omega
      have hold : ∀ K' : Array Value → Heap → Prop, K' old.toArray H → semHp P (Builtin.firstCells sz sLen (.slice base sLen sCap)) H K' := by
        intro K' hk'
        cases base with
        | none =>
          simp only [] at ho
          subst ho
          exact hk'
        | some a =>
          simp only [] at ho
          unfold Builtin.firstCells loadCells
          exact hp_loadCells _ 0 old [] K' ho (by simpa using hk')
      rw [semHp_bind', hp_typeInfo hi1, semHp_bind']
      have hroom : ∀ (b : Nat) (K' : Unit → Heap → Prop), K' () H → semHp P (askRoom b) H K' := by
        intro b K' h
        unfold askRoom
        split
        · exact h
        · exact h
      refine hroom _ _ ?_
      rw [semHp_bind']
      refine hold _ ?_
      rw [semHp_bind']
      refine hnew H _ rfl ?_
      rw [semHp_bind', hp_zeroValue h3, semHp_bind', hp_newRow, semHp_pure]
      have := hk c hc1.1 hc2
      rw [zeroCells_eq]
      simpa using this
  · exact h.elim
theorem hp_makeSlice {t : TypeId} {l c : Value} {H : Heap} {K : Value → Heap → Prop} {e : TypeId} {sz : Nat} (he : elems P t = some (none, e, sz)) {tc : TL} (hl : tl P e = some tc)
    (h : intX l fun _ l => intX c fun _ c => 0 ≤ l ∧ l ≤ c ∧ 0 < tc.bytes ∧ c.toNat * tc.bytes ≤ 281474976710656 ∧
            K (.slice (some ⟨H.size, 0, none⟩) l.toNat c.toNat) (H.push (.cells (repL c.toNat tc.zero.cells.toList).toArray e))) : semHp P (Instr.makeSlice t l c) H K := by
  obtain ⟨ti, te, h2, ht, h4, h5⟩ := elems_spec he
  have htl : tl P e = some ⟨kindD te.desc, te.size, te.bytes, te.zero⟩ := by unfold tl; rw [ht]; rfl
  rw [htl] at hl
  obtain rfl := Option.some.inj hl
  simp only [] at *
  obtain ⟨i, hi1, hi2, hi3, hi4, hi5, hi6⟩ := tab_spec ht
  unfold intX at h
  split at h
  · rename_i kl l
    split at h
    · rename_i kc c
      obtain ⟨h0, h1, hb0, hbn, hk⟩ := h
      have hb : c * (te.bytes : Int) ≤ 2 ^ 48 := by
        have e : c = (c.toNat : Int) := by omega
        rw [e, ← Int.natCast_mul]
        omega
      unfold Instr.makeSlice
      rw [semHp_bind', hp_underlying h2, h5]
      simp only [descOf]
      have hl : ∀ (k : IntKind) (n : Int) (K' : Int → Heap → Prop), K' n H → semHp P (asInt (.int k n)) H K' := fun _ _ _ h => h
      rw [semHp_bind']
      refine hl _ _ _ ?_
      rw [semHp_bind']
      refine hl _ _ _ ?_
      rw [semHp_bind', hp_typeInfo hi1, hi5]
      have hc48 : c ≤ 2 ^ 48 := by
        have h7 : c * 1 ≤ c * (te.bytes : Int) := Int.mul_le_mul_of_nonneg_left (by omega) (by omega)
        omega
      have wl : IntKind.i64.wrap l = l := wrap_i64 (by omega) (by omega)
      have wc : IntKind.i64.wrap c = c := wrap_i64 (by omega) (by omega)
      simp only [wl, wc]
      have hneg : ¬ (decide (c < 0) || decide ((te.bytes : Int) * c > 2 ^ 48) || decide (l < 0) || decide (l > c)) = true := by
        simp only [Bool.or_eq_true, decide_eq_true_eq]
        have : (te.bytes : Int) * c = c * te.bytes := Int.mul_comm _ _
        omega
      rw [if_neg hneg]
      have hroom : ∀ (b : Nat) (K' : Unit → Heap → Prop), K' () H → semHp P (askRoom b) H K' := by
        intro b K' h
        unfold askRoom
        split
        · exact h
        · exact h
      rw [semHp_bind']
      refine hroom _ _ ?_
      rw [semHp_bind', hp_sizeOf ht]
      have hfin : ∀ z : Array Value, (c.toNat * te.size = 0 ∨ z = te.zero.cells) → ((Array.range (c.toNat * te.size)).map (z[· % z.size]!)) = (repL c.toNat te.zero.cells.toList).toArray := by
        rintro z (h0 | rfl)
        · have : (repL c.toNat te.zero.cells.toList).length = 0 := by rw [repL_length, Array.length_toList, hi6, h0]
          rw [h0, List.length_eq_zero_iff.1 this]
          simp
        · rw [← hi6, zeros_eq]
      split
      · rename_i h0
        rw [semHp_bind', semHp_pure, semHp_bind', hp_newRow, semHp_pure]
        rw [hfin #[] (.inl h0)]
        exact hk
      · rw [semHp_bind', hp_zeroValue ht, semHp_bind', semHp_pure, semHp_bind', hp_newRow, semHp_pure]
        rw [hfin te.zero.cells (.inr rfl)]
        exact hk
    · exact h.elim
  · exact h.elim
theorem hp_buildSlice {t : TypeId} {n : Nat} {parts : Array (Nat × Value)} {H : Heap} {K : Value → Heap → Prop} {e : TypeId} {sz : Nat} (he : elems P t = some (none, e, sz)) {tc : TL} (hl : tl P e = some tc)
    (hn : n * sz ≤ 2 ^ 24) {cs : List Value} (hf : fillX (fun i => some (i * sz, sz)) (repL n tc.zero.cells.toList) parts.toList = some cs)
    (h : K (.slice (some ⟨H.size, 0, none⟩) n n) (H.push (.cells cs.toArray e))) : semHp P (Instr.buildSlice t n parts) H K := by
  obtain ⟨ti, te, h2, ht, h4, h5⟩ := elems_spec he
  have htl : tl P e = some ⟨kindD te.desc, te.size, te.bytes, te.zero⟩ := by unfold tl; rw [ht]; rfl
  rw [htl] at hl
  obtain rfl := Option.some.inj hl
  simp only [] at *
  obtain ⟨i, hi1, hi2, hi3, hi4, hi5, hi6⟩ := tab_spec ht
  unfold Instr.buildSlice
  rw [semHp_bind', hp_underlying h2, h5]
  simp only [descOf]
  rw [semHp_bind', hp_sizeOf ht, h4, if_neg (by omega)]
  have hfin : ∀ z : Array Value, (n * sz = 0 ∨ z = te.zero.cells) → Instr.fill (fun i => some (i * sz, sz)) ((Array.range (n * sz)).map (z[· % z.size]!)) parts.toList = some cs.toArray := by
    intro z hz
    have : ((Array.range (n * sz)).map (z[· % z.size]!)) = (repL n te.zero.cells.toList).toArray := by
      rcases hz with h0 | rfl
      · have : (repL n te.zero.cells.toList).length = 0 := by rw [repL_length, Array.length_toList, hi6, h4, h0]
        rw [h0, List.length_eq_zero_iff.1 this]
        simp
      · rw [← zeros_eq, hi6, h4]
    rw [this, fill_eq, hf]
    rfl
  split
  · rename_i h0
    rw [semHp_bind', semHp_pure, hfin #[] (.inl h0)]
    simp only []
    rw [semHp_bind', hp_newRow, semHp_pure]
    exact h
  · rw [semHp_bind', hp_zeroValue ht, semHp_bind', semHp_pure, hfin te.zero.cells (.inr rfl)]
    simp only []
    rw [semHp_bind', hp_newRow, semHp_pure]
    exact h
theorem ptrX_spec {v : Value} {K : Addr → Prop} (h : ptrX v K) : ∃ a, v = .pointer (some a) ∧ K a := by
  unfold ptrX at h
  split at h
  · obtain ⟨a, rfl, h⟩ := h
    exact ⟨a, rfl, h⟩
  · exact h.elim
theorem opX_run {o : Oper} {ρ : Operand → Value} {w : World} {K : Value → Heap → Prop} (h : opX P o ρ w.heap K) : Runs P o ρ w K := by
  unfold opX at h
  split at h
  · exact runs_of_rd h
  · rename_i hrd
    clear hrd
    refine runs_of_hp ?_
    obtain ⟨dst, op, type, pos, after, guard⟩ := o
    cases op <;> simp only [] at h <;> try (exact h)
    case alloc t =>
      split at h
      · rename_i ti hl
        obtain ⟨tt, ht, _, _, _, hz⟩ := tl_spec hl
        refine hp_val ?_
        unfold Instr.alloc
        rw [semHp_bind', hp_zeroValue ht, hz]
        exact h
      · exact h.elim
    case build t parts =>
      refine hp_val (hp_build ?_)
      rw [Array.toList_map]
      exact h
    case buildSlice t n parts =>
      split at h
      · rename_i e sz he
        split at h
        · rename_i te hte
          obtain ⟨hn, h⟩ := h
          split at h
          · rename_i cs hcs
            exact hp_val (hp_buildSlice he hte hn (by rw [Array.toList_map]; exact hcs) h)
          · exact h.elim
        · exact h.elim
      · exact h.elim
    case store t x y =>
      obtain ⟨a, ha, h⟩ := ptrX_spec h
      split at h
      · rename_i ti ht
        show semHp P (Instr.storeAt t (ρ x) (ρ y) >>= fun _ => Pure.pure Next.skip) w.heap _
        rw [ha, semHp_bind']
        exact semHp_mono _ _ _ _ (fun _ _ h => h) (hp_storeVar ht h.1 h.2)
      · exact h.elim
    case makeMap t r =>
      cases r with
      | none => exact hp_val (K := K) (by exact h)
      | some r => exact h
    case makeSlice t l c =>
      split at h
      · rename_i e sz he
        split at h
        · rename_i te hte
          exact hp_val (hp_makeSlice he hte h)
        · exact h.elim
      · exact h.elim
    case call c =>
      obtain ⟨callee, args, argTypes⟩ := c
      split at h
      · rename_i f hf
        simp only [] at hf h
        subst hf
        unfold callX at h
        split at h
        · rename_i f' first captured hfv
          show semHp P (resolve ρ _ type >>= fun d => invoke d.target d.args) w.heap _
          unfold resolve
          rw [semHp_bind']
          simp only [hfv, Deferred.ofValue]
          rw [semHp_pure]
          exact hp_callFunc h
        · rename_i l first captured hfv
          show semHp P (resolve ρ _ type >>= fun d => invoke d.target d.args) w.heap _
          unfold resolve
          rw [semHp_bind']
          simp only [hfv, Deferred.ofValue]
          rw [semHp_pure]
          exact h
        · exact h.elim
      · rename_i hf
        simp only [] at hf
        subst hf
        split at h
        · rename_i s x t t' ha ht
          obtain rfl : args = #[s, x] := Array.ext' ha
          obtain rfl : argTypes = #[t, t'] := Array.ext' ht
          obtain ⟨rfl, h⟩ := h
          show semHp P (resolve ρ _ type >>= fun d => invoke d.target d.args) w.heap _
          unfold resolve
          rw [semHp_bind']
          simp only []
          rw [semHp_pure]
          have e : Array.map ρ #[s, x] = #[ρ s, ρ x] := by simp
          show semHp P (do pure (.value (← Builtin.append_ #[t, t] type (Array.map ρ #[s, x]))) : Sem Next) _ _
          rw [e]
          exact hp_val (hp_append h)
        · exact h.elim
      · exact h
end
end Go.Hp
