/-
  Operations over a heap: their meaning is sound for the model's own.
-/
import Derived.Test.YtafehbegoanajaaHpD
namespace Go.Hp
open Go
set_option linter.unusedVariables false
set_option linter.unusedSimpArgs false

theorem wrap_i64 {n : Int} (h0 : -9223372036854775808 ≤ n) (h1 : n ≤ 9223372036854775807) : IntKind.i64.wrap n = n := by
  have e : (2 : Int) ^ IntKind.i64.bits = 18446744073709551616 := by decide
  have e' : (2 : Int) ^ (IntKind.i64.bits - 1) = 9223372036854775808 := by decide
  have s : IntKind.i64.signed = true := rfl
  unfold IntKind.wrap
  rw [e, e', s]
  simp only [Bool.true_and]
  split <;> rename_i h <;> simp only [ge_iff_le, decide_eq_true_eq, Int.not_le] at h <;> omega
section
variable {P : Program}
theorem hp_stores {a : Addr} : ∀ (vs : List Value) (i : Nat) (H : Heap) (K : Heap → Prop), storesX a i vs H K → semHp P (storeCells a vs i) H (fun _ H' => K H')
  | [], _, _, _, h => h
  | v :: vs, i, H, K, h => by
    obtain ⟨h1, ⟨h2, h3⟩, h4⟩ := h
    show semHp P (store (a.add i) v >>= fun _ => storeCells a vs (i + 1)) H _
    rw [semHp_bind']
    exact ⟨h1, h2, h3, hp_stores vs (i + 1) _ _ h4⟩
theorem hp_storeVar {t : TypeId} {ti : TL} (hl : tl P t = some ti) {a : Addr} {v : Value} {H : Heap} {K : Heap → Prop} (hs : v.cells.size = ti.size) (h : storesX a 0 v.cells.toList H K) :
    semHp P (storeVar t a v) H (fun _ H' => K H') := by
  obtain ⟨tt, ht, _, hsz, _⟩ := tl_spec hl
  unfold storeVar
  rw [semHp_bind', hp_sizeOf ht]
  simp only [hs, hsz, ne_eq, not_true_eq_false, if_false]
  exact hp_stores _ _ _ _ h
theorem hp_newRow {e : TypeId} {cs : Array Value} {H : Heap} {K : Addr → Heap → Prop} : semHp P (newRow e cs) H K = K ⟨H.size, 0, none⟩ (H.push (.cells cs e)) := rfl
theorem hp_mapM_places : ∀ (fs : List Field) (l : List (Nat × Nat × Bool)) (H : Heap) (K : List (Nat × Nat) → Heap → Prop), layOf P fs = some l → K (l.map fun (o, n, _) => (o, n)) H →
    semHp P (fs.mapM fun f => do pure (f.offset, ← sizeOf f.type) : Sem (List (Nat × Nat))) H K
  | [], l, H, K, hl, h => by
    obtain rfl := Option.some.inj hl
    simpa [semHp_pure] using h
  | f :: fs, l, H, K, hl, h => by
    unfold layOf at hl
    split at hl
    · rename_i tf l' ht hl'
      obtain rfl := Option.some.inj hl
      rw [List.mapM_cons, semHp_bind', semHp_bind', hp_sizeOf ht, semHp_pure, semHp_bind']
      exact hp_mapM_places fs l' H _ hl' (by rw [semHp_pure]; exact h)
    · cases hl
theorem putL_length : ∀ (l : List Value) (n : Nat) (vs : List Value), (putL l n vs).length = l.length
  | [], 0, [] => rfl
  | _ :: _, 0, [] => rfl
  | _ :: l, 0, v :: vs => by simp [putL, putL_length l 0 vs]
  | x :: l, n + 1, vs => by simp [putL, putL_length l n vs]
  | [], 0, _ :: _ => rfl
  | [], _ + 1, _ => by simp [putL]
theorem putL_nil : ∀ (l : List Value) (n : Nat), putL l n [] = l
  | [], 0 => rfl
  | _ :: _, 0 => rfl
  | [], n + 1 => rfl
  | x :: l, n + 1 => by simp [putL, putL_nil l n]
theorem putL_cons : ∀ (l : List Value) (n : Nat) (v : Value) (vs : List Value), putL l n (v :: vs) = putL (l.set n v) (n + 1) vs
  | [], 0, v, vs => by simp [putL]
  | [], n + 1, v, vs => by simp [putL]
  | x :: l, 0, v, vs => by simp [putL]
  | x :: l, n + 1, v, vs => by simp only [putL, List.set_cons_succ]; rw [putL_cons l n v vs]
theorem foldl_put (off : Nat) : ∀ (vs : List Value) (i : Nat) (cs : Array Value),
    ((vs.zipIdx i).foldl (fun cs (c, j) => cs.setIfInBounds (off + j) c) cs).toList = putL cs.toList (off + i) vs
  | [], i, cs => by simp [putL_nil]
  | v :: vs, i, cs => by
    simp only [List.zipIdx_cons, List.foldl_cons]
    rw [foldl_put off vs (i + 1) _, Array.toList_setIfInBounds, putL_cons]
    rfl
theorem fill_eq (lay : Nat → Option (Nat × Nat)) : ∀ (parts : List (Nat × Value)) (cs : Array Value), Instr.fill lay cs parts = (fillX lay cs.toList parts).map List.toArray
  | [], cs => by simp [Instr.fill, fillX]
  | (i, v) :: rest, cs => by
    unfold Instr.fill fillX
    cases lay i with
    | none => rfl
    | some p =>
      obtain ⟨off, n⟩ := p
      simp only [Array.length_toList]
      by_cases hc : v.cells.size = n ∧ off + n ≤ cs.size
      · have hc' : ¬ (v.cells.size ≠ n ∨ off + v.cells.size > cs.size) := by omega
        rw [if_pos hc]
        rw [if_neg (by simpa using hc')]
        rw [fill_eq lay rest]
        congr 1
        have := foldl_put off v.cells.toList 0 cs
        rw [← Array.foldl_toList, Array.toList_zipIdx]
        rw [this]
        rfl
      · rw [if_neg hc]
        have hc' : (v.cells.size ≠ n ∨ off + v.cells.size > cs.size) := by omega
        rw [if_pos (by simpa using hc')]
        rfl
theorem flay_spec {s : TypeId} {l : List (Nat × Nat × Bool)} {ti : TI} {fs : Array Field} (ht : tab P s = some ti) (hd : ti.desc = .struct fs) (h : flay P s = some l) : layOf P fs.toList = some l := by
  unfold flay at h
  simpa [ht, hd] using h
theorem hp_build {t : TypeId} {parts : Array (Nat × Value)} {H : Heap} {K : Value → Heap → Prop} (h : buildX P t parts.toList fun v => K v H) : semHp P (Instr.build t parts) H K := by
  unfold buildX at h
  split at h
  · rename_i ti hl
    obtain ⟨tt, ht, hk, hs, hb, hz⟩ := tl_spec hl
    unfold Instr.build
    rw [semHp_bind', hp_zeroValue ht, semHp_bind', hp_underlying ht]
    split at h
    · rename_i hkk
      rw [hkk] at hk
      obtain ⟨fs, hd⟩ : ∃ fs, tt.desc = .struct fs := by cases hd : tt.desc <;> rw [hd] at hk <;> simp [kindD] at hk; exact ⟨_, rfl⟩
      simp only [hd]
      split at h
      · rename_i l hl
        have hlay := flay_spec ht hd hl
        split at h
        · rename_i cs hcs
          rw [semHp_bind']
          have hm : (fs.mapM fun f => do pure (f.offset, ← sizeOf f.type) : Sem (Array (Nat × Nat))) = (do let l ← (fs.toList.mapM fun f => do pure (f.offset, ← sizeOf f.type) : Sem (List (Nat × Nat))); pure l.toArray) := by
            rw [Array.mapM_eq_mapM_toList]
            simp
          rw [hm, semHp_bind']
          refine hp_mapM_places _ l H _ hlay ?_
          rw [semHp_pure]
          have : Instr.fill ((l.map fun (o, n, _) => (o, n)).toArray[·]?) tt.zero.cells parts.toList = some cs.toArray := by
            rw [fill_eq, hz]
            have e : (fun i : Nat => (l.map fun ((o, n, _) : Nat × Nat × Bool) => (o, n)).toArray[i]?) = fun i : Nat => (l[i]?).map fun (o, n, _) => (o, n) := by funext i; simp
            rw [e, hcs]; rfl
          rw [this]
          exact h
        · exact h.elim
      · exact h.elim
    · rename_i hkk
      rw [hkk] at hk
      obtain ⟨n, e, hd⟩ : ∃ n e, tt.desc = .array n e := by cases hd : tt.desc <;> rw [hd] at hk <;> simp [kindD] at hk; exact ⟨_, _, rfl⟩
      simp only [hd]
      split at h
      · rename_i m e' sz he
        obtain ⟨ti', te, h2, h3, h4, h5⟩ := elems_spec he
        rw [ht] at h2
        obtain rfl := Option.some.inj h2
        have : e' = e := by
          rw [hd] at h5
          cases m <;> simp [descOf] at h5
          exact h5.2.symm
        subst this
        split at h
        · rename_i cs hcs
          rw [semHp_bind', hp_sizeOf h3, h4]
          have : Instr.fill (fun i => some (i * sz, sz)) tt.zero.cells parts.toList = some cs.toArray := by
            rw [fill_eq, hz, hcs]; rfl
          rw [this]
          exact h
        · exact h.elim
      · exact h.elim
    · exact h.elim
  · exact h.elim
theorem repL_length (z : List Value) : ∀ n, (repL n z).length = n * z.length
  | 0 => by simp [repL]
  | n + 1 => by simp [repL, repL_length z n, Nat.succ_mul, Nat.add_comm]
theorem repL_getElem (z : List Value) : ∀ (n i : Nat), i < n * z.length → (repL n z)[i]? = z[i % z.length]?
  | 0, i, h => absurd h (by simp)
  | n + 1, i, h => by
    unfold repL
    by_cases hi : i < z.length
    · rw [List.getElem?_append_left hi, Nat.mod_eq_of_lt hi]
    · rw [List.getElem?_append_right (by omega), repL_getElem z n (i - z.length) (by rw [Nat.succ_mul] at h; omega)]
      congr 1
      rw [← Nat.sub_add_cancel (Nat.le_of_not_lt hi)]
      simp
theorem zeros_eq (z : Array Value) (n : Nat) : ((Array.range (n * z.size)).map (z[· % z.size]!)) = (repL n z.toList).toArray := by
  apply Array.ext
  · simp [repL_length]
  · intro i h1 h2
    have hi : i < n * z.toList.length := by simpa using h1
    have hz : i % z.size < z.size := Nat.mod_lt _ (by
      rcases Nat.eq_zero_or_pos z.size with h0 | h0
      · rw [Array.length_toList, h0] at hi; simp at hi
      · exact h0)
    have h3 := repL_getElem z.toList n i hi
    have h4 : (repL n z.toList)[i]? = some ((repL n z.toList)[i]'(by simpa using h2)) := List.getElem?_eq_getElem _
    rw [Array.length_toList] at h3
    rw [h4] at h3
    simp only [Array.getElem_map, Array.getElem_range, List.getElem_toArray]
    have h5 : z.toList[i % z.size]? = some (z[i % z.size]) := by simp [hz]
    rw [h5] at h3
    rw [Option.some.inj h3]
    simp [hz]
theorem zeroCells_eq (z : Array Value) (n : Nat) : Builtin.zeroCells z n = (repL n z.toList).toArray := by
  unfold Builtin.zeroCells
  rw [← zeros_eq]
theorem hp_loadCells {H : Heap} {a : Addr} : ∀ (n i : Nat) (vs acc : List Value) (K : Array Value → Heap → Prop), readL H a i n = some vs → K (acc ++ vs).toArray H →
    semHp P (loadCellsFrom a i n acc.toArray) H K
  | 0, i, vs, acc, K, hr, h => by
    obtain rfl := Option.some.inj hr
    simpa [loadCellsFrom, semHp_pure] using h
  | n + 1, i, vs, acc, K, hr, h => by
    unfold readL at hr
    split at hr
    · rename_i v vs' hv hvs
      obtain rfl := Option.some.inj hr
      unfold loadCellsFrom
      rw [semHp_bind']
      refine ⟨v, hv, ?_⟩
      have := hp_loadCells n (i + 1) vs' (acc ++ [v]) K hvs (by simpa using h)
      show semHp P (loadCellsFrom a (i + 1) n (acc.toArray.push v)) H K
      simpa using this
    · cases hr
theorem nextslicecap_le (need cap : Nat) (h : cap < need) : Builtin.nextslicecap need cap ≤ 2 * need := by
  have grow : ∀ (r c : Nat), 256 ≤ need → c ≤ 2 * need → Builtin.growBy need r c ≤ 2 * need := by
    intro r
    induction r with
    | zero => intro c _ hc; exact hc
    | succ r ih =>
      intro c hn hc
      unfold Builtin.growBy
      split
      · exact hc
      · exact ih _ hn (by omega)
  unfold Builtin.nextslicecap
  split
  · omega
  · split
    · omega
    · exact grow 4 cap (by omega) (by omega)
end
end Go.Hp
