/-
  A side of a script: one thing of the program's, one of the document's, the lists that came out and what they were; all apart.
-/
import Derived.Test.YtoplhfhjokjbiaaHpX
namespace Go.Sd
open Go Go.Hp
set_option linter.unusedVariables false
abbrev I : Int → Value := Value.int .i64
/-- New blocks are of part k. -/
def extC (col : Nat → Nat) (n n' k : Nat) (b : Nat) : Nat := if b < n then col b else if b < n' then k else 0
/-- What a call did: it changed nothing but its own, and what is its own is old or new. -/
structure Nx (col col' : Nat → Nat) (H H' : Heap) : Prop where
  fr : Fr (fun b => col b ≠ 0) H H'
  own : ∀ b, col' b ≠ 0 → col b ≠ 0 ∨ H.size ≤ b
theorem Nx.refl (col : Nat → Nat) (H : Heap) : Nx col col H H := ⟨Fr.refl _ _, fun b h => .inl h⟩
theorem Nx.trans {c c' c'' : Nat → Nat} {H H' H'' : Heap} (h : Nx c c' H H') (k : Nx c' c'' H' H'') : Nx c c'' H H'' := by
  have hs := h.fr.size
  refine ⟨h.fr.trans' k.fr fun b hb e => ?_, fun b hb => ?_⟩
  · rcases h.own b e with h' | h'
    · exact h'
    · omega
  · rcases k.own b hb with h' | h'
    · exact h.own b h'
    · right; omega
theorem Nx.same {col : Nat → Nat} {H H' : Heap} {S : Nat → Prop} (hf : Fr S H H') (hS : ∀ b, S b → col b ≠ 0) : Nx col col H H' :=
  ⟨hf.mono fun b _ => hS b, fun b hb => .inl hb⟩
theorem extC_old {col : Nat → Nat} {n n' k b : Nat} (h : b < n) : extC col n n' k b = col b := if_pos h
theorem extC_new {col : Nat → Nat} {n n' k b : Nat} (h : n ≤ b) (h' : b < n') : extC col n n' k b = k := by unfold extC; rw [if_neg (by omega), if_pos h']
theorem extC_lt {col : Nat → Nat} {n n' k b : Nat} (hn : n ≤ n') (h : extC col n n' k b ≠ 0) : b < n' := by
  unfold extC at h
  by_cases h1 : b < n
  · omega
  · rw [if_neg h1] at h
    by_cases h2 : b < n'
    · exact h2
    · rw [if_neg h2] at h; exact absurd rfl h
theorem Nx.ext {col : Nat → Nat} {H H' : Heap} {S : Nat → Prop} {k : Nat} (hf : Fr S H H') (hS : ∀ b, S b → col b ≠ 0) : Nx col (extC col H.size H'.size k) H H' := by
  refine ⟨hf.mono fun b _ => hS b, fun b hb => ?_⟩
  unfold extC at hb
  by_cases h : b < H.size
  · rw [if_pos h] at hb; exact .inl hb
  · right; omega
/-- A part: it stays where nothing of it is changed; its blocks are there. -/
structure Part (F : Heap → (Nat → Prop) → Prop) : Prop where
  frame : ∀ {S : Nat → Prop} {H H' : Heap} {T : Nat → Prop}, F H T → Fr S H H' → (∀ b, T b → ¬ S b) → F H' T
  lt : ∀ {H : Heap} {T : Nat → Prop}, F H T → ∀ b, T b → b < H.size
structure SdG (F D : Heap → (Nat → Prop) → Prop) (H : Heap) (s f x : Nat) (col : Nat → Nat) (L L' : List (List Int)) (T TX TA : Nat → Prop) (va : Value) (TW : Nat → Prop) (vw : Value) : Prop where
  b : Blk H s [.pointer (some ⟨f, 0, none⟩), .pointer (some ⟨x, 0, none⟩), va, vw]
  fo : F H T
  dc : D H TX
  la : LL I H TA va L
  lw : LL I H TW vw L'
  cs : col s = 1
  cf : ∀ b, T b → col b = 2
  cd : ∀ b, TX b → col b = 3
  ca : ∀ b, TA b → col b = 4
  cw : ∀ b, TW b → col b = 5
  lt : ∀ b, col b ≠ 0 → b < H.size
section
variable {F D F' D' : Heap → (Nat → Prop) → Prop} {H H1 : Heap} {s f x : Nat} {col : Nat → Nat} {L L' : List (List Int)} {T TX TA TW : Nat → Prop} {va vw : Value}
theorem SdG.old (h : SdG F D H s f x col L L' T TX TA va TW vw) {b n' k j : Nat} (hj : col b = j) (h0 : j ≠ 0) : extC col H.size n' k b = j := by
  rw [extC_old (h.lt b (by rw [hj]; exact h0)), hj]
theorem SdG.grow (PF : Part F) (PD : Part D) {H' : Heap} {Q : Nat → Prop} (h : SdG F D H s f x col L L' T TX TA va TW vw) (hf : Fr Q H H') (hS : ∀ b, col b ≠ 0 → ¬ Q b) : SdG F D H' s f x col L L' T TX TA va TW vw where
  b := h.b.frame hf (hS s (by rw [h.cs]; decide))
  fo := PF.frame h.fo hf fun b hb => hS b (by rw [h.cf b hb]; decide)
  dc := PD.frame h.dc hf fun b hb => hS b (by rw [h.cd b hb]; decide)
  la := h.la.frame hf fun b hb => hS b (by rw [h.ca b hb]; decide)
  lw := h.lw.frame hf fun b hb => hS b (by rw [h.cw b hb]; decide)
  cs := h.cs
  cf := h.cf
  cd := h.cd
  ca := h.ca
  cw := h.cw
  lt := fun b hb => Nat.lt_of_lt_of_le (h.lt b hb) hf.size
/-- The program's thing is changed. -/
theorem SdG.setF (PF : Part F') (PD : Part D) {H' : Heap} {T' : Nat → Prop} (h : SdG F D H s f x col L L' T TX TA va TW vw) (hf : Fr T H H') (ho : F' H' T') (hT : ∀ b, T' b → T b ∨ H.size ≤ b) :
    SdG F' D H' s f x (extC col H.size H'.size 2) L L' T' TX TA va TW vw ∧ Nx col (extC col H.size H'.size 2) H H' := by
  have hne : ∀ b, col b ≠ 2 → ¬ T b := fun b hb e => hb (h.cf b e)
  refine ⟨⟨h.b.frame hf (hne _ (by rw [h.cs]; decide)), ho, PD.frame h.dc hf fun b hb => hne b (by rw [h.cd b hb]; decide), h.la.frame hf fun b hb => hne b (by rw [h.ca b hb]; decide), h.lw.frame hf fun b hb => hne b (by rw [h.cw b hb]; decide),
    h.old h.cs (by decide), fun b hb => ?_, fun b hb => h.old (h.cd b hb) (by decide), fun b hb => h.old (h.ca b hb) (by decide), fun b hb => h.old (h.cw b hb) (by decide), fun b hb => extC_lt hf.size hb⟩, Nx.ext hf fun b hb => by rw [h.cf b hb]; decide⟩
  rcases hT b hb with h' | h'
  · exact h.old (h.cf b h') (by decide)
  · exact extC_new h' (PF.lt ho b hb)
/-- The program's thing is asked: its blocks stay. -/
theorem SdG.keepF (PD : Part D) {H' : Heap} (h : SdG F D H s f x col L L' T TX TA va TW vw) (hf : Fr T H H') (ho : F' H' T) : SdG F' D H' s f x col L L' T TX TA va TW vw ∧ Nx col col H H' := by
  have hne : ∀ b, col b ≠ 2 → ¬ T b := fun b hb e => hb (h.cf b e)
  exact ⟨⟨h.b.frame hf (hne _ (by rw [h.cs]; decide)), ho, PD.frame h.dc hf fun b hb => hne b (by rw [h.cd b hb]; decide), h.la.frame hf fun b hb => hne b (by rw [h.ca b hb]; decide), h.lw.frame hf fun b hb => hne b (by rw [h.cw b hb]; decide),
    h.cs, h.cf, h.cd, h.ca, h.cw, fun b hb => Nat.lt_of_lt_of_le (h.lt b hb) hf.size⟩, Nx.same hf fun b hb => by rw [h.cf b hb]; decide⟩
/-- The document's thing is changed. -/
theorem SdG.setD (PF : Part F) (PD : Part D') {H' : Heap} {TX' : Nat → Prop} (h : SdG F D H s f x col L L' T TX TA va TW vw) (hf : Fr TX H H') (ho : D' H' TX') (hT : ∀ b, TX' b → TX b ∨ H.size ≤ b) :
    SdG F D' H' s f x (extC col H.size H'.size 3) L L' T TX' TA va TW vw ∧ Nx col (extC col H.size H'.size 3) H H' := by
  have hne : ∀ b, col b ≠ 3 → ¬ TX b := fun b hb e => hb (h.cd b e)
  refine ⟨⟨h.b.frame hf (hne _ (by rw [h.cs]; decide)), PF.frame h.fo hf fun b hb => hne b (by rw [h.cf b hb]; decide), ho, h.la.frame hf fun b hb => hne b (by rw [h.ca b hb]; decide), h.lw.frame hf fun b hb => hne b (by rw [h.cw b hb]; decide),
    h.old h.cs (by decide), fun b hb => h.old (h.cf b hb) (by decide), fun b hb => ?_, fun b hb => h.old (h.ca b hb) (by decide), fun b hb => h.old (h.cw b hb) (by decide), fun b hb => extC_lt hf.size hb⟩, Nx.ext hf fun b hb => by rw [h.cd b hb]; decide⟩
  rcases hT b hb with h' | h'
  · exact h.old (h.cd b h') (by decide)
  · exact extC_new h' (PD.lt ho b hb)
/-- New blocks of part k, and one that was nobody's. -/
def adC (col : Nat → Nat) (n n' k : Nat) (B : Option Nat) (b : Nat) : Nat := if B = some b then k else extC col n n' k b
theorem adC_old (h : SdG F D H s f x col L L' T TX TA va TW vw) {B : Option Nat} {n' k b j : Nat} (hB : ∀ b, B = some b → col b = 0) (hj : col b = j) (h0 : j ≠ 0) : adC col H.size n' k B b = j := by
  unfold adC
  rw [if_neg fun e => h0 (by rw [← hj]; exact hB b e), h.old hj h0]
theorem SdG.appA {P : Program} {t e : TypeId} {te : TL} {d : Nat} {B : Option Nat} {v : Value} {xs : List Int} {K : Value → Heap → Prop} (PF : Part F) (PD : Part D) (he : elems P t = some (none, e, 1)) (ht : tl P e = some te)
    (h : SdG F D H s f x col L L' T TX TA va TW vw) (hv : OR I H B v xs) (hB : ∀ b, B = some b → col b = 0) (hH : H1 = H.push (.cells #[v] e)) (hb0 : 0 < te.bytes) (hb : 2 * (L.length + 1) * te.bytes ≤ 2 ^ 48) (hz : te.zero.cells.size = 1)
    (hk : ∀ v' H' col' TA', okW H' ⟨s, 2, none⟩ → SdG F D (hset H' ⟨s, 2, none⟩ v') s f x col' (L ++ [xs]) L' T TX TA' v' TW vw → Fr (fun b => TA b ∨ b = s) H (hset H' ⟨s, 2, none⟩ v') →
      (∀ b, b < H.size → B ≠ some b → col' b = col b) → (∀ b, B = some b → col' b = 4) → (∀ b, col' b ≠ 0 → col b ≠ 0 ∨ B = some b ∨ H.size ≤ b) → K v' H') : appendX P t va (.slice (some ⟨H.size, 0, none⟩) 1 d) H1 K := by
  refine append_ll he ht h.la hv (fun b hb' hx => by have := hB b hb'; rw [h.ca b hx] at this; cases this) hH hb0 hb hz ?_
  intro v' H' TA' hl hf hT
  have hbs := h.b.frame hf fun e => by have := h.ca s e; rw [h.cs] at this; cases this
  have hsz : (hset H' ⟨s, 2, none⟩ v').size = H'.size := hset_size ..
  have hf2 : Fr (fun b => TA b ∨ b = s) H (hset H' ⟨s, 2, none⟩ v') := Fr.set (S := fun b => TA b ∨ b = s) (a := ⟨s, 2, none⟩) (hf.mono fun b _ h => .inl h) (.inl (.inr rfl)) _
  have hne : ∀ b, col b ≠ 4 → col b ≠ 1 → ¬ (TA b ∨ b = s) := by
    rintro b h4 h1 (e | rfl)
    · exact h4 (h.ca b e)
    · exact h1 h.cs
  have old : ∀ {b j : Nat}, col b = j → j ≠ 0 → adC col H.size H'.size 4 B b = j := fun hj h0 => adC_old h hB hj h0
  have hBn : ∀ b, TA' b → adC col H.size H'.size 4 B b = 4 := fun b hb => by
    rcases hT b hb with e | e | e
    · exact old (h.ca b e) (by decide)
    · exact if_pos e
    · unfold adC
      split
      · rfl
      · exact extC_new e (hl.lt hb)
  have hcs := old h.cs (by decide)
  refine hk v' H' (adC col H.size H'.size 4 B) TA' (hbs.okW (by simp)) ⟨hbs.set_same 2 v', PF.frame h.fo hf2 fun b hb => hne b (by rw [h.cf b hb]; decide) (by rw [h.cf b hb]; decide), PD.frame h.dc hf2 fun b hb => hne b (by rw [h.cd b hb]; decide) (by rw [h.cd b hb]; decide),
    hl.frame (Fr.set (S := (· = s)) (a := ⟨s, 2, none⟩) (Fr.refl _ H') (.inl rfl) _) (fun b hb' e => ?_),
    h.lw.frame hf2 fun b hb => hne b (by rw [h.cw b hb]; decide) (by rw [h.cw b hb]; decide),
    hcs, fun b hb => old (h.cf b hb) (by decide), fun b hb => old (h.cd b hb) (by decide), hBn, fun b hb => old (h.cw b hb) (by decide), fun b hb => ?_⟩ hf2 (fun b hb hn => ?_) (fun b hb => if_pos hb) fun b hb => ?_
  · have := hBn b hb'
    rw [e, hcs] at this
    cases this
  · rw [hsz]
    unfold adC at hb
    by_cases e : B = some b
    · have := hv.lt e; have := hf.size; omega
    · rw [if_neg e] at hb; exact extC_lt hf.size hb
  · unfold adC; rw [if_neg hn, extC_old hb]
  · unfold adC at hb
    by_cases e : B = some b
    · exact .inr (.inl e)
    · rw [if_neg e] at hb
      unfold extC at hb
      by_cases h1 : b < H.size
      · rw [if_pos h1] at hb; exact .inl hb
      · exact .inr (.inr (by omega))
theorem SdG.appW {P : Program} {t e : TypeId} {te : TL} {d : Nat} {B : Option Nat} {v : Value} {xs : List Int} {K : Value → Heap → Prop} (PF : Part F) (PD : Part D) (he : elems P t = some (none, e, 1)) (ht : tl P e = some te)
    (h : SdG F D H s f x col L L' T TX TA va TW vw) (hv : OR I H B v xs) (hB : ∀ b, B = some b → col b = 0) (hH : H1 = H.push (.cells #[v] e)) (hb0 : 0 < te.bytes) (hb : 2 * (L'.length + 1) * te.bytes ≤ 2 ^ 48) (hz : te.zero.cells.size = 1)
    (hk : ∀ v' H' col' TW', okW H' ⟨s, 3, none⟩ → SdG F D (hset H' ⟨s, 3, none⟩ v') s f x col' L (L' ++ [xs]) T TX TA va TW' v' → Fr (fun b => TW b ∨ b = s) H (hset H' ⟨s, 3, none⟩ v') →
      (∀ b, b < H.size → B ≠ some b → col' b = col b) → (∀ b, B = some b → col' b = 5) → (∀ b, col' b ≠ 0 → col b ≠ 0 ∨ B = some b ∨ H.size ≤ b) → K v' H') : appendX P t vw (.slice (some ⟨H.size, 0, none⟩) 1 d) H1 K := by
  refine append_ll he ht h.lw hv (fun b hb' hx => by have := hB b hb'; rw [h.cw b hx] at this; cases this) hH hb0 hb hz ?_
  intro v' H' TW' hl hf hT
  have hbs := h.b.frame hf fun e => by have := h.cw s e; rw [h.cs] at this; cases this
  have hsz : (hset H' ⟨s, 3, none⟩ v').size = H'.size := hset_size ..
  have hf2 : Fr (fun b => TW b ∨ b = s) H (hset H' ⟨s, 3, none⟩ v') := Fr.set (S := fun b => TW b ∨ b = s) (a := ⟨s, 3, none⟩) (hf.mono fun b _ h => .inl h) (.inl (.inr rfl)) _
  have hne : ∀ b, col b ≠ 5 → col b ≠ 1 → ¬ (TW b ∨ b = s) := by
    rintro b h4 h1 (e | rfl)
    · exact h4 (h.cw b e)
    · exact h1 h.cs
  have old : ∀ {b j : Nat}, col b = j → j ≠ 0 → adC col H.size H'.size 5 B b = j := fun hj h0 => adC_old h hB hj h0
  have hBn : ∀ b, TW' b → adC col H.size H'.size 5 B b = 5 := fun b hb => by
    rcases hT b hb with e | e | e
    · exact old (h.cw b e) (by decide)
    · exact if_pos e
    · unfold adC
      split
      · rfl
      · exact extC_new e (hl.lt hb)
  have hcs := old h.cs (by decide)
  refine hk v' H' (adC col H.size H'.size 5 B) TW' (hbs.okW (by simp)) ⟨hbs.set_same 3 v', PF.frame h.fo hf2 fun b hb => hne b (by rw [h.cf b hb]; decide) (by rw [h.cf b hb]; decide), PD.frame h.dc hf2 fun b hb => hne b (by rw [h.cd b hb]; decide) (by rw [h.cd b hb]; decide),
    h.la.frame hf2 fun b hb => hne b (by rw [h.ca b hb]; decide) (by rw [h.ca b hb]; decide),
    hl.frame (Fr.set (S := (· = s)) (a := ⟨s, 3, none⟩) (Fr.refl _ H') (.inl rfl) _) (fun b hb' e => ?_),
    hcs, fun b hb => old (h.cf b hb) (by decide), fun b hb => old (h.cd b hb) (by decide), fun b hb => old (h.ca b hb) (by decide), hBn, fun b hb => ?_⟩ hf2 (fun b hb hn => ?_) (fun b hb => if_pos hb) fun b hb => ?_
  · have := hBn b hb'
    rw [e, hcs] at this
    cases this
  · rw [hsz]
    unfold adC at hb
    by_cases e : B = some b
    · have := hv.lt e; have := hf.size; omega
    · rw [if_neg e] at hb; exact extC_lt hf.size hb
  · unfold adC; rw [if_neg hn, extC_old hb]
  · unfold adC at hb
    by_cases e : B = some b
    · exact .inr (.inl e)
    · rw [if_neg e] at hb
      unfold extC at hb
      by_cases h1 : b < H.size
      · rw [if_pos h1] at hb; exact .inl hb
      · exact .inr (.inr (by omega))
end
/-- A side whose lists read as they did. -/
def SdS (M : Nat) (F D : Heap → (Nat → Prop) → Prop) (H : Heap) (s f x : Nat) (col : Nat → Nat) : Prop :=
  ∃ L T TX TA va TW vw, SdG F D H s f x col L L T TX TA va TW vw ∧ L.length ≤ 30 ∧ ∀ (j : Nat) xs, L[j]? = some xs → xs.length ≤ M
section
variable {M : Nat} {F D : Heap → (Nat → Prop) → Prop} {H H' : Heap} {s f x : Nat} {col : Nat → Nat}
theorem SdS.grow (PF : Part F) (PD : Part D) {Q : Nat → Prop} (h : SdS M F D H s f x col) (hf : Fr Q H H') (hS : ∀ b, col b ≠ 0 → ¬ Q b) : SdS M F D H' s f x col := by
  obtain ⟨L, T, TX, TA, va, TW, vw, P, h⟩ := h
  exact ⟨L, T, TX, TA, va, TW, vw, P.grow PF PD hf hS, h⟩
theorem SdS.lt (h : SdS M F D H s f x col) {b : Nat} (hb : col b ≠ 0) : b < H.size := by
  obtain ⟨L, T, TX, TA, va, TW, vw, P, h⟩ := h
  exact P.lt b hb
open Classical in
noncomputable def colP (s : Nat) (T TX : Nat → Prop) (b : Nat) : Nat := if b = s then 1 else if T b then 2 else if TX b then 3 else 0
theorem SdS.init {T TX : Nat → Prop} (PF : Part F) (PD : Part D) (hF : F H T) (hD : D H TX) (hb : Blk H s [.pointer (some ⟨f, 0, none⟩), .pointer (some ⟨x, 0, none⟩), .slice none 0 0, .slice none 0 0]) (h1 : ¬ T s) (h2 : ¬ TX s) (h3 : ∀ b, T b → ¬ TX b) :
    SdS M F D H s f x (colP s T TX) ∧ ∀ b, colP s T TX b ≠ 0 → b = s ∨ T b ∨ TX b := by
  have hc : ∀ b, colP s T TX b ≠ 0 → b = s ∨ T b ∨ TX b := by
    intro b h
    unfold colP at h
    by_cases e1 : b = s
    · exact .inl e1
    rw [if_neg e1] at h
    by_cases e2 : T b
    · exact .inr (.inl e2)
    rw [if_neg e2] at h
    by_cases e3 : TX b
    · exact .inr (.inr e3)
    rw [if_neg e3] at h
    exact absurd rfl h
  refine ⟨⟨[], T, TX, fun _ => False, _, fun _ => False, _, ⟨hb, hF, hD, LL.nil _ _, LL.nil _ _, if_pos rfl, fun b hT => ?_, fun b h => ?_, fun b h => h.elim, fun b h => h.elim, fun b h => ?_⟩, by simp, fun j xs h => (by cases h)⟩, hc⟩
  · unfold colP; rw [if_neg (fun e => h1 (by rw [← e]; exact hT)), if_pos hT]
  · unfold colP; rw [if_neg (fun e => h2 (by rw [← e]; exact h)), if_neg (fun e => h3 b e h), if_pos h]
  · rcases hc b h with rfl | h | h
    · exact hb.lt
    · exact PF.lt hF _ h
    · exact PD.lt hD _ h
end
/-- Two sides apart. -/
structure TwoG (G : Heap → Nat → (Nat → Nat) → Prop) (H0 H : Heap) (s t : Nat) (cs ct : Nat → Nat) : Prop where
  a : G H s cs
  b : G H t ct
  fr : Fr (fun _ => False) H0 H
  na : ∀ b, cs b ≠ 0 → H0.size ≤ b
  nb : ∀ b, ct b ≠ 0 → H0.size ≤ b
  ap : ∀ b, cs b ≠ 0 → ct b ≠ 0 → False
/-- What a side has that only its own bears upon. -/
structure Side (G : Heap → Nat → (Nat → Nat) → Prop) : Prop where
  grow : ∀ {H H' : Heap} {s : Nat} {c : Nat → Nat} {Q : Nat → Prop}, G H s c → Fr Q H H' → (∀ b, c b ≠ 0 → ¬ Q b) → G H' s c
  lt : ∀ {H : Heap} {s : Nat} {c : Nat → Nat} {b : Nat}, G H s c → c b ≠ 0 → b < H.size
section
variable {G : Heap → Nat → (Nat → Nat) → Prop} {H0 H H' : Heap} {s t : Nat} {cs ct c' : Nat → Nat}
theorem TwoG.opA (PG : Side G) (h : TwoG G H0 H s t cs ct) (hs : G H' s c') (n : Nx cs c' H H') : TwoG G H0 H' s t c' ct := by
  refine ⟨hs, PG.grow h.b n.fr fun b hb e => h.ap b e hb, h.fr.trans' n.fr fun b hb e => by have := h.na b e; omega, fun b hb => ?_, h.nb, fun b hb' hc => ?_⟩
  · rcases n.own b hb with e | e
    · exact h.na b e
    · exact Nat.le_trans h.fr.size e
  · rcases n.own b hb' with e | e
    · exact h.ap b e hc
    · have := PG.lt h.b hc; omega
theorem TwoG.opB (PG : Side G) (h : TwoG G H0 H s t cs ct) (hs : G H' t c') (n : Nx ct c' H H') : TwoG G H0 H' s t cs c' := by
  refine ⟨PG.grow h.a n.fr fun b hb e => h.ap b hb e, hs, h.fr.trans' n.fr fun b hb e => by have := h.nb b e; omega, h.na, fun b hb => ?_, fun b hb hc => ?_⟩
  · rcases n.own b hb with e | e
    · exact h.nb b e
    · exact Nat.le_trans h.fr.size e
  · rcases n.own b hc with e | e
    · exact h.ap b hb e
    · have := PG.lt h.a hb; omega
end
end Go.Sd
