/-
  Sets of 64 numbers as bits, in plain Lean: how many there are, the next one, all of them.
-/
import Derived.KernelRfl
namespace Go.Vs
open Go
set_option linter.unusedVariables false

/-- The numbers of a set from n on, rising. -/
def elsF (x : Nat) (n : Nat) : List Nat := (List.range' n (64 - n)).filter (x.testBit ·)
def els (x : Nat) : List Nat := elsF x 0
def cnt (x : Nat) (k : Nat) : Nat := ((List.range k).filter (x.testBit ·)).length
theorem cnt_zero (x : Nat) : cnt x 0 = 0 := rfl
theorem cnt_succ (x k : Nat) : cnt x (k + 1) = x % 2 + cnt (x / 2) k := by
  unfold cnt
  rw [List.range_succ_eq_map, List.filter_cons, List.filter_map, Nat.testBit_zero]
  have : ((fun i => x.testBit i) ∘ Nat.succ) = fun i => (x / 2).testBit i := by
    funext i; simp [Nat.testBit_succ]
  rw [this]
  rcases Nat.mod_two_eq_zero_or_one x with h | h <;> simp [h] <;> omega
theorem cnt_split (l h : Nat) : ∀ k f, l < 2 ^ k → cnt (l + 2 ^ k * h) (k + f) = cnt l k + cnt h f
  | 0, f, hl => by
    have : l = 0 := by simpa using hl
    subst this; simp [cnt_zero]
  | k + 1, f, hl => by
    rw [show k + 1 + f = (k + f) + 1 by omega, cnt_succ, cnt_succ]
    have e1 : (l + 2 ^ (k + 1) * h) % 2 = l % 2 := by rw [Nat.pow_succ, Nat.mul_right_comm, Nat.add_mul_mod_self_right]
    have e2 : (l + 2 ^ (k + 1) * h) / 2 = l / 2 + 2 ^ k * h := by
      rw [Nat.pow_succ, Nat.mul_right_comm, Nat.add_mul_div_right _ _ (by decide)]
    rw [e1, e2, cnt_split (l / 2) h k f (by rw [Nat.pow_succ] at hl; omega)]
    omega
theorem cnt8 (b0 b1 b2 b3 b4 b5 b6 b7 : Nat) (h0 : b0 < 256) (h1 : b1 < 256) (h2 : b2 < 256) (h3 : b3 < 256) (h4 : b4 < 256) (h5 : b5 < 256) (h6 : b6 < 256) :
    cnt (b0 + 256 * (b1 + 256 * (b2 + 256 * (b3 + 256 * (b4 + 256 * (b5 + 256 * (b6 + 256 * b7))))))) 64 = cnt b0 8 + (cnt b1 8 + (cnt b2 8 + (cnt b3 8 + (cnt b4 8 + (cnt b5 8 + (cnt b6 8 + cnt b7 8)))))) := by
  rw [show (64 : Nat) = 8 + (8 + (8 + (8 + (8 + (8 + (8 + 8)))))) by rfl, show (256 : Nat) = 2 ^ 8 by rfl]
  rw [cnt_split _ _ 8 _ h0, cnt_split _ _ 8 _ h1, cnt_split _ _ 8 _ h2, cnt_split _ _ 8 _ h3, cnt_split _ _ 8 _ h4, cnt_split _ _ 8 _ h5, cnt_split _ _ 8 _ h6]
theorem and_split (l h m M : Nat) (hl : l < 256) (hm : m < 256) : (l + 256 * h) &&& (m + 256 * M) = (l &&& m) + 256 * (h &&& M) := by
  have hlm : l &&& m < 2 ^ 8 := Nat.and_lt_two_pow _ hm
  apply Nat.eq_of_testBit_eq
  intro i
  rw [Nat.testBit_and, show l + 256 * h = 2 ^ 8 * h + l by omega, show m + 256 * M = 2 ^ 8 * M + m by omega, show (l &&& m) + 256 * (h &&& M) = 2 ^ 8 * (h &&& M) + (l &&& m) by omega]
  rw [Nat.testBit_two_pow_mul_add h (i := 8) hl, Nat.testBit_two_pow_mul_add M (i := 8) hm, Nat.testBit_two_pow_mul_add (h &&& M) (i := 8) hlm]
  by_cases hi : i < 8 <;> simp [hi, Nat.testBit_and]
/-- Shifted by k, what comes in from above is masked away. -/
theorem shr_and_split (k l h m M : Nat) (hl : l < 256) (hk : k ≤ 8) (hm : m < 2 ^ (8 - k)) : ((l + 256 * h) / 2 ^ k) &&& (m + 256 * M) = ((l / 2 ^ k) &&& m) + 256 * ((h / 2 ^ k) &&& M) := by
  have hm8 : m < 2 ^ 8 := Nat.lt_of_lt_of_le hm (Nat.pow_le_pow_right (by decide) (by omega))
  have hlm : (l / 2 ^ k) &&& m < 2 ^ 8 := Nat.and_lt_two_pow _ hm8
  apply Nat.eq_of_testBit_eq
  intro i
  rw [Nat.testBit_and, show l + 256 * h = 2 ^ 8 * h + l by omega, show m + 256 * M = 2 ^ 8 * M + m by omega, show ((l / 2 ^ k) &&& m) + 256 * ((h / 2 ^ k) &&& M) = 2 ^ 8 * ((h / 2 ^ k) &&& M) + ((l / 2 ^ k) &&& m) by omega]
  rw [Nat.testBit_div_two_pow, Nat.testBit_two_pow_mul_add h (i := 8) hl, Nat.testBit_two_pow_mul_add M (i := 8) hm8, Nat.testBit_two_pow_mul_add _ (i := 8) hlm]
  by_cases hi : i < 8
  · simp only [hi, if_true, Nat.testBit_and, Nat.testBit_div_two_pow]
    by_cases hik : i + k < 8
    · simp [hik]
    · have : m.testBit i = false := Nat.testBit_lt_two_pow (Nat.lt_of_lt_of_le hm (Nat.pow_le_pow_right (by decide) (by omega)))
      simp [this]
  · have : ¬ i + k < 8 := by omega
    simp only [hi, this, if_false, Nat.testBit_and, Nat.testBit_div_two_pow]
    rw [show i - 8 + k = i + k - 8 by omega]
/-- The three stages of a byte. -/
def st1 (b : Nat) : Nat := ((b / 2) &&& 85) + (b &&& 85)
def st2 (b : Nat) : Nat := ((b / 4) &&& 51) + (b &&& 51)
theorem byte_all : ∀ b, b < 256 → st1 b < 256 ∧ st2 (st1 b) < 256 ∧ st2 (st1 b) / 16 ≤ 4 ∧ st2 (st1 b) % 16 ≤ 4 ∧ st2 (st1 b) / 16 + st2 (st1 b) % 16 = cnt b 8 ∧ cnt b 8 ≤ 8 := by decide +kernel
def m0 : Nat := 6148914691236517205
def m1 : Nat := 3689348814741910323
def m2 : Nat := 1085102592571150095
def pop (x : Nat) : Nat :=
  let a := ((x / 2) &&& m0) + (x &&& m0)
  let b := ((a / 4) &&& m1) + (a &&& m1)
  let c := (b / 16 + b) &&& m2
  let d := c + c / 256
  let e := d + d / 65536
  let f := e + e / 4294967296
  f % 128
theorem third (l h M : Nat) (h1 : l / 16 ≤ 4) (h2 : l % 16 ≤ 4) (h3 : h % 16 ≤ 4) : (((l + 256 * h) / 16 + (l + 256 * h)) &&& (15 + 256 * M)) = (l / 16 + l % 16) + 256 * ((h / 16 + h) &&& M) := by
  have e : (l + 256 * h) / 16 + (l + 256 * h) = ((l / 16 + l % 16) + 16 * (l / 16 + h % 16)) + 256 * (h / 16 + h) := by omega
  rw [e, and_split _ _ _ _ (by omega) (by omega)]
  congr 1
  have : ∀ p, p < 9 → ∀ q, q < 9 → (p + 16 * q) &&& 15 = p := by decide +kernel
  exact this _ (by omega) _ (by omega)
theorem third_last (l : Nat) (h1 : l / 16 ≤ 4) (h2 : l % 16 ≤ 4) : ((l / 16 + l) &&& 15) = l / 16 + l % 16 := by
  have := third l 0 0 h1 h2 (by decide)
  simpa using this
theorem bytes_of (x : Nat) : ∃ l h, x = l + 256 * h ∧ l < 256 ∧ h = x / 256 := ⟨x % 256, x / 256, by omega, by omega, rfl⟩
theorem add8 (a0 a1 a2 a3 a4 a5 a6 a7 c0 c1 c2 c3 c4 c5 c6 c7 : Nat) :
    (a0 + 256 * (a1 + 256 * (a2 + 256 * (a3 + 256 * (a4 + 256 * (a5 + 256 * (a6 + 256 * a7))))))) + (c0 + 256 * (c1 + 256 * (c2 + 256 * (c3 + 256 * (c4 + 256 * (c5 + 256 * (c6 + 256 * c7))))))) =
    (a0 + c0) + 256 * ((a1 + c1) + 256 * ((a2 + c2) + 256 * ((a3 + c3) + 256 * ((a4 + c4) + 256 * ((a5 + c5) + 256 * ((a6 + c6) + 256 * (a7 + c7))))))) := by omega
theorem fin128 (a A b B : Nat) (h : a + b < 128) : ((a + 256 * A) + (b + 256 * B)) % 128 = a + b := by omega
theorem div256 (a r : Nat) (h : a < 256) : (a + 256 * r) / 256 = r := by omega
theorem s1 (f0 f1 f2 f3 f4 f5 f6 f7 : Nat) : f0 + 256 * (f1 + 256 * (f2 + 256 * (f3 + 256 * (f4 + 256 * (f5 + 256 * (f6 + 256 * f7)))))) + (f1 + 256 * (f2 + 256 * (f3 + 256 * (f4 + 256 * (f5 + 256 * (f6 + 256 * (f7 + 256 * 0))))))) = (f0 + f1) + 256 * ((f1 + f2) + 256 * ((f2 + f3) + 256 * ((f3 + f4) + 256 * ((f4 + f5) + 256 * ((f5 + f6) + 256 * ((f6 + f7) + 256 * f7)))))) := by omega
theorem s2 (f0 f1 f2 f3 f4 f5 f6 f7 : Nat) : (f0 + f1) + 256 * ((f1 + f2) + 256 * ((f2 + f3) + 256 * ((f3 + f4) + 256 * ((f4 + f5) + 256 * ((f5 + f6) + 256 * ((f6 + f7) + 256 * f7)))))) + ((f2 + f3) + 256 * ((f3 + f4) + 256 * ((f4 + f5) + 256 * ((f5 + f6) + 256 * ((f6 + f7) + 256 * f7))))) = (f0 + f1 + f2 + f3) + 256 * ((f1 + f2 + f3 + f4) + 256 * ((f2 + f3 + f4 + f5) + 256 * ((f3 + f4 + f5 + f6) + 256 * ((f4 + f5 + f6 + f7) + 256 * ((f5 + f6 + f7) + 256 * ((f6 + f7) + 256 * f7)))))) := by omega
theorem last_sum (f0 f1 f2 f3 f4 f5 f6 f7 : Nat) (h0 : f0 ≤ 8) (h1 : f1 ≤ 8) (h2 : f2 ≤ 8) (h3 : f3 ≤ 8) (h4 : f4 ≤ 8) (h5 : f5 ≤ 8) (h6 : f6 ≤ 8) (h7 : f7 ≤ 8) (c d e : Nat)
    (hc : c = f0 + 256 * (f1 + 256 * (f2 + 256 * (f3 + 256 * (f4 + 256 * (f5 + 256 * (f6 + 256 * f7))))))) (hd : d = c + c / 256) (he : e = d + d / 65536) :
    (e + e / 4294967296) % 128 = f0 + (f1 + (f2 + (f3 + (f4 + (f5 + (f6 + f7)))))) := by
  have q1 : c / 256 = f1 + 256 * (f2 + 256 * (f3 + 256 * (f4 + 256 * (f5 + 256 * (f6 + 256 * (f7 + 256 * 0)))))) := by
    rw [hc]; exact div256 _ _ (Nat.lt_of_le_of_lt h0 (by decide))
  rw [q1, hc, s1] at hd
  have b2 : f0 + f1 < 256 := by clear hc hd he q1; omega
  have b3 : f1 + f2 < 256 := by clear hc hd he q1; omega
  have q2 : d / 65536 = (f2 + f3) + 256 * ((f3 + f4) + 256 * ((f4 + f5) + 256 * ((f5 + f6) + 256 * ((f6 + f7) + 256 * f7)))) := by
    rw [show 65536 = 256 * 256 from rfl, ← Nat.div_div_eq_div_mul, hd, div256 _ _ b2, div256 _ _ b3]
  rw [q2, hd, s2] at he
  have c0 : f0 + f1 + f2 + f3 < 256 := by clear hc hd he q1 q2; omega
  have c1 : f1 + f2 + f3 + f4 < 256 := by clear hc hd he q1 q2; omega
  have c2 : f2 + f3 + f4 + f5 < 256 := by clear hc hd he q1 q2; omega
  have c3 : f3 + f4 + f5 + f6 < 256 := by clear hc hd he q1 q2; omega
  have q3 : e / 4294967296 = (f4 + f5 + f6 + f7) + 256 * ((f5 + f6 + f7) + 256 * ((f6 + f7) + 256 * f7)) := by
    rw [show 4294967296 = 256 * 256 * 256 * 256 from rfl, ← Nat.div_div_eq_div_mul, ← Nat.div_div_eq_div_mul, ← Nat.div_div_eq_div_mul, he, div256 _ _ c0, div256 _ _ c1, div256 _ _ c2, div256 _ _ c3]
  have c4 : f0 + f1 + f2 + f3 + (f4 + f5 + f6 + f7) < 128 := by clear hc hd he q1 q2 q3; omega
  rw [q3, he, fin128 _ _ _ _ c4]
  clear hc hd he q1 q2 q3
  omega
theorem pop_eq (x : Nat) (hx : x < 18446744073709551616) : pop x = cnt x 64 := by
  obtain ⟨b0, x1, rfl, h0, _⟩ := bytes_of x
  obtain ⟨b1, x2, rfl, h1, _⟩ := bytes_of x1
  obtain ⟨b2, x3, rfl, h2, _⟩ := bytes_of x2
  obtain ⟨b3, x4, rfl, h3, _⟩ := bytes_of x3
  obtain ⟨b4, x5, rfl, h4, _⟩ := bytes_of x4
  obtain ⟨b5, x6, rfl, h5, _⟩ := bytes_of x5
  obtain ⟨b6, b7, rfl, h6, _⟩ := bytes_of x6
  have h7 : b7 < 256 := by omega
  rw [cnt8 _ _ _ _ _ _ _ _ h0 h1 h2 h3 h4 h5 h6]
  clear hx
  have e1 : ((b0 + 256 * (b1 + 256 * (b2 + 256 * (b3 + 256 * (b4 + 256 * (b5 + 256 * (b6 + 256 * b7))))))) / 2 &&& m0) + ((b0 + 256 * (b1 + 256 * (b2 + 256 * (b3 + 256 * (b4 + 256 * (b5 + 256 * (b6 + 256 * b7))))))) &&& m0) =
      st1 b0 + 256 * (st1 b1 + 256 * (st1 b2 + 256 * (st1 b3 + 256 * (st1 b4 + 256 * (st1 b5 + 256 * (st1 b6 + 256 * st1 b7)))))) := by
    rw [show m0 = 85 + 256 * (85 + 256 * (85 + 256 * (85 + 256 * (85 + 256 * (85 + 256 * (85 + 256 * 85)))))) by rfl]
    rw [and_split _ _ _ _ h0 (by decide), and_split _ _ _ _ h1 (by decide), and_split _ _ _ _ h2 (by decide), and_split _ _ _ _ h3 (by decide), and_split _ _ _ _ h4 (by decide), and_split _ _ _ _ h5 (by decide), and_split _ _ _ _ h6 (by decide)]
    have s := fun l h M hl => shr_and_split 1 l h 85 M hl (by decide) (by decide)
    simp only [Nat.pow_one] at s
    rw [s _ _ _ h0, s _ _ _ h1, s _ _ _ h2, s _ _ _ h3, s _ _ _ h4, s _ _ _ h5, s _ _ _ h6]
    rw [add8]; rfl
  have hb := fun b hb => byte_all b hb
  obtain ⟨p0, q0, r0, s0, t0, u0⟩ := byte_all b0 h0
  obtain ⟨p1, q1, r1, s1, t1, u1⟩ := byte_all b1 h1
  obtain ⟨p2, q2, r2, s2, t2, u2⟩ := byte_all b2 h2
  obtain ⟨p3, q3, r3, s3, t3, u3⟩ := byte_all b3 h3
  obtain ⟨p4, q4, r4, s4, t4, u4⟩ := byte_all b4 h4
  obtain ⟨p5, q5, r5, s5, t5, u5⟩ := byte_all b5 h5
  obtain ⟨p6, q6, r6, s6, t6, u6⟩ := byte_all b6 h6
  obtain ⟨p7, q7, r7, s7, t7, u7⟩ := byte_all b7 h7
  unfold pop
  simp only []
  rw [e1]
  clear e1
  generalize st1 b0 = c0 at *
  generalize st1 b1 = c1 at *
  generalize st1 b2 = c2 at *
  generalize st1 b3 = c3 at *
  generalize st1 b4 = c4 at *
  generalize st1 b5 = c5 at *
  generalize st1 b6 = c6 at *
  generalize st1 b7 = c7 at *
  have e2 : ((c0 + 256 * (c1 + 256 * (c2 + 256 * (c3 + 256 * (c4 + 256 * (c5 + 256 * (c6 + 256 * c7))))))) / 4 &&& m1) + ((c0 + 256 * (c1 + 256 * (c2 + 256 * (c3 + 256 * (c4 + 256 * (c5 + 256 * (c6 + 256 * c7))))))) &&& m1) =
      st2 c0 + 256 * (st2 c1 + 256 * (st2 c2 + 256 * (st2 c3 + 256 * (st2 c4 + 256 * (st2 c5 + 256 * (st2 c6 + 256 * st2 c7)))))) := by
    rw [show m1 = 51 + 256 * (51 + 256 * (51 + 256 * (51 + 256 * (51 + 256 * (51 + 256 * (51 + 256 * 51)))))) by rfl]
    rw [and_split _ _ _ _ p0 (by decide), and_split _ _ _ _ p1 (by decide), and_split _ _ _ _ p2 (by decide), and_split _ _ _ _ p3 (by decide), and_split _ _ _ _ p4 (by decide), and_split _ _ _ _ p5 (by decide), and_split _ _ _ _ p6 (by decide)]
    have s := fun l h M hl => shr_and_split 2 l h 51 M hl (by decide) (by decide)
    simp only [show 2 ^ 2 = 4 by rfl] at s
    rw [s _ _ _ p0, s _ _ _ p1, s _ _ _ p2, s _ _ _ p3, s _ _ _ p4, s _ _ _ p5, s _ _ _ p6]
    rw [add8]; rfl
  rw [e2]
  clear e2
  generalize st2 c0 = d0 at *
  generalize st2 c1 = d1 at *
  generalize st2 c2 = d2 at *
  generalize st2 c3 = d3 at *
  generalize st2 c4 = d4 at *
  generalize st2 c5 = d5 at *
  generalize st2 c6 = d6 at *
  generalize st2 c7 = d7 at *
  have e3 : ((d0 + 256 * (d1 + 256 * (d2 + 256 * (d3 + 256 * (d4 + 256 * (d5 + 256 * (d6 + 256 * d7))))))) / 16 + (d0 + 256 * (d1 + 256 * (d2 + 256 * (d3 + 256 * (d4 + 256 * (d5 + 256 * (d6 + 256 * d7)))))))) &&& m2 =
      cnt b0 8 + 256 * (cnt b1 8 + 256 * (cnt b2 8 + 256 * (cnt b3 8 + 256 * (cnt b4 8 + 256 * (cnt b5 8 + 256 * (cnt b6 8 + 256 * cnt b7 8)))))) := by
    rw [show m2 = 15 + 256 * (15 + 256 * (15 + 256 * (15 + 256 * (15 + 256 * (15 + 256 * (15 + 256 * 15)))))) by rfl]
    rw [third _ _ _ r0 s0 (by omega), third _ _ _ r1 s1 (by omega), third _ _ _ r2 s2 (by omega), third _ _ _ r3 s3 (by omega), third _ _ _ r4 s4 (by omega), third _ _ _ r5 s5 (by omega), third _ _ _ r6 s6 (by omega), third_last _ r7 s7]
    rw [t0, t1, t2, t3, t4, t5, t6, t7]
  rw [e3]
  clear e3 t0 t1 t2 t3 t4 t5 t6 t7
  generalize cnt b0 8 = f0 at *
  generalize cnt b1 8 = f1 at *
  generalize cnt b2 8 = f2 at *
  generalize cnt b3 8 = f3 at *
  generalize cnt b4 8 = f4 at *
  generalize cnt b5 8 = f5 at *
  generalize cnt b6 8 = f6 at *
  generalize cnt b7 8 = f7 at *
  exact last_sum f0 f1 f2 f3 f4 f5 f6 f7 u0 u1 u2 u3 u4 u5 u6 u7 _ _ _ rfl rfl rfl
theorem cnt_els (x : Nat) : cnt x 64 = (els x).length := by
  unfold cnt els elsF; rw [List.range_eq_range']

/-- How many 0s stand at the end (with fuel). -/
def low : Nat → Nat → Nat
  | 0, _ => 0
  | f + 1, x => if x % 2 = 1 then 0 else low f (x / 2) + 1
theorem low_spec : ∀ (f x : Nat), 0 < x → x < 2 ^ f → ∃ m, x = 2 ^ low f x * (2 * m + 1) ∧ low f x < f
  | 0, x, h, h' => by simp at h'; omega
  | f + 1, x, h, h' => by
    unfold low
    by_cases hx : x % 2 = 1
    · rw [if_pos hx]; exact ⟨x / 2, by simp; omega, by omega⟩
    · rw [if_neg hx]
      obtain ⟨m, h1, h2⟩ := low_spec f (x / 2) (by omega) (by rw [Nat.pow_succ] at h'; omega)
      refine ⟨m, ?_, by omega⟩
      have : x = 2 * (x / 2) := by omega
      rw [Nat.pow_succ, Nat.mul_right_comm, ← h1]
      omega
theorem and_neg (n k m : Nat) (h : 2 ^ k * (2 * m + 1) < 2 ^ n) : (2 ^ k * (2 * m + 1)) &&& (2 ^ n - 2 ^ k * (2 * m + 1)) = 2 ^ k := by
  have hk : k < n := by
    rcases Nat.lt_or_ge k n with h' | h'
    · exact h'
    · have := Nat.pow_le_pow_right (n := 2) (by decide) h'
      have : 2 ^ k * 1 ≤ 2 ^ k * (2 * m + 1) := Nat.mul_le_mul_left _ (by omega)
      omega
  have e : 2 ^ n = 2 ^ k * (2 * 2 ^ (n - k - 1)) := by
    rw [show 2 * 2 ^ (n - k - 1) = 2 ^ (n - k - 1 + 1) by rw [Nat.pow_succ]; omega, ← Nat.pow_add]; congr 1; omega
  rw [e, ← Nat.mul_sub_left_distrib]
  have hm : m < 2 ^ (n - k - 1) := by
    rw [e] at h
    have := Nat.lt_of_mul_lt_mul_left h
    omega
  have e2 : 2 * 2 ^ (n - k - 1) - (2 * m + 1) = 2 * (2 ^ (n - k - 1) - (m + 1)) + 1 := by omega
  rw [e2]
  apply Nat.eq_of_testBit_eq
  intro i
  rw [Nat.testBit_and, Nat.testBit_two_pow_mul, Nat.testBit_two_pow_mul, Nat.testBit_two_pow]
  by_cases hi : k ≤ i
  · simp only [ge_iff_le, hi, decide_true, Bool.true_and]
    obtain ⟨j, rfl⟩ : ∃ j, i = k + j := ⟨i - k, by omega⟩
    rw [show k + j - k = j by omega]
    cases j with
    | zero => simp
    | succ j =>
      rw [Nat.testBit_succ, Nat.testBit_succ, show (2 * m + 1) / 2 = m by omega, show (2 * (2 ^ (n - k - 1) - (m + 1)) + 1) / 2 = 2 ^ (n - k - 1) - (m + 1) by omega]
      rw [Nat.testBit_two_pow_sub_succ hm]
      have : (decide (k = k + (j + 1))) = false := by simp
      rw [this]
      cases m.testBit j <;> simp
  · have : (decide (k = i)) = false := by simp; omega
    simp [hi, this]
def ctz (x : Nat) : Nat := low 64 x
theorem lowest (x : Nat) (h0 : x ≠ 0) (h : x < 18446744073709551616) : x &&& (18446744073709551616 - x) = 2 ^ ctz x ∧ ctz x < 64 := by
  obtain ⟨m, h1, h2⟩ := low_spec 64 x (Nat.pos_of_ne_zero h0) h
  refine ⟨?_, h2⟩
  have := and_neg 64 (low 64 x) m (by rw [← h1]; exact h)
  rw [← h1] at this
  exact this
def tab64 : List Nat := [0, 1, 56, 2, 57, 49, 28, 3, 61, 58, 42, 50, 38, 29, 17, 4, 62, 47, 59, 36, 45, 43, 51, 22, 53, 39, 33, 30, 24, 18, 12, 5, 63, 55, 48, 27, 60, 41, 37, 16, 46, 35, 44, 21, 52, 32, 23, 11, 54, 26, 40, 15, 34, 20, 31, 10, 25, 14, 19, 9, 13, 8, 7, 6]
def place (k : Nat) : Nat := 2 ^ k * 285870213051353865 % 18446744073709551616 / 288230376151711744
theorem tab64_at : ∀ k, k < 64 → place k < 64 ∧ tab64[place k]? = some k := by decide +kernel
/-- The least number that is there and not below n. -/
theorem elsF_ctz (x n : Nat) (hn : n < 64) (hx : x < 18446744073709551616) (h0 : x / 2 ^ n ≠ 0) :
    elsF x n = (n + ctz (x / 2 ^ n)) :: elsF x (n + ctz (x / 2 ^ n) + 1) ∧ n + ctz (x / 2 ^ n) < 64 := by
  have hlt : x / 2 ^ n < 2 ^ 64 := Nat.lt_of_le_of_lt (Nat.div_le_self _ _) hx
  obtain ⟨m, hm, hk⟩ := low_spec 64 (x / 2 ^ n) (Nat.pos_of_ne_zero h0) hlt
  have hc : ctz (x / 2 ^ n) = low 64 (x / 2 ^ n) := rfl
  rw [hc]
  generalize low 64 (x / 2 ^ n) = k at *
  have bit : ∀ i, x.testBit (n + i) = (2 ^ k * (2 * m + 1)).testBit i := fun i => by rw [← hm, Nat.testBit_div_two_pow, Nat.add_comm]
  have h1 : x.testBit (n + k) = true := by
    rw [bit, Nat.testBit_two_pow_mul]
    simp [Nat.testBit_zero]
  have h2 : ∀ i, i < k → x.testBit (n + i) = false := fun i hi => by
    rw [bit, Nat.testBit_two_pow_mul]; simp; omega
  have h3 : n + k < 64 := by
    rcases Nat.lt_or_ge (n + k) 64 with h | h
    · exact h
    · rw [Nat.testBit_lt_two_pow (Nat.lt_of_lt_of_le hx (Nat.pow_le_pow_right (n := 2) (by decide) h))] at h1; cases h1
  refine ⟨?_, h3⟩
  unfold elsF
  rw [show 64 - n = k + (64 - (n + k + 1) + 1) by omega, ← List.range'_append_1, List.filter_append, List.range'_succ, List.filter_cons, if_pos (by exact h1)]
  have : (List.range' n k).filter (x.testBit ·) = [] := by
    rw [List.filter_eq_nil_iff]
    intro a ha
    rw [List.mem_range'_1] at ha
    have := h2 (a - n) (by omega)
    rw [show n + (a - n) = a by omega] at this
    simp [this]
  rw [this, List.nil_append]
theorem elsF_nil (x n : Nat) (h0 : x / 2 ^ n = 0) : elsF x n = [] := by
  unfold elsF
  rw [List.filter_eq_nil_iff]
  intro a ha
  rw [List.mem_range'_1] at ha
  have : x.testBit (n + (a - n)) = (x / 2 ^ n).testBit (a - n) := by rw [Nat.testBit_div_two_pow, Nat.add_comm]
  rw [show n + (a - n) = a by omega, h0] at this
  simp [this]
theorem elsF_end (x n : Nat) (h : 64 ≤ n) : elsF x n = [] := by unfold elsF; rw [show 64 - n = 0 by omega]; rfl
theorem mem_els {x i : Nat} : i ∈ els x ↔ i < 64 ∧ x.testBit i = true := by
  unfold els elsF; simp [List.mem_filter, List.mem_range'_1]
/-- What Next answers. -/
def nextQ (x : Nat) (n : Int) : Int := match elsF x n.toNat with
  | [] => -1
  | k :: _ => k
theorem elsF_get {x n k : Nat} {l : List Nat} (hx : x < 18446744073709551616) (h : elsF x n = k :: l) : n ≤ k ∧ k < 64 ∧ l = elsF x (k + 1) := by
  rcases Nat.lt_or_ge n 64 with hn | hn
  · by_cases h0 : x / 2 ^ n = 0
    · rw [elsF_nil _ _ h0] at h; cases h
    · obtain ⟨e, h3⟩ := elsF_ctz x n hn hx h0
      rw [e] at h
      simp only [List.cons.injEq] at h
      obtain ⟨rfl, rfl⟩ := h
      exact ⟨by omega, h3, rfl⟩
  · rw [elsF_end _ _ hn] at h; cases h
end Go.Vs
