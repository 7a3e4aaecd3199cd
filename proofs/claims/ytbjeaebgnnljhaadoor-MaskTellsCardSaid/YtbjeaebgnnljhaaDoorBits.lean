/- PLAIN: masks as four words below 2^64; what they have; masks of a predicate; words' arithmetic. No program in sight. -/
namespace Go.Proofs.YtbjeaebgnnljhaaDoor

abbrev MK := Nat × Nat × Nat × Nat

def word (m : MK) : Nat → Nat
  | 0 => m.1
  | 1 => m.2.1
  | 2 => m.2.2.1
  | _ => m.2.2.2

/-- Each word is one of 64 bits. -/
def mok (m : MK) : Prop := m.1 < 2 ^ 64 ∧ m.2.1 < 2 ^ 64 ∧ m.2.2.1 < 2 ^ 64 ∧ m.2.2.2 < 2 ^ 64

theorem mok_word {m : MK} (h : mok m) (k : Nat) : word m k < 2 ^ 64 := by
  obtain ⟨h0, h1, h2, h3⟩ := h
  match k with
  | 0 => exact h0
  | 1 => exact h1
  | 2 => exact h2
  | _ + 3 => exact h3

/-- Does the mask have core c? -/
def has (m : MK) (c : Nat) : Bool := decide (c < 256) && (word m (c / 64)).testBit (c % 64)

theorem has_of_ge (m : MK) {c : Nat} (h : 256 ≤ c) : has m c = false := by simp [has]; omega
theorem has_lt {m : MK} {c : Nat} (h : has m c = true) : c < 256 := by simp [has] at h; exact h.1

/-- The number whose bits below n are f's. -/
def bsum (f : Nat → Bool) : Nat → Nat
  | 0 => 0
  | n + 1 => bsum f n ||| (if f n then 2 ^ n else 0)

theorem bsum_lt (f : Nat → Bool) (n : Nat) : bsum f n < 2 ^ n := by
  induction n with
  | zero => simp [bsum]
  | succ n ih =>
    refine Nat.or_lt_two_pow (Nat.lt_of_lt_of_le ih (Nat.pow_le_pow_right (by decide) (by omega))) ?_
    split
    · exact Nat.pow_lt_pow_right (by decide) (by omega)
    · exact Nat.two_pow_pos _

theorem bsum_bit (f : Nat → Bool) (n i : Nat) : (bsum f n).testBit i = (decide (i < n) && f i) := by
  induction n with
  | zero => simp [bsum]
  | succ n ih =>
    simp only [bsum, Nat.testBit_or, ih]
    by_cases hf : f n = true
    · simp only [hf, if_true, Nat.testBit_two_pow]
      by_cases h : i = n
      · subst h; simp [hf]
      · have : decide (n = i) = false := by simp; omega
        rw [this, Bool.or_false]
        have : decide (i < n) = decide (i < n + 1) := by simp; omega
        rw [this]
    · simp only [hf]
      by_cases h : i = n
      · subst h; simp; simpa using hf
      · have : decide (i < n) = decide (i < n + 1) := by simp; omega
        simp [this]

/-- The mask that has what f says. -/
def ofF (f : Nat → Bool) : MK := (bsum f 64, bsum (fun i => f (64 + i)) 64, bsum (fun i => f (128 + i)) 64, bsum (fun i => f (192 + i)) 64)

theorem mok_ofF (f : Nat → Bool) : mok (ofF f) := ⟨bsum_lt _ _, bsum_lt _ _, bsum_lt _ _, bsum_lt _ _⟩

theorem has_ofF (f : Nat → Bool) (c : Nat) : has (ofF f) c = (decide (c < 256) && f c) := by
  by_cases hc : c < 256
  · simp only [has, hc, decide_true, Bool.true_and]
    have h4 : c / 64 = 0 ∨ c / 64 = 1 ∨ c / 64 = 2 ∨ c / 64 = 3 := by omega
    have hm : c % 64 < 64 := Nat.mod_lt _ (by decide)
    rcases h4 with h | h | h | h <;> rw [h] <;> simp only [word, ofF, bsum_bit, hm, decide_true, Bool.true_and] <;> congr 1 <;> omega
  · simp [has, hc]

theorem word_ext {a b : Nat} (ha : a < 2 ^ 64) (hb : b < 2 ^ 64) (h : ∀ i, i < 64 → a.testBit i = b.testBit i) : a = b := by
  apply Nat.eq_of_testBit_eq
  intro i
  by_cases hi : i < 64
  · exact h i hi
  · rw [Nat.testBit_lt_two_pow (Nat.lt_of_lt_of_le ha (Nat.pow_le_pow_right (by decide) (by omega))), Nat.testBit_lt_two_pow (Nat.lt_of_lt_of_le hb (Nat.pow_le_pow_right (by decide) (by omega)))]

theorem word_bit (m : MK) (k i : Nat) (hk : k < 4) (hi : i < 64) : (word m k).testBit i = has m (64 * k + i) := by
  have h1 : (64 * k + i) / 64 = k := by omega
  have h2 : (64 * k + i) % 64 = i := by omega
  have h3 : 64 * k + i < 256 := by omega
  simp [has, h1, h2, h3]

/-- Two masks that have the same are one. -/
theorem mk_ext {m m' : MK} (h : mok m) (h' : mok m') (e : ∀ c, c < 256 → has m c = has m' c) : m = m' := by
  have w : ∀ k, k < 4 → word m k = word m' k := fun k hk => word_ext (mok_word h k) (mok_word h' k) fun i hi => by
    rw [word_bit m k i hk hi, word_bit m' k i hk hi]; exact e _ (by omega)
  have h0 := w 0 (by omega); have h1 := w 1 (by omega); have h2 := w 2 (by omega); have h3 := w 3 (by omega)
  simp only [word] at h0 h1 h2 h3
  obtain ⟨a, b, c, d⟩ := m
  obtain ⟨a', b', c', d'⟩ := m'
  simp_all

theorem ofF_has {m : MK} (h : mok m) : ofF (has m) = m := mk_ext (mok_ofF _) h fun c hc => by rw [has_ofF]; simp [hc]

theorem ofF_congr {f g : Nat → Bool} (h : ∀ c, c < 256 → f c = g c) : ofF f = ofF g := mk_ext (mok_ofF _) (mok_ofF _) fun c hc => by rw [has_ofF, has_ofF, h c hc]

/-- The empty mask. -/
def mk0 : MK := (0, 0, 0, 0)
theorem mok_mk0 : mok mk0 := by simp [mok, mk0]
theorem has_mk0 (c : Nat) : has mk0 c = false := by
  have : word mk0 (c / 64) = 0 := by unfold word mk0; split <;> rfl
  simp [has, this]

/-- The mask with core c, too. -/
def withC (m : MK) (c : Nat) : MK := ofF fun x => has m x || decide (x = c)
theorem mok_withC (m : MK) (c : Nat) : mok (withC m c) := mok_ofF _
theorem has_withC (m : MK) {c : Nat} (hc : c < 256) (x : Nat) : has (withC m c) x = (has m x || decide (x = c)) := by
  rw [withC, has_ofF]
  by_cases hx : x < 256
  · simp [hx]
  · rw [has_of_ge m (by omega)]
    have : decide (x = c) = false := by simp; omega
    simp [hx, this]

/-- The same, as the code has it: the one word that turns. -/
theorem withC_word (m : MK) (h : mok m) {k i : Nat} (hk : k < 4) (hi : i < 64) :
    withC m (64 * k + i) = match k with
      | 0 => (m.1 ||| 2 ^ i, m.2)
      | 1 => (m.1, m.2.1 ||| 2 ^ i, m.2.2)
      | 2 => (m.1, m.2.1, m.2.2.1 ||| 2 ^ i, m.2.2.2)
      | _ => (m.1, m.2.1, m.2.2.1, m.2.2.2 ||| 2 ^ i) := by
  have hp : 2 ^ i < 2 ^ 64 := Nat.pow_lt_pow_right (by decide) hi
  obtain ⟨h0, h1, h2, h3⟩ := h
  have key : ∀ x, x < 256 → ∀ (k' : Nat), x / 64 = k' → (word m (x / 64) ||| (if k' = k then 2 ^ i else 0)).testBit (x % 64) = (has m x || decide (x = 64 * k + i)) := by
    intro x hx k' hk'
    rw [Nat.testBit_or]
    have e1 : has m x = (word m (x / 64)).testBit (x % 64) := by simp [has, hx]
    rw [e1]
    congr 1
    by_cases e : k' = k
    · rw [if_pos e, Nat.testBit_two_pow]
      have : (i = x % 64) ↔ (x = 64 * k + i) := by omega
      simp [this]
    · rw [if_neg e, Nat.zero_testBit]
      have : ¬ x = 64 * k + i := by omega
      simp [this]
  have h4 : k = 0 ∨ k = 1 ∨ k = 2 ∨ k = 3 := by omega
  rcases h4 with rfl | rfl | rfl | rfl
  all_goals
    refine mk_ext (mok_ofF _) ?_ fun x hx => ?_
    · simp only [mok]
      refine ⟨?_, ?_, ?_, ?_⟩ <;> first | assumption | exact Nat.or_lt_two_pow (by assumption) hp
    · rw [withC, has_ofF]
      have hd : decide (x < 256) = true := by simp [hx]
      rw [hd, Bool.true_and]
      have q4 : x / 64 = 0 ∨ x / 64 = 1 ∨ x / 64 = 2 ∨ x / 64 = 3 := by omega
      rcases q4 with q | q | q | q
      all_goals
        rw [← key x hx _ q]
        simp [has, hx, q, word]

/-- What is in both, in one, in the first alone. -/
def andM (a b : MK) : MK := (a.1 &&& b.1, a.2.1 &&& b.2.1, a.2.2.1 &&& b.2.2.1, a.2.2.2 &&& b.2.2.2)
def orM (a b : MK) : MK := (a.1 ||| b.1, a.2.1 ||| b.2.1, a.2.2.1 ||| b.2.2.1, a.2.2.2 ||| b.2.2.2)
def minusM (a b : MK) : MK := ofF fun c => has a c && !has b c
theorem word_andM (a b : MK) (k : Nat) : word (andM a b) k = word a k &&& word b k := by unfold word andM; split <;> rfl
theorem word_orM (a b : MK) (k : Nat) : word (orM a b) k = word a k ||| word b k := by unfold word orM; split <;> rfl
theorem has_andM (a b : MK) (c : Nat) : has (andM a b) c = (has a c && has b c) := by
  simp only [has, word_andM, Nat.testBit_and]
  by_cases h : c < 256 <;> simp [h]
theorem has_orM (a b : MK) (c : Nat) : has (orM a b) c = (has a c || has b c) := by
  simp only [has, word_orM, Nat.testBit_or]
  by_cases h : c < 256 <;> simp [h]
theorem has_minusM (a b : MK) (c : Nat) : has (minusM a b) c = (has a c && !has b c) := by
  rw [minusM, has_ofF]
  by_cases h : c < 256
  · simp [h]
  · simp [has_of_ge a (show 256 ≤ c by omega)]
theorem mok_andM {a b : MK} (h : mok a) : mok (andM a b) := by
  obtain ⟨h0, h1, h2, h3⟩ := h
  exact ⟨Nat.lt_of_le_of_lt Nat.and_le_left h0, Nat.lt_of_le_of_lt Nat.and_le_left h1, Nat.lt_of_le_of_lt Nat.and_le_left h2, Nat.lt_of_le_of_lt Nat.and_le_left h3⟩
theorem mok_orM {a b : MK} (h : mok a) (h' : mok b) : mok (orM a b) :=
  ⟨Nat.or_lt_two_pow h.1 h'.1, Nat.or_lt_two_pow h.2.1 h'.2.1, Nat.or_lt_two_pow h.2.2.1 h'.2.2.1, Nat.or_lt_two_pow h.2.2.2 h'.2.2.2⟩
theorem mok_minusM (a b : MK) : mok (minusM a b) := mok_ofF _
end Go.Proofs.YtbjeaebgnnljhaaDoor
