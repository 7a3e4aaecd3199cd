/- PLAIN: the texts of masks; what parses them. -/
import Derived.Test.YtbjeaebgnnljhaaDoorRj
import Derived.Test.YtbjeaebgnnljhaaDoorWl
namespace Go.Proofs.YtbjeaebgnnljhaaDoor

/-- Where the range that holds core c begins. -/
def rs (m : MK) : Nat → Nat
  | 0 => 0
  | c + 1 => if has m c then rs m c else c + 1
def endB (m : MK) (c : Nat) : Bool := has m c && !has m (c + 1)
def eWords (m : MK) (k : Nat) : List (List UInt8) := ((List.range k).filter (endB m)).map fun c => wordOf (rs m c) c
theorem eWords_yes {m : MK} {k : Nat} (h : endB m k = true) : eWords m (k + 1) = eWords m k ++ [wordOf (rs m k) k] := by simp [eWords, List.range_succ, h]
theorem eWords_no {m : MK} {k : Nat} (h : endB m k = false) : eWords m (k + 1) = eWords m k := by simp [eWords, List.range_succ, h]
def openB (m : MK) (k : Nat) : Bool := hp m k && has m k
theorem hp_succ (m : MK) (k : Nat) : hp m (k + 1) = has m k := by simp [hp]
theorem rs_hp {m : MK} {k : Nat} : rs m k = if hp m k then rs m (k - 1) else k := by
  cases k with
  | zero => simp [rs, hp]
  | succ k => rw [rs, hp_succ]; rfl
theorem stT_words_eq (m : MK) : ∀ k, k ≤ 256 → stT m (upTo m k) = (eWords m k, if openB m k then ((rs m (k - 1) : Nat) : Int) else -1) := by
  intro k
  induction k with
  | zero => intro _; simp [upTo, stT, eWords, openB, hp]
  | succ k ih =>
    intro hk
    have ih := ih (by omega)
    cases hh : has m k with
    | false => rw [upTo_no hh, ih, eWords_no (by simp [endB, hh])]; simp [openB, hp_succ, hh]
    | true =>
      rw [upTo_yes (by omega) hh, stT_snoc, ih]
      have hf : (if (if openB m k then ((rs m (k - 1) : Nat) : Int) else -1) < 0 then ((k : Nat) : Int) else (if openB m k then ((rs m (k - 1) : Nat) : Int) else -1)) = ((rs m k : Nat) : Int) := by
        rw [rs_hp (k := k)]
        cases hv : hp m k with
        | true => simp [openB, hv, hh]; omega
        | false => simp [openB, hv]
      unfold stepT
      simp only [hf, Int.toNat_natCast]
      cases h1 : has m (k + 1) with
      | true => rw [eWords_no (by simp [endB, h1])]; simp [openB, hp_succ, hh, h1]
      | false => rw [eWords_yes (by simp [endB, hh, h1])]; simp [openB, h1]
theorem re_rs (m : MK) : ∀ c, has m c = true → re m (rs m c) = re m c := by
  intro c
  induction c with
  | zero => intro _; rfl
  | succ c ih =>
    intro h
    rw [rs]
    cases hc : has m c with
    | true => rw [if_pos rfl, ih hc, re_eq m c, if_pos h]
    | false => rw [if_neg (by simp)]
theorem rWords_eq (m : MK) : ∀ k, rWords m k = eWords m k ++ (if openB m k then [wordOf (rs m (k - 1)) (re m (rs m (k - 1)))] else []) := by
  intro k
  induction k with
  | zero => simp [rWords, eWords, openB, hp]
  | succ k ih =>
    cases hh : has m k with
    | false => rw [rWords_no (by simp [startB, hh]), eWords_no (by simp [endB, hh]), ih]; simp [openB, hp_succ, hh]
    | true =>
      have hrs := rs_hp (m := m) (k := k)
      have hre := re_rs m k hh
      cases hv : hp m k with
      | true =>
        rw [hv, if_pos rfl] at hrs
        rw [rWords_no (by simp [startB, hv]), ih]
        cases h1 : has m (k + 1) with
        | true => rw [eWords_no (by simp [endB, h1])]; simp [openB, hp_succ, hh, h1, hv, hrs]
        | false =>
          rw [eWords_yes (by simp [endB, hh, h1])]
          rw [re_eq m k, h1] at hre
          simp [openB, hh, h1, hv, ← hrs, hre]
      | false =>
        rw [hv] at hrs
        have hrs' : rs m k = k := by simpa using hrs
        rw [rWords_yes (by simp [startB, hv, hh]), ih]
        cases h1 : has m (k + 1) with
        | true => rw [eWords_no (by simp [endB, h1])]; simp [openB, hp_succ, hh, h1, hv, hrs']
        | false =>
          rw [eWords_yes (by simp [endB, hh, h1])]
          have : re m k = k := by rw [re_eq, h1]; simp
          simp [openB, h1, hv, hrs', this]
theorem textM_rT (m : MK) : textM m = rT m 256 := by
  unfold textM rT
  rw [stT_words_eq m 256 (Nat.le_refl _), rWords_eq]
  simp [openB, has_of_ge m (Nat.le_refl 256)]
end Go.Proofs.YtbjeaebgnnljhaaDoor
