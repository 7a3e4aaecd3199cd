/- PLAIN: what the reference's masks are; what lists make. -/
import Derived.Test.YtbjeaebgnnljhaaDoorRc
import Derived.Test.YtbjeaebgnnljhaaDoorPa
namespace Go.Proofs.YtbjeaebgnnljhaaDoor

theorem has_makeM (xs : List Int) (c : Nat) : has (makeM xs) c = (decide (c < 256) && decide ((c : Int) ∈ xs)) := by
  rw [makeM, has_ofF]
theorem mem_coll {f : Nat → Bool} {k c : Nat} : (c : Int) ∈ coll f k ↔ c < k ∧ f c = true := by
  unfold coll
  simp only [List.mem_map, List.mem_filter, List.mem_range]
  constructor
  · rintro ⟨x, ⟨h1, h2⟩, h3⟩
    obtain rfl : x = c := by omega
    exact ⟨h1, h2⟩
  · exact fun h => ⟨c, h, rfl⟩
theorem makeM_coll (f : Nat → Bool) : makeM (coll f 256) = ofF f := by
  refine mk_ext (mok_makeM _) (mok_ofF _) fun c hc => ?_
  rw [has_makeM, has_ofF]
  simp [mem_coll, hc]
theorem and_coll {a b : MK} (ha : mok a) : makeM (coll (fun c => has a c && has b c) 256) = andM a b := by
  rw [makeM_coll]
  exact mk_ext (mok_ofF _) (mok_andM ha) fun c hc => by rw [has_ofF, has_andM]; simp [hc]
theorem or_coll {a b : MK} (ha : mok a) (hb : mok b) : makeM (coll (fun c => has a c || has b c) 256) = orM a b := by
  rw [makeM_coll]
  exact mk_ext (mok_ofF _) (mok_orM ha hb) fun c hc => by rw [has_ofF, has_orM]; simp [hc]
theorem minus_coll {a b : MK} : makeM (coll (fun c => has a c && !has b c) 256) = minusM a b := by
  rw [makeM_coll, minusM]
theorem coll_ints (m : MK) : coll (has m) 256 = coreInts m := by rw [coreInts_coreN]; rfl

/-- The list's first n are the least cores. -/
theorem lowest_coll (m : MK) (n : Nat) : makeM ((coll (has m) 256).take n) = lowM ((upTo m 256).take n) := by
  refine mk_ext (mok_makeM _) (mok_lowM _) fun c hc => ?_
  rw [has_makeM, has_lowM, coll_ints, coreInts_coreN, ← List.map_take, List.map_take (f := fun x : C256 => x.1), upTo_coreN]
  simp only [hc, decide_true, Bool.true_and]
  congr 1
  simp only [List.mem_map, eq_iff_iff]
  constructor
  · rintro ⟨x, hx, e⟩
    obtain rfl : x = c := by omega
    exact hx
  · exact fun h => ⟨c, h, rfl⟩
theorem firstN_coll (n : Nat) (hn : n ≤ 256) : makeM (coll (fun _ => true) n) = firstN n := by
  have key : ∀ k, k ≤ 256 → ∀ c, has (firstN k) c = decide (c < k) := by
    intro k
    induction k with
    | zero => intro _ c; simp [firstN, has_mk0]
    | succ k ih =>
      intro hk c
      rw [firstN, has_withC _ (by omega), ih (by omega)]
      rw [Bool.eq_iff_iff]; simp; omega
  refine mk_ext (mok_makeM _) (mok_firstN _) fun c hc => ?_
  rw [has_makeM, key n hn]
  simp [mem_coll, hc]

theorem snocInd {α : Type} {P : List α → Prop} (h0 : P []) (h1 : ∀ l x, P l → P (l ++ [x])) (l : List α) : P l := by
  have key : ∀ r : List α, P r.reverse := fun r => by
    induction r with
    | nil => exact h0
    | cons x r ih => rw [List.reverse_cons]; exact h1 _ _ ih
  have h := key l.reverse
  rwa [List.reverse_reverse] at h
/-- A list of cores, none twice. -/
def fine (l : List Int) : Prop := (∀ c ∈ l, 0 ≤ c ∧ c < 256) ∧ l.Nodup
theorem foldO_some (l : List Int) : fine l → foldO l = some (makeM l) := by
  induction l using snocInd with
  | h0 =>
    intro _
    rw [show foldO [] = some mk0 from rfl]
    exact congrArg some (mk_ext mok_mk0 (mok_makeM _) fun c _ => by rw [has_mk0, has_makeM]; simp)
  | h1 l c ih =>
    rintro ⟨h1, h2⟩
    have hn := List.nodup_append.1 h2
    have hc := h1 c (by simp)
    rw [foldO_snoc, ih ⟨fun x hx => h1 x (by simp [hx]), hn.1⟩]
    have hnot : c ∉ l := fun hx => hn.2.2 c hx c (by simp) rfl
    have hno : hasI (makeM l) c = false := by
      obtain ⟨k, rfl⟩ := Int.eq_ofNat_of_zero_le hc.1
      rw [hasI_nat, has_makeM]; simp [hnot]
    simp only [Option.bind_some, stepO, hc.1, hc.2, hno, and_self, if_true]
    congr 1
    refine mk_ext (mok_withC _ _) (mok_makeM _) fun x hx => ?_
    rw [has_withC _ (by omega), has_makeM, has_makeM]
    obtain ⟨k, rfl⟩ := Int.eq_ofNat_of_zero_le hc.1
    simp only [hx, decide_true, Bool.true_and, Int.toNat_natCast, List.mem_append, List.mem_singleton]
    rw [Bool.eq_iff_iff]; simp only [Bool.or_eq_true, decide_eq_true_eq, Int.ofNat_inj]
theorem foldO_bad (l : List Int) : ¬ fine l → foldO l = none := by
  induction l using snocInd with
  | h0 => exact fun h => absurd ⟨by simp, by simp⟩ h
  | h1 l c ih =>
    intro h
    rw [foldO_snoc]
    by_cases hl : fine l
    · rw [foldO_some l hl]
      simp only [Option.bind_some, stepO]
      rw [if_neg]
      rintro ⟨h0, h1, h2⟩
      refine h ⟨fun x hx => ?_, List.nodup_append.2 ⟨hl.2, by simp, ?_⟩⟩
      · rcases List.mem_append.1 hx with hx | hx
        · exact hl.1 x hx
        · obtain rfl : x = c := by simpa using hx
          exact ⟨h0, h1⟩
      · rintro x hx y hy rfl
        obtain rfl : x = c := by simpa using hy
        obtain ⟨k, rfl⟩ := Int.eq_ofNat_of_zero_le h0
        rw [hasI_nat, has_makeM] at h2
        simp [hx] at h2
        omega
    · rw [ih hl]; rfl
open Classical in
theorem ofRes_eq (l : List Int) : ofRes l = if fine l then (makeM l, 0) else (mk0, 1) := by
  unfold ofRes
  by_cases h : fine l
  · rw [foldO_some l h, if_pos h]
  · rw [foldO_bad l h, if_neg h]
theorem coreInts_fine (m : MK) : fine (coreInts m) := by
  rw [coreInts_coreN]
  refine ⟨fun c hc => ?_, ?_⟩
  · obtain ⟨x, hx, rfl⟩ := List.mem_map.1 hc
    have := has_lt ((mem_coreN m x).1 hx)
    omega
  · have h := coreN_sorted m
    unfold List.Nodup
    rw [List.pairwise_map]
    exact h.imp fun {a b} hab => by omega
theorem ofRes_coreInts {m : MK} (hm : mok m) : ofRes (coreInts m) = (m, 0) := by
  rw [ofRes_eq, if_pos (coreInts_fine m), ← coll_ints, makeM_coll, ofF_has hm]
end Go.Proofs.YtbjeaebgnnljhaaDoor
