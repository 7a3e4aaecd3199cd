/- WALKS: the reference's number. -/
import Derived.Test.YtbjeaebgnnljhaaDoorRg
namespace Go.Proofs.YtbjeaebgnnljhaaDoor
open Go.RowKit Go.Shelf
set_option maxHeartbeats 1000000
set_option maxRecDepth 100000

theorem snocInd' {α : Type} {P : List α → Prop} (h0 : P []) (h1 : ∀ l x, P l → P (l ++ [x])) (l : List α) : P l := by
  have key : ∀ r : List α, P r.reverse := fun r => by
    induction r with
    | nil => exact h0
    | cons x r ih => rw [List.reverse_cons]; exact h1 _ _ ih
  have h := key l.reverse
  rwa [List.reverse_reverse] at h
def isD (c : UInt8) : Bool := decide (48 ≤ c.toNat) && decide (c.toNat ≤ 57)
def digs (l : List UInt8) : List UInt8 := (l.take 4).takeWhile isD
def valD (l : List UInt8) : Nat := l.foldl (fun n c => 10 * n + (c.toNat - 48)) 0
theorem valD_snoc (l : List UInt8) (c : UInt8) : valD (l ++ [c]) = 10 * valD l + (c.toNat - 48) := by simp [valD]
/-- What number answers at a place. -/
def numR (l : List UInt8) (p : Nat) : Int × Int := if digs l = [] then (-1, p) else ((valD (digs l) : Nat), ((p + (digs l).length : Nat) : Int))
theorem digs_len (l : List UInt8) : (digs l).length ≤ 4 ∧ (digs l).length ≤ l.length := by
  have h := (List.takeWhile_sublist (l := l.take 4) isD).length_le
  have h2 : (digs l).length ≤ (l.take 4).length := h
  rw [List.length_take] at h2
  omega
theorem digs_pre (l : List UInt8) : digs l = l.take (digs l).length := by
  have h : digs l <+: l := (List.takeWhile_prefix isD).trans (List.take_prefix 4 l)
  exact List.prefix_iff_eq_take.1 h
theorem digs_at (l : List UInt8) (j : Nat) (hj : j < (digs l).length) : isD (l[j]'(Nat.lt_of_lt_of_le hj (digs_len l).2)) = true := by
  have h1 : (digs l)[j] = l[j]'(Nat.lt_of_lt_of_le hj (digs_len l).2) := by
    have := digs_pre l
    have h2 : (digs l)[j]? = (l.take (digs l).length)[j]? := by rw [← this]
    rw [List.getElem?_take_of_lt hj, List.getElem?_eq_getElem hj, List.getElem?_eq_getElem (Nat.lt_of_lt_of_le hj (digs_len l).2)] at h2
    exact Option.some.inj h2
  rw [← h1]
  exact List.all_eq_true.1 (List.all_takeWhile (p := isD) (l := l.take 4)) _ (List.getElem_mem hj)
theorem digs_end (l : List UInt8) (h4 : (digs l).length < 4) (hl : (digs l).length < l.length) : isD l[(digs l).length] = false := by
  have key : ∀ (m : List UInt8) (h : (m.takeWhile isD).length < m.length), isD m[(m.takeWhile isD).length] = false := by
    intro m
    induction m with
    | nil => intro h; simp at h
    | cons c m ih =>
      intro h
      by_cases hc : isD c = true
      · simp only [List.takeWhile_cons, hc, if_true, List.length_cons] at h ⊢
        simpa using ih (by simpa using h)
      · simp only [List.takeWhile_cons, hc]
        simpa using hc
  have h := key (l.take 4) (by rw [List.length_take]; unfold digs at h4 hl; omega)
  rw [List.getElem_take] at h
  exact h
theorem valD_lt : ∀ (l : List UInt8) (k : Nat), l.length ≤ k → (∀ c ∈ l, isD c = true) → valD l < 10 ^ k := by
  intro l
  induction l using snocInd' with
  | h0 => intro k _ _; exact Nat.pow_pos (by decide)
  | h1 l c ih =>
    intro k hk hc
    cases k with
    | zero => simp at hk
    | succ k =>
      have h1 := ih k (by simpa using hk) (fun c hc' => hc c (by simp [hc']))
      have h2 := hc c (by simp)
      simp [isD] at h2
      rw [valD_snoc, Nat.pow_succ]
      omega
theorem take_step {l : List UInt8} {j : Nat} (h : j < l.length) : valD (l.take (j + 1)) = 10 * valD (l.take j) + (l[j].toNat - 48) := by
  rw [List.take_succ_eq_append_getElem h, valD_snoc]
theorem take_digs_lt (l : List UInt8) (j : Nat) (hj : j ≤ (digs l).length) : valD (l.take j) < 10000 := by
  have h4 := (digs_len l).1
  have hl := (digs_len l).2
  refine valD_lt (l.take j) 4 (by rw [List.length_take]; omega) fun c hc => ?_
  obtain ⟨i, hi, rfl⟩ := List.mem_take_iff_getElem.1 hc
  exact digs_at l i (by omega)

theorem rNum_any (s : ByteArray) (hs : s.size ≤ 140737488355328) (p : Nat) (hp : p ≤ s.size) (w : World) :
    Calls Tryd.prog 43 #[.string s, .int .i64 (p : Int)] w fun e w' => e = .returned (.tuple #[.int .i64 (numR (s.data.toList.drop p) p).1, .int .i64 (numR (s.data.toList.drop p) p).2]) ∧ w = w' := by
  obtain ⟨l, hl⟩ : ∃ l, s.data.toList.drop p = l := ⟨_, rfl⟩
  rw [hl]
  have hll : l.length = s.size - p := by rw [← hl, List.length_drop]; rfl
  have hget : ∀ (j : Nat) (h : j < l.length) (h2 : p + j < s.size), l[j] = s[p + j] := fun j h h2 => by subst hl; rw [List.getElem_drop]; rfl
  obtain ⟨D, hD⟩ : ∃ D, (digs l).length = D := ⟨_, rfl⟩
  have hdl := digs_len l
  have HA : Hid (∀ (k : Nat) (h2 : k < s.size), p ≤ k → k < p + D → isD s[k] = true ∧ valD (l.take (k + 1 - p)) = 10 * valD (l.take (k - p)) + (s[k].toNat - 48)) := Lib.hid (fun k h2 hp1 hk => by
    obtain ⟨j, rfl⟩ : ∃ j, k = p + j := ⟨k - p, by omega⟩
    have hjl : j < l.length := by omega
    rw [show p + j + 1 - p = j + 1 by omega, show p + j - p = j by omega]
    refine ⟨by rw [← hget j hjl h2]; exact digs_at l j (by omega), by rw [take_step hjl, hget j hjl h2]⟩)
  have HE : Hid (∀ (k : Nat) (h2 : k < s.size), k = p + D → D < 4 → isD s[k] = false) := Lib.hid (fun k h2 hk h4 => by
    subst hk
    have := digs_end l (by omega) (by omega)
    subst hD
    rw [← this, hget _ (by omega) h2])
  have HV : Hid (∀ j, j ≤ D → valD (l.take j) < 10000) := Lib.hid (fun j hj => take_digs_lt l j (by omega))
  have HP : Hid (digs l = l.take D) := Lib.hid (by rw [← hD]; exact digs_pre l)
  have HR : Hid (numR l p = if D = 0 then (-1, (p : Int)) else (((valD (l.take D) : Nat) : Int), ((p + D : Nat) : Int))) := Lib.hid (by
    unfold numR
    by_cases h0 : D = 0
    · rw [if_pos h0, if_pos (List.eq_nil_of_length_eq_zero (by omega))]
    · rw [if_neg h0, if_neg (by intro h; rw [h] at hD; exact h0 hD.symm), hD]; rw [HP.out])
  rw [hD] at hdl
  obtain ⟨hd4, hd5⟩ := hdl
  have hDs : p + D ≤ s.size := by omega
  clear hl hll hget hD hd5
  go_enter Tryd.func43, Tryd.ntmps43
  go_wp2
  go_loop [6, 7] (fun n i => ∃ k : Nat, p ≤ k ∧ k ≤ p + D ∧ i = .int .i64 k ∧ n = .int .i64 ((valD (l.take (k - p)) : Nat) : Int)) (fun _ i => p + D - (intOf i).toNat)
  case atStart => exact ⟨p, Nat.le_refl _, by omega, rfl, by rw [Nat.sub_self]; rfl⟩
  case round =>
    obtain ⟨k, hk1, hk2, rfl, rfl⟩ := hrel
    have hv := HV.out (k - p) (by omega)
    obtain ⟨y, hy⟩ : ∃ y, valD (l.take (k - p)) = y := ⟨_, rfl⟩
    rw [hy] at hv ⊢
    by_cases hlt : k < p + D
    · have hks : k < s.size := by omega
      obtain ⟨h1, h2⟩ := HA.out k hks hk1 hlt
      rw [hy] at h2
      have HY := Lib.hid hy
      have H2 := Lib.hid h2
      simp only [isD, Bool.and_eq_true, decide_eq_true_eq] at h1
      have g1 : (48 : Int) ≤ (s[k].toNat : Int) := by omega
      have g2 : (s[k].toNat : Int) ≤ 57 := by omega
      have g3 : (k : Int) < (p : Int) + 4 := by omega
      have G4 : Hid ((10 * (y : Int) + (s[k].toNat : Int) - 48) = ((10 * y + (s[k].toNat - 48) : Nat) : Int)) := Lib.hid (by omega)
      clear hy h2 h1
      go_wp2
      go_round
      case rel => exact ⟨k + 1, by omega, by omega, by go_num, by rw [H2.out, ← G4.out]⟩
      case measure => simp [intOf]; omega
    · obtain rfl : k = p + D := by omega
      have e1 : p + D - p = D := by omega
      rw [e1] at hy
      rw [hy] at HR
      have HY := Lib.hid hy
      clear hy e1
      obtain ⟨q, hq⟩ : ∃ q, p + D = q := ⟨_, rfl⟩
      have HE2 : Hid (∀ (h2 : q < s.size), D < 4 → isD s[q] = false) := Lib.hid (fun h2 h4 => HE.out q h2 hq.symm h4)
      rw [hq] at HR hk1 hk2 ⊢
      clear hlt HA HE HV HP hDs
      have HDQ : Hid (4 ≤ D → ¬ (q : Int) < (p : Int) + 4) := Lib.hid (by omega)
      by_cases hD0 : D = 0
      · have hqp : q = p := by omega
        have hRR : numR l p = (-1, (p : Int)) := by rw [HR.out, if_pos hD0]
        have HRR := Lib.hid hRR
        have hD4 : D < 4 := by omega
        have HE3 := Lib.hid (fun h2 => HE2.out h2 hD4)
        clear hRR hD0 HR hk2 hq hv HY hD4 HE2 HDQ
        subst hqp
        by_cases hks : q < s.size
        · have h1 := HE3.out hks
          simp only [isD, Bool.and_eq_false_iff, decide_eq_false_iff_not] at h1
          by_cases h48 : (48 : Int) ≤ (s[q].toNat : Int)
          · have h57 : ¬ (s[q].toNat : Int) ≤ 57 := by omega
            clear h1
            go_wp2
            exact bodyPost_ret (v := .tuple #[.int .i64 (-1), .int .i64 (q : Int)]) (by simp [results, Tryd.results43, go_sem]) rfl ⟨by rw [HRR.out], rfl⟩
          · clear h1
            go_wp2
            exact bodyPost_ret (v := .tuple #[.int .i64 (-1), .int .i64 (q : Int)]) (by simp [results, Tryd.results43, go_sem]) rfl ⟨by rw [HRR.out], rfl⟩
        · go_wp2
          exact bodyPost_ret (v := .tuple #[.int .i64 (-1), .int .i64 (q : Int)]) (by simp [results, Tryd.results43, go_sem]) rfl ⟨by rw [HRR.out], rfl⟩
      · have hne : ((q : Int) == (p : Int)) = false := by simp; omega
        have hRR : numR l p = ((y : Int), (q : Int)) := by rw [HR.out, if_neg hD0]
        have HRR := Lib.hid hRR
        clear hRR hD0 HR hk2 hq HY
        by_cases hks : q < s.size
        · by_cases h48 : (48 : Int) ≤ (s[q].toNat : Int)
          · by_cases h57 : (s[q].toNat : Int) ≤ 57
            · have h4 : ¬ (q : Int) < (p : Int) + 4 := by
                refine HDQ.out ?_
                rcases Nat.lt_or_ge D 4 with h4 | h4
                · have h1 := HE2.out hks h4
                  simp only [isD, Bool.and_eq_false_iff, decide_eq_false_iff_not] at h1
                  omega
                · exact h4
              clear HE2 HDQ
              go_wp2
              exact bodyPost_ret (v := .tuple #[.int .i64 (y : Int), .int .i64 (q : Int)]) (by simp [results, Tryd.results43, go_sem]) rfl ⟨by rw [HRR.out], rfl⟩
            · clear HE2 HDQ
              go_wp2
              exact bodyPost_ret (v := .tuple #[.int .i64 (y : Int), .int .i64 (q : Int)]) (by simp [results, Tryd.results43, go_sem]) rfl ⟨by rw [HRR.out], rfl⟩
          · clear HE2 HDQ
            go_wp2
            exact bodyPost_ret (v := .tuple #[.int .i64 (y : Int), .int .i64 (q : Int)]) (by simp [results, Tryd.results43, go_sem]) rfl ⟨by rw [HRR.out], rfl⟩
        · clear HE2 HDQ
          go_wp2
          exact bodyPost_ret (v := .tuple #[.int .i64 (y : Int), .int .i64 (q : Int)]) (by simp [results, Tryd.results43, go_sem]) rfl ⟨by rw [HRR.out], rfl⟩
end Go.Proofs.YtbjeaebgnnljhaaDoor
