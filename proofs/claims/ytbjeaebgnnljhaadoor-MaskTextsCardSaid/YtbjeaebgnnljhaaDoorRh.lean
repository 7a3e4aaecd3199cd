/- WALKS: the reference's Text. -/
import Derived.Test.YtbjeaebgnnljhaaDoorRg
namespace Go.Proofs.YtbjeaebgnnljhaaDoor
open Go.RowKit Go.Shelf
set_option maxHeartbeats 1000000
set_option maxRecDepth 100000

/-- Where the range that holds core x ends. -/
def reF (m : MK) : Nat → Nat → Nat
  | 0, x => x
  | f + 1, x => if has m (x + 1) then reF m f (x + 1) else x
def re (m : MK) (x : Nat) : Nat := reF m (256 - x) x
theorem re_eq (m : MK) (x : Nat) : re m x = if has m (x + 1) then re m (x + 1) else x := by
  unfold re
  by_cases h : has m (x + 1) = true
  · have hl := has_lt h
    rw [if_pos h, show 256 - x = (256 - (x + 1)) + 1 by omega, reF, if_pos h]
  · rw [if_neg h]
    cases hf : 256 - x with
    | zero => rfl
    | succ f => rw [reF, if_neg h]
theorem re_bd (m : MK) : ∀ (d x : Nat), 256 - x = d → x < 256 → x ≤ re m x ∧ re m x < 256 := by
  intro d
  induction d with
  | zero => intro x h1 h2; omega
  | succ d ih =>
    intro x h1 h2
    rw [re_eq]
    by_cases h : has m (x + 1) = true
    · have hl := has_lt h
      rw [if_pos h]
      have := ih (x + 1) (by omega) hl
      omega
    · rw [if_neg h]; omega
/-- Is the core before it there, too? -/
def hp (m : MK) (k : Nat) : Bool := decide (0 < k) && has m (k - 1)
theorem hp_I (m : MK) (k : Nat) : hasI m ((k : Int) - 1) = hp m k := by
  cases k with
  | zero => simp [hasI, hp]
  | succ k =>
    have : ((k + 1 : Nat) : Int) - 1 = (k : Int) := by omega
    rw [this, hasI_nat]; simp [hp]
def startB (m : MK) (c : Nat) : Bool := has m c && !hp m c
def rWords (m : MK) (k : Nat) : List (List UInt8) := ((List.range k).filter (startB m)).map fun c => wordOf c (re m c)
theorem rWords_yes {m : MK} {k : Nat} (h : startB m k = true) : rWords m (k + 1) = rWords m k ++ [wordOf k (re m k)] := by simp [rWords, List.range_succ, h]
theorem rWords_no {m : MK} {k : Nat} (h : startB m k = false) : rWords m (k + 1) = rWords m k := by simp [rWords, List.range_succ, h]
def rT (m : MK) (k : Nat) : List UInt8 := Lib.join (rWords m k) [44]
theorem join_snoc (ws : List (List UInt8)) (b : List UInt8) (h : ws ≠ []) : Lib.join (ws ++ [b]) [44] = Lib.join ws [44] ++ [44] ++ b := by
  cases ws with
  | nil => exact absurd rfl h
  | cons x r => rw [List.cons_append, Lib.join_cons, Lib.join_cons, Lib.joinTail, Lib.joinTail]; simp
theorem wordOf_ne (g c : Nat) : wordOf g c ≠ [] := by
  unfold wordOf
  intro h
  have h1 := congrArg List.length h
  rw [List.length_append, Lib.decDigits_length] at h1
  have := Lib.nDigits_pos g
  simp at h1; omega
theorem join_ne (ws : List (List UInt8)) (h : ws ≠ []) (hw : ∀ b ∈ ws, b ≠ []) : Lib.join ws [44] ≠ [] := by
  cases ws with
  | nil => exact absurd rfl h
  | cons x r => rw [Lib.join_cons]; have := hw x (by simp); simp [this]
theorem rWords_ne (m : MK) (k : Nat) : ∀ b ∈ rWords m k, b ≠ [] := by
  intro b hb
  obtain ⟨c, -, rfl⟩ := List.mem_map.1 hb
  exact wordOf_ne _ _
theorem wordOf_le {g c : Nat} (hg : g < 256) (hc : c < 256) : (wordOf g c).length ≤ 7 := by
  unfold wordOf
  have := dec_len hg
  have := dec_len hc
  split <;> simp <;> omega
theorem rT_le (m : MK) (k : Nat) (hk : k ≤ 256) : (rT m k).length ≤ 140737488355328 := by
  refine join_le _ (fun b hb => ?_) ?_
  · obtain ⟨c, hc, rfl⟩ := List.mem_map.1 hb
    have hc2 : c < 256 := by have := (List.mem_filter.1 hc).1; simp at this; omega
    exact wordOf_le hc2 (re_bd m _ c rfl hc2).2
  · unfold rWords; rw [List.length_map]
    exact Nat.le_trans (List.length_filter_le _ _) (by simpa using hk)
theorem rT_no {m : MK} {k : Nat} (h : startB m k = false) : rT m (k + 1) = rT m k := by rw [rT, rWords_no h, rT]
theorem rT_yes {m : MK} {k : Nat} (h : startB m k = true) : rT m (k + 1) = (if rT m k = [] then [] else rT m k ++ [44]) ++ wordOf k (re m k) := by
  rw [rT, rWords_yes h]
  by_cases he : rWords m k = []
  · rw [rT, he]; simp [Lib.join_nil, Lib.join_one]
  · rw [join_snoc _ _ he, rT, if_neg (join_ne _ he (rWords_ne m k))]

theorem rText_any (m : MK) (hm : mok m) (w : World) : Calls Tryd.prog 25 #[mv m] w fun e w' => e = .returned (strV (rT m 256)) ∧ Below w.heap.size w w' := by
  have HM := Lib.hid hm
  clear hm
  unfold mv
  go_enter Tryd.func25, Tryd.ntmps25
  go_wp2
  go_loopw [3, 4] (fun s i wr => ∃ k : Nat, k ≤ 256 ∧ i = .int .i64 k ∧ s = strV (rT m k) ∧ Below w.heap.size w wr ∧ Blk wr w.heap.size #[.int .u64 m.1, .int .u64 m.2.1, .int .u64 m.2.2.1, .int .u64 m.2.2.2] 24) (fun _ i _ => 256 - (intOf i).toNat)
  case atStart =>
    exact ⟨0, by omega, rfl, by rfl, (Below.refl _ _).alloc (Nat.le_refl _) _, Blk.new w _ 24⟩
  case round =>
    obtain ⟨k, hk, rfl, rfl, hb0, h0⟩ := hrel
    obtain ⟨c0, c1, c2, c3, f0, f1, f2, f3⟩ := h0.all4
    have H0 := Lib.hid (And.intro hb0 h0)
    have hlt0 := h0.lt
    clear hb0 h0
    by_cases hlt : k < 256
    · cases hh : has m k with
      | false =>
        have HH : Hid (hasI m (k : Int) = false) := Lib.hid (by rw [hasI_nat]; exact hh)
        have HS := Lib.hid (rT_no (m := m) (k := k) (by simp [startB, hh]))
        clear hh
        go_wp2_with (go_at_call 20; refine (rHas_any m HM.out _ _).mono ?_; rintro e w1 ⟨rfl, hb⟩; rw [HH.out])
        go_roundw
        case rel => exact ⟨k + 1, by omega, by go_num, by rw [HS.out], H0.out.1.trans (hb.mono H0.out.1.size), H0.out.2.below hb H0.out.2.lt⟩
        case measure => simp [intOf]; omega
      | true =>
        have HH : Hid (hasI m (k : Int) = true) := Lib.hid (by rw [hasI_nat]; exact hh)
        cases hpv : hp m k with
        | true =>
          have HP : Hid (hasI m ((k : Int) - 1) = true) := Lib.hid (by rw [hp_I]; exact hpv)
          have HS := Lib.hid (rT_no (m := m) (k := k) (by simp [startB, hpv]))
          clear hh hpv
          have s0 := Lib.hid trivial
          go_wp2_with (first
            | (go_at_call 20; (have q := s0; clear q); refine (rHas_any m HM.out _ _).mono ?_; rintro e w1 ⟨rfl, hb⟩; rw [HH.out]; obtain ⟨hc, hf⟩ := bcell hb; have hq := Lib.hid hb; clear hb; have hb := hq; clear hq s0; have s1 := Lib.hid trivial)
            | (go_at_call 20; (have q := s1; clear q); refine (rHas_any m HM.out _ _).mono ?_; rintro e w2 ⟨rfl, hb2⟩; rw [HP.out]; clear hc hf; have hq := Lib.hid (Below.trans hb.out (hb2.mono hb.out.size)); clear hb hb2; have hb := hq; clear hq))
          go_roundw
          case rel => exact ⟨k + 1, by omega, by go_num, by rw [HS.out], H0.out.1.trans (hb.out.mono H0.out.1.size), H0.out.2.below hb.out H0.out.2.lt⟩
          case measure => simp [intOf]; omega
        | false =>
          have HP : Hid (hasI m ((k : Int) - 1) = false) := Lib.hid (by rw [hp_I]; exact hpv)
          have HS := Lib.hid (rT_yes (m := m) (k := k) (by simp [startB, hpv, hh]))
          clear hh hpv
          have s0 := Lib.hid trivial
          obtain ⟨wo, hwo⟩ : ∃ wo : World, wo = wr := ⟨_, rfl⟩
          subst hwo
          go_wp2_with (first
            | (go_at_call 20; (have q := s0; clear q); refine (rHas_any m HM.out _ _).mono ?_; rintro e w1 ⟨rfl, hb⟩; rw [HH.out]; obtain ⟨hc, hf⟩ := bcell hb; have hq := Lib.hid hb; clear hb; have hb := hq; clear hq s0; have s1 := Lib.hid trivial)
            | (go_at_call 20; (have q := s1; clear q); refine (rHas_any m HM.out _ _).mono ?_; rintro e w2 ⟨rfl, hb2⟩; rw [HP.out]; clear hc hf; have hq := Lib.hid (Below.trans hb.out (hb2.mono hb.out.size)); clear hb hb2; have hb := hq; clear hq))
          have HB2 : Hid (Below w.heap.size w w2) := Lib.hid (H0.out.1.trans (hb.out.mono H0.out.1.size))
          have HK2 := Lib.hid (H0.out.2.below hb.out H0.out.2.lt)
          clear hb s1 H0 c0 c1 c2 c3 f0 f1 f2 f3
          go_loopw [5] (fun v wr => ∃ x : Nat, k ≤ x ∧ x < 256 ∧ v = .int .i64 x ∧ re m x = re m k ∧ Below w.heap.size w wr ∧ Blk wr w.heap.size #[.int .u64 m.1, .int .u64 m.2.1, .int .u64 m.2.2.1, .int .u64 m.2.2.2] 24) (fun v _ => 256 - (intOf v).toNat)
          case atStart => exact ⟨k, Nat.le_refl _, hlt, rfl, rfl, HB2.out, HK2.out⟩
          case round =>
            obtain ⟨x, hkx, hx, rfl, hre, hb0, h0⟩ := hrel
            clear HB2 HK2
            obtain ⟨c0, c1, c2, c3, f0, f1, f2, f3⟩ := h0.all4
            have H0 := Lib.hid (And.intro hb0 h0)
            clear hb0 h0
            cases hh2 : has m (x + 1) with
            | true =>
              have HH2 : Hid (hasI m ((x : Int) + 1) = true) := Lib.hid (by rw [show ((x : Int) + 1) = ((x + 1 : Nat) : Int) from by omega, hasI_nat]; exact hh2)
              have hx1 := has_lt hh2
              have HRE : Hid (re m (x + 1) = re m k) := Lib.hid (by rw [← hre, re_eq m x, if_pos hh2])
              clear hh2 hre
              go_wp2_with (go_at_call 20; refine (rHas_any m HM.out _ _).mono ?_; rintro e w3 ⟨rfl, hb⟩; rw [HH2.out])
              go_roundw
              case rel => exact ⟨x + 1, by omega, hx1, by go_num, HRE.out, H0.out.1.trans (hb.mono H0.out.1.size), H0.out.2.below hb H0.out.2.lt⟩
              case measure => simp [intOf]; omega
            | false =>
              have HH2 : Hid (hasI m ((x : Int) + 1) = false) := Lib.hid (by rw [show ((x : Int) + 1) = ((x + 1 : Nat) : Int) from by omega, hasI_nat]; exact hh2)
              have hxe : re m k = x := by rw [← hre, re_eq m x, if_neg (by rw [hh2]; simp)]
              rw [hxe] at HS
              clear hh2 hre hxe
              have hd1 := dec_len hlt
              have hd2 := dec_len hx
              have hTl := rT_le m k hk
              generalize rT m k = T at HS hTl
              simp only [strV]
              by_cases hT : T = []
              · subst hT
                rw [if_pos rfl, List.nil_append] at HS
                by_cases hxk : k < x
                · rw [wordOf, if_pos hxk] at HS
                  have hxi : (k : Int) < (x : Int) := by omega
                  have t0 := Lib.hid trivial
                  go_wp2_with (first
                    | (go_at_call 20; refine (rHas_any m HM.out _ _).mono ?_; rintro e w3 ⟨rfl, hb⟩; rw [HH2.out]; have hq := Lib.hid hb; clear hb; have hb := hq; clear hq)
                    | (go_at_call 46; (have q := t0; clear q); refine (rDigits_any _ (by omega) _).mono ?_; rintro e w4 ⟨rfl, hb2⟩; dsimp only [strV]; have hq := Lib.hid (Below.trans hb.out (hb2.mono hb.out.size)); clear hb hb2 t0; have hb := hq; clear hq; have t1 := Lib.hid trivial)
                    | (go_at_call 46; (have q := t1; clear q); refine (rDigits_any _ (by omega) _).mono ?_; rintro e w5 ⟨rfl, hb2⟩; dsimp only [strV]; have hq := Lib.hid (Below.trans hb.out (hb2.mono hb.out.size)); clear hb hb2; have hb := hq; clear hq))
                  go_roundw
                  case rel => exact ⟨k + 1, by omega, by go_num, by rw [HS.out]; exact congrArg Value.string (ByteArray.ext (by simp)), H0.out.1.trans (hb.out.mono H0.out.1.size), H0.out.2.below hb.out H0.out.2.lt⟩
                  case measure => simp [intOf]; omega
                · rw [wordOf, if_neg hxk] at HS
                  have hxi : ¬ (k : Int) < (x : Int) := by omega
                  have t0 := Lib.hid trivial
                  go_wp2_with (first
                    | (go_at_call 20; refine (rHas_any m HM.out _ _).mono ?_; rintro e w3 ⟨rfl, hb⟩; rw [HH2.out]; have hq := Lib.hid hb; clear hb; have hb := hq; clear hq)
                    | (go_at_call 46; (have q := t0; clear q); refine (rDigits_any _ (by omega) _).mono ?_; rintro e w4 ⟨rfl, hb2⟩; dsimp only [strV]; have hq := Lib.hid (Below.trans hb.out (hb2.mono hb.out.size)); clear hb hb2 t0; have hb := hq; clear hq; have t1 := Lib.hid trivial)
                    | (go_at_call 46; (have q := t1; clear q); refine (rDigits_any _ (by omega) _).mono ?_; rintro e w5 ⟨rfl, hb2⟩; dsimp only [strV]; have hq := Lib.hid (Below.trans hb.out (hb2.mono hb.out.size)); clear hb hb2; have hb := hq; clear hq))
                  go_roundw
                  case rel => exact ⟨k + 1, by omega, by go_num, by rw [HS.out]; exact congrArg Value.string (ByteArray.ext (by simp)), H0.out.1.trans (hb.out.mono H0.out.1.size), H0.out.2.below hb.out H0.out.2.lt⟩
                  case measure => simp [intOf]; omega
              · rw [if_neg hT] at HS
                obtain ⟨b, r, rfl⟩ : ∃ b r, T = b :: r := by cases T with | nil => exact absurd rfl hT | cons b r => exact ⟨b, r, rfl⟩
                clear hT
                have hTl2 : r.length + 1 ≤ 140737488355328 := hTl
                clear hTl
                by_cases hxk : k < x
                · rw [wordOf, if_pos hxk] at HS
                  have hxi : (k : Int) < (x : Int) := by omega
                  have t0 := Lib.hid trivial
                  go_wp2_with (first
                    | (go_at_call 20; refine (rHas_any m HM.out _ _).mono ?_; rintro e w3 ⟨rfl, hb⟩; rw [HH2.out]; have hq := Lib.hid hb; clear hb; have hb := hq; clear hq)
                    | (go_at_call 46; (have q := t0; clear q); refine (rDigits_any _ (by omega) _).mono ?_; rintro e w4 ⟨rfl, hb2⟩; dsimp only [strV]; have hq := Lib.hid (Below.trans hb.out (hb2.mono hb.out.size)); clear hb hb2 t0; have hb := hq; clear hq; have t1 := Lib.hid trivial)
                    | (go_at_call 46; (have q := t1; clear q); refine (rDigits_any _ (by omega) _).mono ?_; rintro e w5 ⟨rfl, hb2⟩; dsimp only [strV]; have hq := Lib.hid (Below.trans hb.out (hb2.mono hb.out.size)); clear hb hb2; have hb := hq; clear hq))
                  go_roundw
                  case rel => exact ⟨k + 1, by omega, by go_num, by rw [HS.out]; exact congrArg Value.string (ByteArray.ext (by simp)), H0.out.1.trans (hb.out.mono H0.out.1.size), H0.out.2.below hb.out H0.out.2.lt⟩
                  case measure => simp [intOf]; omega
                · rw [wordOf, if_neg hxk] at HS
                  have hxi : ¬ (k : Int) < (x : Int) := by omega
                  have t0 := Lib.hid trivial
                  go_wp2_with (first
                    | (go_at_call 20; refine (rHas_any m HM.out _ _).mono ?_; rintro e w3 ⟨rfl, hb⟩; rw [HH2.out]; have hq := Lib.hid hb; clear hb; have hb := hq; clear hq)
                    | (go_at_call 46; (have q := t0; clear q); refine (rDigits_any _ (by omega) _).mono ?_; rintro e w4 ⟨rfl, hb2⟩; dsimp only [strV]; have hq := Lib.hid (Below.trans hb.out (hb2.mono hb.out.size)); clear hb hb2 t0; have hb := hq; clear hq; have t1 := Lib.hid trivial)
                    | (go_at_call 46; (have q := t1; clear q); refine (rDigits_any _ (by omega) _).mono ?_; rintro e w5 ⟨rfl, hb2⟩; dsimp only [strV]; have hq := Lib.hid (Below.trans hb.out (hb2.mono hb.out.size)); clear hb hb2; have hb := hq; clear hq))
                  go_roundw
                  case rel => exact ⟨k + 1, by omega, by go_num, by rw [HS.out]; exact congrArg Value.string (ByteArray.ext (by simp)), H0.out.1.trans (hb.out.mono H0.out.1.size), H0.out.2.below hb.out H0.out.2.lt⟩
                  case measure => simp [intOf]; omega
    · obtain rfl : k = 256 := by omega
      go_wp2
      go_ret
      exact ⟨rfl, H0.out.1⟩
end Go.Proofs.YtbjeaebgnnljhaaDoor
