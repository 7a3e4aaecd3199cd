/- WALKS: the reference's in, Make. -/
import Derived.Test.YtbjeaebgnnljhaaDoorWg
import Derived.Test.YtbjeaebgnnljhaaDoorRa
namespace Go.Proofs.YtbjeaebgnnljhaaDoor
open Go.RowKit Go.Shelf
set_option maxHeartbeats 1000000
set_option maxRecDepth 100000

theorem IntsAt.shp {W : World} {v : Value} {xs : List Int} (h : IntsAt W v xs) : ∃ p cap, v = .slice p xs.length cap ∧
    (0 < xs.length → ∃ b off, p = some ⟨b, off, none⟩ ∧ b < W.heap.size ∧ ∀ j (h : j < xs.length), W.cell? ⟨b, off + j, none⟩ = some (.int .i64 xs[j])) := by
  rcases h with ⟨rfl, rfl⟩ | ⟨b, off, cap, rfl, hb, hc⟩
  · exact ⟨none, 0, rfl, fun h => absurd h (by simp)⟩
  · exact ⟨_, cap, rfl, fun _ => ⟨b, off, rfl, hb, hc⟩⟩

theorem in_any (xs : List Int) (v : Value) (hlen : xs.length ≤ 140737488355328) (x : Int) (w : World) (hv : IntsAt w v xs) :
    Calls Tryd.prog 36 #[v, .int .i64 x] w fun e w' => e = .returned (.bool (decide (x ∈ xs))) ∧ w = w' := by
  obtain ⟨p, cap, rfl, hp⟩ := hv.shp
  have HP := Lib.hid hp
  clear hp hv
  go_enter Tryd.func36, Tryd.ntmps36
  go_wp2
  go_loop [5] (fun i => ∃ k : Nat, k ≤ xs.length ∧ i = .int .i64 k ∧ x ∉ xs.take k) (fun i => xs.length - (intOf i).toNat)
  case atStart => exact ⟨0, Nat.zero_le _, rfl, by simp⟩
  case round =>
    obtain ⟨k, hk, rfl, hn⟩ := hrel
    have HN := Lib.hid hn
    clear hn
    by_cases hlt : k < xs.length
    · obtain ⟨b, off, rfl, hb, hc⟩ := HP.out (by omega)
      have hc1 := hc k hlt
      have HS : Hid (x ≠ xs[k] → x ∉ xs.take (k + 1)) := Lib.hid (fun e => by
        rw [List.take_succ_eq_append_getElem hlt, List.mem_append]
        rintro (h | h)
        · exact HN.out h
        · exact e (by simpa using h))
      have HM : Hid (x = xs[k] → x ∈ xs) := Lib.hid (fun e => e ▸ List.getElem_mem hlt)
      obtain ⟨y, hy⟩ : ∃ y, xs[k] = y := ⟨_, rfl⟩
      rw [hy] at hc1 HS HM
      clear hc hy
      by_cases hxy : y = x
      · subst hxy
        have HD : Hid (decide (y ∈ xs) = true) := Lib.hid (by simpa using HM.out rfl)
        clear HM
        go_wp2
        go_ret
        exact ⟨ret_bool HD.out.symm, rfl⟩
      · have hq : (y == x) = false := by simpa using hxy
        go_wp2
        go_round
        case rel => exact ⟨k + 1, by omega, by go_num, HS.out (fun e => hxy e.symm)⟩
        case measure => simp [intOf]; omega
    · obtain rfl : k = xs.length := by omega
      have HF : Hid (decide (x ∈ xs) = false) := Lib.hid (by have h := HN.out; rw [List.take_length] at h; simp [h])
      go_wp2
      go_ret
      exact ⟨ret_bool HF.out.symm, rfl⟩

/-- What Make makes. -/
def makeM (xs : List Int) : MK := ofF fun c => decide ((c : Int) ∈ xs)
theorem mok_makeM (xs : List Int) : mok (makeM xs) := mok_ofF _
theorem makeM_word (xs : List Int) (k : Nat) (hk : k < 4) : word (makeM xs) k = bsum (fun i => decide (((64 * k + i : Nat) : Int) ∈ xs)) 64 := by
  have h4 : k = 0 ∨ k = 1 ∨ k = 2 ∨ k = 3 := by omega
  rcases h4 with rfl | rfl | rfl | rfl <;> simp [word, makeM, ofF]
theorem bsum_step (f : Nat → Bool) (j : Nat) (hj : j < 64) : bsum f 64 / 2 ^ j = bsum f 64 / 2 ^ (j + 1) * 2 + (if f j then 1 else 0) := by
  have hb := bsum_bit f 64 j
  rw [Nat.testBit_eq_decide_div_mod_eq] at hb
  rw [← half_half]
  simp only [hj, decide_true, Bool.true_and] at hb
  by_cases h : f j = true
  · rw [h] at hb
    have : bsum f 64 / 2 ^ j % 2 = 1 := by simpa using hb
    rw [if_pos h]; omega
  · have h' : f j = false := by simpa using h
    rw [h'] at hb
    have : bsum f 64 / 2 ^ j % 2 ≠ 1 := by simpa using hb
    rw [if_neg h]; omega
def wcells (m : MK) (k : Nat) : Array Value := #[.int .u64 (if 0 < k then m.1 else 0 : Nat), .int .u64 (if 1 < k then m.2.1 else 0 : Nat), .int .u64 (if 2 < k then m.2.2.1 else 0 : Nat), .int .u64 (if 3 < k then m.2.2.2 else 0 : Nat)]
theorem wcells_set (m : MK) (k : Nat) (hk : k < 4) : (wcells m k).setIfInBounds k (.int .u64 (word m k : Nat)) = wcells m (k + 1) := by
  have h4 : k = 0 ∨ k = 1 ∨ k = 2 ∨ k = 3 := by omega
  rcases h4 with rfl | rfl | rfl | rfl <;> simp [wcells, word]
theorem wcells_at (m : MK) (k : Nat) (hk : k < 4) : ∃ v, (wcells m k)[k]? = some v := by
  have h4 : k = 0 ∨ k = 1 ∨ k = 2 ∨ k = 3 := by omega
  rcases h4 with rfl | rfl | rfl | rfl <;> simp [wcells]

theorem Make_any (xs : List Int) (v : Value) (hlen : xs.length ≤ 140737488355328) (w : World) (hv : IntsAt w v xs) :
    Calls Tryd.prog 37 #[v] w fun e w' => e = .returned (mv (makeM xs)) ∧ Below w.heap.size w w' := by
  have HV := Lib.hid hv
  clear hv
  go_enter Tryd.func37, Tryd.ntmps37
  go_wp2
  go_loopw [4] (fun i wr => ∃ k : Nat, k ≤ 4 ∧ i = .int .i64 k ∧ Below w.heap.size w wr ∧ Blk wr w.heap.size #[.int .u64 0, .int .u64 0, .int .u64 0, .int .u64 0] 24 ∧ Blk wr (w.heap.size + 1) (wcells (makeM xs) k) 24) (fun i _ => 4 - (intOf i).toNat)
  case atStart =>
    refine ⟨0, by omega, rfl, ?_, ?_, ?_⟩
    · repeat (first | exact Below.refl _ _ | exact Nat.le_refl _ | refine Below.drew ?_ | refine Below.alloc ?_ ?_ _ | refine Below.setCell ?_ ?_ _ | refine size_alloc_le _ _ _ ?_)
    · exact (Blk.new w _ 24).alloc _
    · have h := Blk.new (w.alloc (.cells #[.int .u64 0, .int .u64 0, .int .u64 0, .int .u64 0] 24)) #[.int .u64 0, .int .u64 0, .int .u64 0, .int .u64 0] 24
      rwa [World.size_alloc] at h
  case round =>
    obtain ⟨k, hk, rfl, hb, h0, h1⟩ := hrel
    have H0 := Lib.hid (And.intro hb (And.intro h0 h1))
    clear hb h0 h1
    by_cases hlt : k < 4
    · have HVr := Lib.hid (HV.out.below H0.out.1)
      generalize hM : makeM xs = M at H0
      have hMw : word M k = bsum (fun i => decide (((64 * k + i : Nat) : Int) ∈ xs)) 64 := by rw [← hM]; exact makeM_word xs k hlt
      have hWlt : word M k < 2 ^ 64 := by rw [hMw]; exact bsum_lt _ _
      have HS : Hid (∀ j, j < 64 → word M k / 2 ^ j = word M k / 2 ^ (j + 1) * 2 + (if ((64 * k + j : Nat) : Int) ∈ xs then 1 else 0)) := Lib.hid (fun j hj => by
        have h := bsum_step (fun i => decide (((64 * k + i : Nat) : Int) ∈ xs)) j hj
        rw [hMw]; simpa using h)
      have HL := Lib.hid hWlt
      have HMM := Lib.hid hM
      clear hM hMw hWlt
      have hkd : decide ((k : Int) < 4) = true := by simp; omega
      go_wp2
      go_loop [5, 6] (fun n c => ∃ j : Nat, j ≤ 64 ∧ c = .int .i64 ((j : Int) - 1) ∧ n = .int .u64 ((word M k / 2 ^ j : Nat) : Int)) (fun _ c => (intOf c + 1).toNat)
      case atStart => exact ⟨64, Nat.le_refl _, rfl, by rw [Nat.div_eq_of_lt HL.out]; rfl⟩
      case round =>
        obtain ⟨j, hj, rfl, rfl⟩ := hrel
        by_cases hj0 : 0 < j
        · obtain ⟨j, rfl⟩ : ∃ i, j = i + 1 := ⟨j - 1, by omega⟩
          have hs := HS.out j (by omega)
          have hlt64 : word M k / 2 ^ j < 2 ^ 64 := Nat.lt_of_le_of_lt (Nat.div_le_self _ _) HL.out
          obtain ⟨y, hy⟩ : ∃ y, word M k / 2 ^ (j + 1) = y := ⟨_, rfl⟩
          obtain ⟨z, hz⟩ : ∃ z, word M k / 2 ^ j = z := ⟨_, rfl⟩
          rw [hy, hz] at hs
          rw [hz] at hlt64
          rw [hy]
          have HZ := Lib.hid hz
          clear hy hz
          by_cases hin : ((64 * k + j : Nat) : Int) ∈ xs
          · rw [if_pos hin] at hs
            have HD : Hid (decide ((64 * (k : Int) + (j : Int)) ∈ xs) = true) := Lib.hid (by simpa using hin)
            have HZS := Lib.hid hs
            have hy2 : y * 2 + 1 < 2 ^ 64 := by omega
            clear hs hin hlt64
            go_wp2_with (go_at_call 36; refine (in_any xs v hlen _ _ HVr.out).mono ?_; rintro e w' ⟨rfl, rfl⟩; rw [HD.out])
            go_round
            case rel => exact ⟨j, by omega, rfl, by rw [HZ.out, HZS.out]; go_num⟩
            case measure => simp [intOf]
          · rw [if_neg hin] at hs
            have HD : Hid (decide ((64 * (k : Int) + (j : Int)) ∈ xs) = false) := Lib.hid (by simpa using hin)
            have HZS := Lib.hid hs
            have hy2 : y * 2 + 1 < 2 ^ 64 := by omega
            clear hs hin hlt64
            go_wp2_with (go_at_call 36; refine (in_any xs v hlen _ _ HVr.out).mono ?_; rintro e w' ⟨rfl, rfl⟩; rw [HD.out])
            go_round
            case rel => exact ⟨j, by omega, rfl, by rw [HZ.out, HZS.out]; go_num⟩
            case measure => simp [intOf]
        · obtain rfl : j = 0 := by omega
          obtain ⟨u, hu⟩ := wcells_at M k hlt
          have cu := H0.out.2.2.cell k _ hu
          have fu := H0.out.2.2.frozen k
          have HST := Lib.hid (wcells_set M k hlt)
          have HU := Lib.hid hu
          clear hu
          simp only [Nat.pow_zero, Nat.div_one]
          go_wp2
          go_roundw
          case rel =>
            refine ⟨k + 1, by omega, by go_num, H0.out.1.setCell (by simp) _, H0.out.2.1.far _ _ (by simp), ?_⟩
            have h := H0.out.2.2.set k (.int .u64 (word M k : Nat))
            rw [HST.out] at h
            exact h
          case measure => simp [intOf]; omega
    · obtain rfl : k = 4 := by omega
      have c0 : wr.cell? ⟨w.heap.size + 1, 0, none⟩ = some (.int .u64 ((makeM xs).1 : Nat)) := H0.out.2.2.cell 0 _ rfl
      have c1 : wr.cell? ⟨w.heap.size + 1, 1, none⟩ = some (.int .u64 ((makeM xs).2.1 : Nat)) := H0.out.2.2.cell 1 _ rfl
      have c2 : wr.cell? ⟨w.heap.size + 1, 2, none⟩ = some (.int .u64 ((makeM xs).2.2.1 : Nat)) := H0.out.2.2.cell 2 _ rfl
      have c3 : wr.cell? ⟨w.heap.size + 1, 3, none⟩ = some (.int .u64 ((makeM xs).2.2.2 : Nat)) := H0.out.2.2.cell 3 _ rfl
      have f0 := H0.out.2.2.frozen 0
      have f1 := H0.out.2.2.frozen 1
      have f2 := H0.out.2.2.frozen 2
      have f3 := H0.out.2.2.frozen 3
      obtain ⟨e0, e1, e2, e3, g0, g1, g2, g3⟩ := H0.out.2.1.all4
      go_wp2
      have h9 := H0.out.2.1.set4 (.int .u64 (makeM xs).1) (.int .u64 (makeM xs).2.1) (.int .u64 (makeM xs).2.2.1) (.int .u64 (makeM xs).2.2.2)
      refine bodyPost_ret (v := mv (makeM xs)) ?_ rfl ⟨rfl, ?_⟩
      · simp [results, Tryd.results37, go_sem, h9.cell 0 _ rfl, h9.cell 1 _ rfl, h9.cell 2 _ rfl, h9.cell 3 _ rfl]; rfl
      · exact (((H0.out.1.setCell (by simp) _).setCell (by simp) _).setCell (by simp) _).setCell (by simp) _
end Go.Proofs.YtbjeaebgnnljhaaDoor
