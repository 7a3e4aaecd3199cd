/- WALKS: the reference's Has. -/
import Derived.Test.YtbjeaebgnnljhaaDoorWa
namespace Go.Proofs.YtbjeaebgnnljhaaDoor
open Go.RowKit Go.Shelf
set_option maxHeartbeats 1000000
set_option maxRecDepth 100000

theorem ret_bool {a b : Bool} (h : a = b) : Ending.returned (.bool a) = .returned (.bool b) := by rw [h]
theorem half_half (x j : Nat) : x / 2 ^ j / 2 = x / 2 ^ (j + 1) := by
  rw [Nat.div_div_eq_div_mul, ← Nat.pow_succ]
theorem rHas_in (a b c d x : Nat) (hx : x < 2 ^ 64) (i : Int) (h0 : 0 ≤ i) (h1 : i < 256) (w : World)
    (hc : [Value.int .u64 (a : Int), .int .u64 b, .int .u64 c, .int .u64 d][(i / 64).toNat]? = some (.int .u64 x)) :
    Calls Tryd.prog 20 #[.agg #[.int .u64 a, .int .u64 b, .int .u64 c, .int .u64 d], .int .i64 i] w fun e w' => e = .returned (.bool (x.testBit (i % 64).toNat)) ∧ Below w.heap.size w w' := by
  go_enter Tryd.func20, Tryd.ntmps20
  go_wp2
  have HX := Lib.hid hx
  clear hx hc
  go_loop [5, 6] (fun n j => ∃ k : Nat, k ≤ (i % 64).toNat ∧ j = .int .i64 k ∧ n = .int .u64 ((x / 2 ^ k : Nat) : Int)) (fun _ j => (i % 64).toNat - (intOf j).toNat)
  case atStart => exact ⟨0, Nat.zero_le _, rfl, by simp⟩
  case round =>
    obtain ⟨k, hk, rfl, rfl⟩ := hrel
    have hlt64 : x / 2 ^ k < 2 ^ 64 := Nat.lt_of_le_of_lt (Nat.div_le_self _ _) HX.out
    obtain ⟨y, hy⟩ : ∃ y, x / 2 ^ k = y := ⟨_, rfl⟩
    have hs : x / 2 ^ (k + 1) = y / 2 := by rw [← hy, half_half]
    have HS := Lib.hid hs
    rw [hy] at hlt64 ⊢
    by_cases hlt : (k : Int) < i % 64
    · clear hs
      have HY := Lib.hid hy
      clear hy
      go_wp2
      go_round
      case rel => exact ⟨k + 1, by omega, by go_num, by rw [HS.out]; simp⟩
      case measure => simp [intOf]; omega
    · obtain rfl : k = (i % 64).toNat := by omega
      have HT : Hid (((y : Int) % 2 == 1) = x.testBit (i % 64).toNat) := Lib.hid (by
        have e : ((y : Int) % 2 == 1) = decide (y % 2 = 1) := by rw [Bool.eq_iff_iff]; simp; omega
        rw [e, ← hy, Nat.testBit_eq_decide_div_mod_eq])
      clear hs hy
      go_wp2
      go_ret
      exact ⟨ret_bool HT.out, (Below.refl _ _).alloc (Nat.le_refl _) _⟩
theorem word_at (m : MK) (i : Int) (h0 : 0 ≤ i) (h1 : i < 256) : [Value.int .u64 (m.1 : Int), .int .u64 m.2.1, .int .u64 m.2.2.1, .int .u64 m.2.2.2][(i / 64).toNat]? = some (.int .u64 (word m (i / 64).toNat)) := by
  have h4 : (i / 64).toNat = 0 ∨ (i / 64).toNat = 1 ∨ (i / 64).toNat = 2 ∨ (i / 64).toNat = 3 := by omega
  rcases h4 with h | h | h | h <;> rw [h] <;> rfl
theorem rHas_any (m : MK) (hm : mok m) (i : Int) (w : World) : Calls Tryd.prog 20 #[mv m, .int .i64 i] w fun e w' => e = .returned (.bool (hasI m i)) ∧ Below w.heap.size w w' := by
  by_cases h0 : 0 ≤ i
  · by_cases h1 : i < 256
    · rw [hasI_word m i (i / 64).toNat h0 h1 (by omega)]
      exact rHas_in m.1 m.2.1 m.2.2.1 m.2.2.2 _ (mok_word hm _) i h0 h1 w (word_at m i h0 h1)
    · have HR : Hid (hasI m i = false) := Lib.hid (by rw [hasI, has_of_ge _ (by omega)]; simp)
      clear hm
      unfold mv
      go_enter Tryd.func20, Tryd.ntmps20
      go_wp2
      go_ret
      exact ⟨by rw [HR.out]; rfl, (Below.refl _ _).alloc (Nat.le_refl _) _⟩
  · have HR : Hid (hasI m i = false) := Lib.hid (by simp [hasI, h0])
    clear hm
    unfold mv
    go_enter Tryd.func20, Tryd.ntmps20
    go_wp2
    go_ret
    exact ⟨by rw [HR.out]; rfl, (Below.refl _ _).alloc (Nat.le_refl _) _⟩
end Go.Proofs.YtbjeaebgnnljhaaDoor
