/- WALKS: core, Has, with, own, told: masks of four words, in whatever world; what lay stays. -/
import Derived.RangeFuncNested
import Derived.RangeFuncBound
import Derived.RangeFuncCalls
import Derived.RangeFuncLeaves
import Derived.Shelf.Abstract
import Derived.Shelf.RegionOpen
import Derived.WalkKit
import Derived.OwnWalkIn
import Derived.TacticsInMore
import Derived.LoopNIn
import Derived.LoopIn
import Derived.Deep.QuietTactic
import Derived.BigQuiet
import Derived.BigRegion
import Derived.Lib.Hide
import Derived.Test.YtbjeaebgnnljhaaDoorProg
import Derived.Test.YtbjeaebgnnljhaaDoorBits
namespace Go.Proofs.YtbjeaebgnnljhaaDoor
open Go.RowKit Go.Shelf
set_option maxHeartbeats 1000000

theorem core_any (c : Int) (w : World) : Calls Tryd.prog 34 #[.int .i64 c] w fun e w' => e = .returned (.bool (decide (0 ≤ c) && decide (c < 256))) ∧ w = w' := by
  by_cases h0 : 0 ≤ c
  · by_cases h1 : c < 256
    · go_enter Tryd.func34, Tryd.ntmps34
      go_wp2
      go_ret
      exact ⟨by simp [h0, h1], rfl⟩
    · go_enter Tryd.func34, Tryd.ntmps34
      go_wp2
      go_ret
      exact ⟨by simp [h1], rfl⟩
  · go_enter Tryd.func34, Tryd.ntmps34
    go_wp2
    go_ret
    exact ⟨by simp; omega, rfl⟩


theorem size_alloc_le (w : World) (n : Nat) (o : Obj) (h : n ≤ w.heap.size) : n ≤ (w.alloc o).heap.size := by simp; omega
theorem own_any (a b c d : Int) (w : World) : Calls Tryd.prog 10 #[.agg #[.int .u64 a, .int .u64 b, .int .u64 c, .int .u64 d]] w fun e w' => e = .returned (.agg #[.int .u64 a, .int .u64 b, .int .u64 c, .int .u64 d]) ∧ Below w.heap.size w w' := by
  go_enter Tryd.func10, Tryd.ntmps10
  go_wp2
  refine bodyPost_ret (v := .agg #[.int .u64 a, .int .u64 b, .int .u64 c, .int .u64 d]) (by simp [results, Tryd.results10, go_sem]) rfl ⟨rfl, ?_⟩
  repeat (first | exact Below.refl _ _ | exact Nat.le_refl _ | refine Below.alloc ?_ ?_ _ | refine Below.setCell ?_ ?_ _ | refine size_alloc_le _ _ _ ?_)
theorem told_any (a b c d : Int) (w : World) : Calls Tryd.prog 21 #[.agg #[.int .u64 a, .int .u64 b, .int .u64 c, .int .u64 d]] w fun e w' => e = .returned (.agg #[.int .u64 a, .int .u64 b, .int .u64 c, .int .u64 d]) ∧ Below w.heap.size w w' := by
  go_enter Tryd.func21, Tryd.ntmps21
  go_wp2
  refine bodyPost_ret (v := .agg #[.int .u64 a, .int .u64 b, .int .u64 c, .int .u64 d]) (by simp [results, Tryd.results21, go_sem]) rfl ⟨rfl, ?_⟩
  repeat (first | exact Below.refl _ _ | exact Nat.le_refl _ | refine Below.alloc ?_ ?_ _ | refine Below.setCell ?_ ?_ _ | refine size_alloc_le _ _ _ ?_)

/-- Has, of any number. -/
def hasI (m : MK) (i : Int) : Bool := decide (0 ≤ i) && has m i.toNat
theorem hasI_nat (m : MK) (c : Nat) : hasI m (c : Int) = has m c := by simp [hasI]

theorem u64_and_one (x : Nat) (hx : x < 2 ^ 64) : bits .and .u64 (x : Int) 1 = ((x % 2 : Nat) : Int) := by
  have h := bits_mask .u64 64 (by decide) (fun n h0 h1 => by simp only [IntKind.wrap, IntKind.bits, IntKind.signed]; simp; omega) 1 (by decide) (x : Int) (by omega) (by exact_mod_cast hx)
  simpa using h

theorem bit_test (x j : Nat) (hx : x < 2 ^ 64) : (bits .and .u64 ((x : Int) / 2 ^ j) 1 == 1) = x.testBit j := by
  have h : ((x : Int) / 2 ^ j) = ((x / 2 ^ j : Nat) : Int) := by simp
  rw [h, u64_and_one _ (Nat.lt_of_le_of_lt (Nat.div_le_self _ _) hx), Nat.testBit_eq_decide_div_mod_eq]
  by_cases e : x / 2 ^ j % 2 = 1
  · simp [e]
  · have : x / 2 ^ j % 2 = 0 := by omega
    simp [this]

def mv (m : MK) : Value := .agg #[.int .u64 m.1, .int .u64 m.2.1, .int .u64 m.2.2.1, .int .u64 m.2.2.2]
theorem hasI_word (m : MK) (i : Int) (k : Nat) (h0 : 0 ≤ i) (h1 : i < 256) (hk : i / 64 = k) : hasI m i = (word m k).testBit (i % 64).toNat := by
  obtain ⟨n, rfl⟩ := Int.eq_ofNat_of_zero_le h0
  have e1 : n / 64 = k := by omega
  have e2 : ((n : Int) % 64).toNat = n % 64 := by omega
  have e3 : n < 256 := by omega
  rw [hasI_nat, has, e1, e2]; simp [e3]

theorem Has_any (m : MK) (hm : mok m) (i : Int) (w : World) : Calls Tryd.prog 19 #[mv m, .int .i64 i] w fun e w' => e = .returned (.bool (hasI m i)) ∧ Below w.heap.size w w' := by
  obtain ⟨a, b, c, d⟩ := m
  by_cases h0 : 0 ≤ i
  · by_cases h1 : i < 256
    · have ha : a < 2 ^ 64 := hm.1
      have hb : b < 2 ^ 64 := hm.2.1
      have hc : c < 2 ^ 64 := hm.2.2.1
      have hd : d < 2 ^ 64 := hm.2.2.2
      have H := Lib.hid (And.intro ha (And.intro hb (And.intro hc hd)))
      clear hm ha hb hc hd
      have hq : i / 64 = 0 ∨ i / 64 = 1 ∨ i / 64 = 2 ∨ i / 64 = 3 := by omega
      rcases hq with hq | hq | hq | hq
      · have HR := Lib.hid (hasI_word (a, b, c, d) i 0 h0 h1 hq)
        unfold mv
        go_enter Tryd.func19, Tryd.ntmps19
        go_wp2_with (go_at_call 34; refine (core_any _ _).mono ?_; rintro e w' ⟨rfl, rfl⟩)
        go_ret
        exact ⟨by rw [HR.out, bit_test _ _ H.out.1]; rfl, (Below.refl _ _).alloc (Nat.le_refl _) _⟩
      · have HR := Lib.hid (hasI_word (a, b, c, d) i 1 h0 h1 hq)
        unfold mv
        go_enter Tryd.func19, Tryd.ntmps19
        go_wp2_with (go_at_call 34; refine (core_any _ _).mono ?_; rintro e w' ⟨rfl, rfl⟩)
        go_ret
        exact ⟨by rw [HR.out, bit_test _ _ H.out.2.1]; rfl, (Below.refl _ _).alloc (Nat.le_refl _) _⟩
      · have HR := Lib.hid (hasI_word (a, b, c, d) i 2 h0 h1 hq)
        unfold mv
        go_enter Tryd.func19, Tryd.ntmps19
        go_wp2_with (go_at_call 34; refine (core_any _ _).mono ?_; rintro e w' ⟨rfl, rfl⟩)
        go_ret
        exact ⟨by rw [HR.out, bit_test _ _ H.out.2.2.1]; rfl, (Below.refl _ _).alloc (Nat.le_refl _) _⟩
      · have HR := Lib.hid (hasI_word (a, b, c, d) i 3 h0 h1 hq)
        unfold mv
        go_enter Tryd.func19, Tryd.ntmps19
        go_wp2_with (go_at_call 34; refine (core_any _ _).mono ?_; rintro e w' ⟨rfl, rfl⟩)
        go_ret
        exact ⟨by rw [HR.out, bit_test _ _ H.out.2.2.2]; rfl, (Below.refl _ _).alloc (Nat.le_refl _) _⟩
    · have HR : Hid (hasI (a, b, c, d) i = false) := Lib.hid (by rw [hasI, has_of_ge _ (by omega)]; simp)
      clear hm
      unfold mv
      go_enter Tryd.func19, Tryd.ntmps19
      go_wp2_with (go_at_call 34; refine (core_any _ _).mono ?_; rintro e w' ⟨rfl, rfl⟩)
      go_ret
      exact ⟨by rw [HR.out]; rfl, (Below.refl _ _).alloc (Nat.le_refl _) _⟩
  · have HR : Hid (hasI (a, b, c, d) i = false) := Lib.hid (by simp [hasI, h0])
    clear hm
    unfold mv
    go_enter Tryd.func19, Tryd.ntmps19
    go_wp2_with (go_at_call 34; refine (core_any _ _).mono ?_; rintro e w' ⟨rfl, rfl⟩)
    go_ret
    exact ⟨by rw [HR.out]; rfl, (Below.refl _ _).alloc (Nat.le_refl _) _⟩

theorem u64_wrap_id (n : Nat) (h : n < 2 ^ 64) : IntKind.u64.wrap (n : Int) = n := by
  simp only [IntKind.wrap, IntKind.bits, IntKind.signed]; simp; omega
theorem u64_or_pow (x j : Nat) (hx : x < 2 ^ 64) (hj : j < 64) : bits .or .u64 (x : Int) (IntKind.u64.wrap (2 ^ j)) = ((x ||| 2 ^ j : Nat) : Int) := by
  have hp : 2 ^ j < 2 ^ 64 := Nat.pow_lt_pow_right (by decide) hj
  have e : ((2 : Int) ^ j) = ((2 ^ j : Nat) : Int) := by simp
  rw [e, u64_wrap_id _ hp]
  exact (bits_nat .u64 64 (by decide) (fun n h0 h1 => by obtain ⟨k, rfl⟩ := Int.eq_ofNat_of_zero_le h0; exact u64_wrap_id k (by exact_mod_cast h1)) x (2 ^ j) hx hp).2
theorem withI_word (m : MK) (i : Int) (k : Nat) (h0 : 0 ≤ i) (h1 : i < 256) (hk : i / 64 = k) :
    withC m i.toNat = withC m (64 * k + (i % 64).toNat) ∧ (i % 64).toNat < 64 := by
  have : i.toNat = 64 * k + (i % 64).toNat := by omega
  exact ⟨by rw [← this], by omega⟩
theorem with_any (m : MK) (hm : mok m) (i : Int) (h0 : 0 ≤ i) (h1 : i < 256) (w : World) : Calls Tryd.prog 35 #[mv m, .int .i64 i] w fun e w' => e = .returned (mv (withC m i.toNat)) ∧ Below w.heap.size w w' := by
  obtain ⟨a, b, c, d⟩ := m
  have ha : a < 2 ^ 64 := hm.1
  have hb : b < 2 ^ 64 := hm.2.1
  have hc : c < 2 ^ 64 := hm.2.2.1
  have hd : d < 2 ^ 64 := hm.2.2.2
  have H := Lib.hid (And.intro ha (And.intro hb (And.intro hc hd)))
  clear ha hb hc hd
  have hq : i / 64 = 0 ∨ i / 64 = 1 ∨ i / 64 = 2 ∨ i / 64 = 3 := by omega
  rcases hq with hq | hq | hq | hq
  · obtain ⟨e1, e2⟩ := withI_word (a, b, c, d) i 0 h0 h1 hq
    have E : withC (a, b, c, d) i.toNat = (a ||| 2 ^ (i % 64).toNat, b, c, d) := by rw [e1]; exact withC_word _ hm (by omega) e2
    have HR := Lib.hid E
    clear hm E e1
    have O := Lib.hid (u64_or_pow a _ H.out.1 e2)
    clear e2
    unfold mv
    go_enter Tryd.func35, Tryd.ntmps35
    go_wp2
    go_region
    go_wp2
    rw [HR.out, O.out]
    refine bodyPost_ret (v := .agg #[.int .u64 ((a ||| 2 ^ (i % 64).toNat : Nat) : Int), .int .u64 b, .int .u64 c, .int .u64 d]) (by simp [results, Tryd.results35, go_sem]) rfl ⟨rfl, ?_⟩
    repeat (first | exact Below.refl _ _ | exact Nat.le_refl _ | refine Below.drew ?_ | refine Below.alloc ?_ ?_ _ | refine Below.setCell ?_ ?_ _ | refine size_alloc_le _ _ _ ?_)
  · obtain ⟨e1, e2⟩ := withI_word (a, b, c, d) i 1 h0 h1 hq
    have E : withC (a, b, c, d) i.toNat = (a, b ||| 2 ^ (i % 64).toNat, c, d) := by rw [e1]; exact withC_word _ hm (by omega) e2
    have HR := Lib.hid E
    clear hm E e1
    have O := Lib.hid (u64_or_pow b _ H.out.2.1 e2)
    clear e2
    unfold mv
    go_enter Tryd.func35, Tryd.ntmps35
    go_wp2
    go_region
    go_wp2
    rw [HR.out, O.out]
    refine bodyPost_ret (v := .agg #[.int .u64 a, .int .u64 ((b ||| 2 ^ (i % 64).toNat : Nat) : Int), .int .u64 c, .int .u64 d]) (by simp [results, Tryd.results35, go_sem]) rfl ⟨rfl, ?_⟩
    repeat (first | exact Below.refl _ _ | exact Nat.le_refl _ | refine Below.drew ?_ | refine Below.alloc ?_ ?_ _ | refine Below.setCell ?_ ?_ _ | refine size_alloc_le _ _ _ ?_)
  · obtain ⟨e1, e2⟩ := withI_word (a, b, c, d) i 2 h0 h1 hq
    have E : withC (a, b, c, d) i.toNat = (a, b, c ||| 2 ^ (i % 64).toNat, d) := by rw [e1]; exact withC_word _ hm (by omega) e2
    have HR := Lib.hid E
    clear hm E e1
    have O := Lib.hid (u64_or_pow c _ H.out.2.2.1 e2)
    clear e2
    unfold mv
    go_enter Tryd.func35, Tryd.ntmps35
    go_wp2
    go_region
    go_wp2
    rw [HR.out, O.out]
    refine bodyPost_ret (v := .agg #[.int .u64 a, .int .u64 b, .int .u64 ((c ||| 2 ^ (i % 64).toNat : Nat) : Int), .int .u64 d]) (by simp [results, Tryd.results35, go_sem]) rfl ⟨rfl, ?_⟩
    repeat (first | exact Below.refl _ _ | exact Nat.le_refl _ | refine Below.drew ?_ | refine Below.alloc ?_ ?_ _ | refine Below.setCell ?_ ?_ _ | refine size_alloc_le _ _ _ ?_)
  · obtain ⟨e1, e2⟩ := withI_word (a, b, c, d) i 3 h0 h1 hq
    have E : withC (a, b, c, d) i.toNat = (a, b, c, d ||| 2 ^ (i % 64).toNat) := by rw [e1]; exact withC_word _ hm (by omega) e2
    have HR := Lib.hid E
    clear hm E e1
    have O := Lib.hid (u64_or_pow d _ H.out.2.2.2 e2)
    clear e2
    unfold mv
    go_enter Tryd.func35, Tryd.ntmps35
    go_wp2
    go_region
    go_wp2
    rw [HR.out, O.out]
    refine bodyPost_ret (v := .agg #[.int .u64 a, .int .u64 b, .int .u64 c, .int .u64 ((d ||| 2 ^ (i % 64).toNat : Nat) : Int)]) (by simp [results, Tryd.results35, go_sem]) rfl ⟨rfl, ?_⟩
    repeat (first | exact Below.refl _ _ | exact Nat.le_refl _ | refine Below.drew ?_ | refine Below.alloc ?_ ?_ _ | refine Below.setCell ?_ ?_ _ | refine size_alloc_le _ _ _ ?_)
end Go.Proofs.YtbjeaebgnnljhaaDoor
