/- WALKS: And, Or, Minus, of any two masks. -/
import Derived.Test.YtbjeaebgnnljhaaDoorWb
namespace Go.Proofs.YtbjeaebgnnljhaaDoor
open Go.RowKit Go.Shelf
set_option maxHeartbeats 1000000
/-- What a contract that ends in Below says of old cells. -/
theorem bcell {W w1 : World} (hb : Below W.heap.size W w1) : (∀ b o, b < W.heap.size → w1.cell? ⟨b, o, none⟩ = W.cell? ⟨b, o, none⟩) ∧ (∀ b o, b < W.heap.size → w1.frozen? ⟨b, o, none⟩ = W.frozen? ⟨b, o, none⟩) :=
  ⟨fun b o h => hb.cell (p := ⟨b, o, none⟩) h, fun b o h => hb.frozen (p := ⟨b, o, none⟩) h⟩
theorem andF (a b : Int) (w : World) : Calls Tryd.prog 49 #[.int .u64 a, .int .u64 b] w fun e w' => e = .returned (.int .u64 (bits .and .u64 a b)) ∧ w' = w := by
  go_enter Tryd.func49, Tryd.ntmps49
  go_wp2
  go_ret
  exact ⟨rfl, rfl⟩
theorem orF (a b : Int) (w : World) : Calls Tryd.prog 50 #[.int .u64 a, .int .u64 b] w fun e w' => e = .returned (.int .u64 (bits .or .u64 a b)) ∧ w' = w := by
  go_enter Tryd.func50, Tryd.ntmps50
  go_wp2
  go_ret
  exact ⟨rfl, rfl⟩
theorem minusF (a b : Int) (w : World) : Calls Tryd.prog 48 #[.int .u64 a, .int .u64 b] w fun e w' => e = .returned (.int .u64 (bits .andNot .u64 a b)) ∧ w' = w := by
  go_enter Tryd.func48, Tryd.ntmps48
  go_wp2
  go_ret
  exact ⟨rfl, rfl⟩
theorem u64_wraps (n : Int) (h0 : 0 ≤ n) (h1 : n < 2 ^ 64) : IntKind.u64.wrap n = n := by
  obtain ⟨k, rfl⟩ := Int.eq_ofNat_of_zero_le h0; exact u64_wrap_id k (by exact_mod_cast h1)
theorem u64_and (x y : Nat) (hx : x < 2 ^ 64) (hy : y < 2 ^ 64) : bits .and .u64 (x : Int) (y : Int) = ((x &&& y : Nat) : Int) := (bits_nat .u64 64 (by decide) u64_wraps x y hx hy).1
theorem u64_or (x y : Nat) (hx : x < 2 ^ 64) (hy : y < 2 ^ 64) : bits .or .u64 (x : Int) (y : Int) = ((x ||| y : Nat) : Int) := (bits_nat .u64 64 (by decide) u64_wraps x y hx hy).2
def andn (x y : Nat) : Nat := (BitVec.ofNat 64 x &&& ~~~ BitVec.ofNat 64 y).toNat
theorem andn_lt (x y : Nat) : andn x y < 2 ^ 64 := (BitVec.ofNat 64 x &&& ~~~ BitVec.ofNat 64 y).isLt
theorem andn_bit (x y i : Nat) (hi : i < 64) : (andn x y).testBit i = (x.testBit i && !y.testBit i) := by
  unfold andn
  rw [BitVec.testBit_toNat, BitVec.getLsbD_and, BitVec.getLsbD_not, BitVec.getLsbD_ofNat, BitVec.getLsbD_ofNat]
  simp [hi]
theorem u64_andn (x y : Nat) : bits .andNot .u64 (x : Int) (y : Int) = ((andn x y : Nat) : Int) := by
  have h : bits .andNot .u64 (x : Int) (y : Int) = IntKind.u64.wrap ((andn x y : Nat) : Int) := by
    simp only [bits, andn, IntKind.bits, BitVec.ofInt_natCast]; rfl
  rw [h, u64_wrap_id _ (andn_lt x y)]
theorem minusM_words (m o : MK) : minusM m o = (andn m.1 o.1, andn m.2.1 o.2.1, andn m.2.2.1 o.2.2.1, andn m.2.2.2 o.2.2.2) := by
  refine mk_ext (mok_minusM _ _) ⟨andn_lt _ _, andn_lt _ _, andn_lt _ _, andn_lt _ _⟩ fun c hc => ?_
  rw [has_minusM]
  have h4 : c / 64 = 0 ∨ c / 64 = 1 ∨ c / 64 = 2 ∨ c / 64 = 3 := by omega
  have hm : c % 64 < 64 := Nat.mod_lt _ (by decide)
  rcases h4 with h | h | h | h <;> simp [has, h, hc, word, andn_bit _ _ _ hm]
theorem And_any (m o : MK) (hm : mok m) (ho : mok o) (w : World) : Calls Tryd.prog 29 #[mv m, mv o] w fun e w' => e = .returned (mv (andM m o)) ∧ Below w.heap.size w w' := by
  have E : mv (andM m o) = .agg #[.int .u64 (bits .and .u64 m.1 o.1), .int .u64 (bits .and .u64 m.2.1 o.2.1), .int .u64 (bits .and .u64 m.2.2.1 o.2.2.1), .int .u64 (bits .and .u64 m.2.2.2 o.2.2.2)] := by
    rw [u64_and _ _ hm.1 ho.1, u64_and _ _ hm.2.1 ho.2.1, u64_and _ _ hm.2.2.1 ho.2.2.1, u64_and _ _ hm.2.2.2 ho.2.2.2]; rfl
  rw [E]; clear E hm ho
  obtain ⟨a, b, c, d⟩ := m
  obtain ⟨a', b', c', d'⟩ := o
  simp only [mv]
  have hk := Blk.new ((w.alloc (.cells #[.int .u64 a, .int .u64 b, .int .u64 c, .int .u64 d] 27)).alloc (.cells #[.int .u64 a', .int .u64 b', .int .u64 c', .int .u64 d'] 27)) #[.int .u64 0, .int .u64 0, .int .u64 0, .int .u64 0] 27
  have HK := Lib.hid hk
  clear hk
  go_enter Tryd.func29, Tryd.ntmps29
  go_wp2_with (go_at_call 47; refine (each_any 49 (bits .and .u64) (enters_of Tryd.func49 (by kernel_rfl) rfl) andF _ _ _ _ _ _ _ _ _).mono ?_; rintro e w1 ⟨rfl, hb⟩; obtain ⟨hc, hf⟩ := bcell hb)
  have h9 := ((((HK.out.below hb (by simp)).set 0 (.int .u64 (bits .and .u64 a a'))).set 1 (.int .u64 (bits .and .u64 b b'))).set 2 (.int .u64 (bits .and .u64 c c'))).set 3 (.int .u64 (bits .and .u64 d d'))
  rw [World.size_alloc, World.size_alloc] at h9
  refine bodyPost_ret (v := .agg #[.int .u64 (bits .and .u64 a a'), .int .u64 (bits .and .u64 b b'), .int .u64 (bits .and .u64 c c'), .int .u64 (bits .and .u64 d d')]) ?_ rfl ⟨rfl, ?_⟩
  · simp [results, Tryd.results29, go_sem, h9.cell 0 _ rfl, h9.cell 1 _ rfl, h9.cell 2 _ rfl, h9.cell 3 _ rfl]
  · have hW : Below w.heap.size w w1 := ((((Below.refl _ w).alloc (Nat.le_refl _) _).alloc (by simp) _).alloc (by simp; omega) _).trans (hb.mono (by simp; omega))
    exact (((hW.setCell (by simp; omega) _).setCell (by simp; omega) _).setCell (by simp; omega) _).setCell (by simp; omega) _
theorem Or_any (m o : MK) (hm : mok m) (ho : mok o) (w : World) : Calls Tryd.prog 31 #[mv m, mv o] w fun e w' => e = .returned (mv (orM m o)) ∧ Below w.heap.size w w' := by
  have E : mv (orM m o) = .agg #[.int .u64 (bits .or .u64 m.1 o.1), .int .u64 (bits .or .u64 m.2.1 o.2.1), .int .u64 (bits .or .u64 m.2.2.1 o.2.2.1), .int .u64 (bits .or .u64 m.2.2.2 o.2.2.2)] := by
    rw [u64_or _ _ hm.1 ho.1, u64_or _ _ hm.2.1 ho.2.1, u64_or _ _ hm.2.2.1 ho.2.2.1, u64_or _ _ hm.2.2.2 ho.2.2.2]; rfl
  rw [E]; clear E hm ho
  obtain ⟨a, b, c, d⟩ := m
  obtain ⟨a', b', c', d'⟩ := o
  simp only [mv]
  have hk := Blk.new ((w.alloc (.cells #[.int .u64 a, .int .u64 b, .int .u64 c, .int .u64 d] 27)).alloc (.cells #[.int .u64 a', .int .u64 b', .int .u64 c', .int .u64 d'] 27)) #[.int .u64 0, .int .u64 0, .int .u64 0, .int .u64 0] 27
  have HK := Lib.hid hk
  clear hk
  go_enter Tryd.func31, Tryd.ntmps31
  go_wp2_with (go_at_call 47; refine (each_any 50 (bits .or .u64) (enters_of Tryd.func50 (by kernel_rfl) rfl) orF _ _ _ _ _ _ _ _ _).mono ?_; rintro e w1 ⟨rfl, hb⟩; obtain ⟨hc, hf⟩ := bcell hb)
  have h9 := ((((HK.out.below hb (by simp)).set 0 (.int .u64 (bits .or .u64 a a'))).set 1 (.int .u64 (bits .or .u64 b b'))).set 2 (.int .u64 (bits .or .u64 c c'))).set 3 (.int .u64 (bits .or .u64 d d'))
  rw [World.size_alloc, World.size_alloc] at h9
  refine bodyPost_ret (v := .agg #[.int .u64 (bits .or .u64 a a'), .int .u64 (bits .or .u64 b b'), .int .u64 (bits .or .u64 c c'), .int .u64 (bits .or .u64 d d')]) ?_ rfl ⟨rfl, ?_⟩
  · simp [results, Tryd.results31, go_sem, h9.cell 0 _ rfl, h9.cell 1 _ rfl, h9.cell 2 _ rfl, h9.cell 3 _ rfl]
  · have hW : Below w.heap.size w w1 := ((((Below.refl _ w).alloc (Nat.le_refl _) _).alloc (by simp) _).alloc (by simp; omega) _).trans (hb.mono (by simp; omega))
    exact (((hW.setCell (by simp; omega) _).setCell (by simp; omega) _).setCell (by simp; omega) _).setCell (by simp; omega) _
theorem Minus_any (m o : MK) (w : World) : Calls Tryd.prog 27 #[mv m, mv o] w fun e w' => e = .returned (mv (minusM m o)) ∧ Below w.heap.size w w' := by
  have E : mv (minusM m o) = .agg #[.int .u64 (bits .andNot .u64 m.1 o.1), .int .u64 (bits .andNot .u64 m.2.1 o.2.1), .int .u64 (bits .andNot .u64 m.2.2.1 o.2.2.1), .int .u64 (bits .andNot .u64 m.2.2.2 o.2.2.2)] := by
    rw [u64_andn, u64_andn, u64_andn, u64_andn, minusM_words]; rfl
  rw [E]; clear E
  obtain ⟨a, b, c, d⟩ := m
  obtain ⟨a', b', c', d'⟩ := o
  simp only [mv]
  have hk := Blk.new ((w.alloc (.cells #[.int .u64 a, .int .u64 b, .int .u64 c, .int .u64 d] 27)).alloc (.cells #[.int .u64 a', .int .u64 b', .int .u64 c', .int .u64 d'] 27)) #[.int .u64 0, .int .u64 0, .int .u64 0, .int .u64 0] 27
  have HK := Lib.hid hk
  clear hk
  go_enter Tryd.func27, Tryd.ntmps27
  go_wp2_with (go_at_call 47; refine (each_any 48 (bits .andNot .u64) (enters_of Tryd.func48 (by kernel_rfl) rfl) minusF _ _ _ _ _ _ _ _ _).mono ?_; rintro e w1 ⟨rfl, hb⟩; obtain ⟨hc, hf⟩ := bcell hb)
  have h9 := ((((HK.out.below hb (by simp)).set 0 (.int .u64 (bits .andNot .u64 a a'))).set 1 (.int .u64 (bits .andNot .u64 b b'))).set 2 (.int .u64 (bits .andNot .u64 c c'))).set 3 (.int .u64 (bits .andNot .u64 d d'))
  rw [World.size_alloc, World.size_alloc] at h9
  refine bodyPost_ret (v := .agg #[.int .u64 (bits .andNot .u64 a a'), .int .u64 (bits .andNot .u64 b b'), .int .u64 (bits .andNot .u64 c c'), .int .u64 (bits .andNot .u64 d d')]) ?_ rfl ⟨rfl, ?_⟩
  · simp [results, Tryd.results27, go_sem, h9.cell 0 _ rfl, h9.cell 1 _ rfl, h9.cell 2 _ rfl, h9.cell 3 _ rfl]
  · have hW : Below w.heap.size w w1 := ((((Below.refl _ w).alloc (Nat.le_refl _) _).alloc (by simp) _).alloc (by simp; omega) _).trans (hb.mono (by simp; omega))
    exact (((hW.setCell (by simp; omega) _).setCell (by simp; omega) _).setCell (by simp; omega) _).setCell (by simp; omega) _
end Go.Proofs.YtbjeaebgnnljhaaDoor
