/- WALKS: MaskLowest. -/
import Derived.Test.YtbjeaebgnnljhaaDoorWo
import Derived.Test.YtbjeaebgnnljhaaDoorPa
import Derived.Test.YtbjeaebgnnljhaaDoorOrd
set_option linter.unusedSimpArgs false
namespace Go.Proofs.YtbjeaebgnnljhaaDoor
open Go.RowKit Go.Shelf
set_option maxHeartbeats 2000000
set_option maxRecDepth 100000

theorem law6_neg (m : MK) (hm : mok m) (n : Int) (hn : n < 0) (w : World) (hE : Env w) : Calls Tryd.prog 6 #[mv m, .int .i64 n] w fun e w' => e = .returned (.bool true) ∧ Below w.heap.size w w' := by
  have HR : Hid (lowRes m n = (mk0, 1)) := Lib.hid (by rw [lowRes, if_pos hn])
  have HE := Lib.hid hE
  have HM := Lib.hid hm
  have hW := Lib.hid (Below.refl w.heap.size w)
  have s0 := Lib.hid trivial
  clear hE hm
  unfold mv
  go_enter Tryd.func6, Tryd.ntmps6
  go_wp2_with (first
    | (go_at_call 10; (have q := s0; clear q); (fail_if_success (have q := s1)); refine (own_any _ _ _ _ _).mono ?_; rintro e w1 ⟨rfl, hb⟩; have lx := hW.out.size; have hx := Lib.hid (belowStep (w := w) hb (by repeat (first | with_reducible exact hW.out | with_reducible refine Below.setCell ?_ (by first | omega | (simp; omega)) _ | with_reducible refine Below.alloc ?_ (by first | omega | (simp; omega)) _ | with_reducible refine Below.drew ?_))); clear hW lx; have hW := hx; clear hx; have h1 := Lib.hid (blkThru hb (by repeat (first | with_reducible exact Blk.new _ _ 24 | with_reducible apply Blk.alloc))); obtain ⟨c10, c11, c12, c13, f10, f11, f12, f13⟩ := h1.out.all4; have l1 := h1.out.lt; have n1 := Nat.ne_of_lt l1; clear hb; have s1 := Lib.hid trivial)
    | (go_at_call 26; (have q := s1; clear q); (fail_if_success (have q := s2)); refine (Lowest_any m HM.out n _).mono ?_; rintro e w2 ⟨rfl, hb⟩; rw [HR.out]; dsimp only [mv, mk0]; have lx := hW.out.size; have hx := Lib.hid (belowStep (w := w) hb (by repeat (first | with_reducible exact hW.out | with_reducible refine Below.setCell ?_ (by first | omega | (simp; omega)) _ | with_reducible refine Below.alloc ?_ (by first | omega | (simp; omega)) _ | with_reducible refine Below.drew ?_))); clear hW lx; have hW := hx; clear hx; have lx := h1.out.lt; have hx := Lib.hid (blkThru2 (h1.out) (hb := hb) (by intro q; repeat (first | with_reducible exact q | with_reducible refine Blk.far ?_ _ _ (by first | omega | (simp; omega)) | with_reducible refine Blk.alloc ?_ _ | with_reducible refine Blk.drew ?_))); clear c10 c11 c12 c13 f10 f11 f12 f13 l1 n1 lx h1; have h1 := hx; clear hx; obtain ⟨c10, c11, c12, c13, f10, f11, f12, f13⟩ := h1.out.all4; have l1 := h1.out.lt; have n1 := Nat.ne_of_lt l1; have h2 := Lib.hid (blkThru hb (by repeat (first | with_reducible exact Blk.new _ _ 27 | with_reducible apply Blk.alloc))); obtain ⟨c20, c21, c22, c23, f20, f21, f22, f23⟩ := h2.out.all4; have l2 := h2.out.lt; have n2 := Nat.ne_of_lt l2; clear hb; have s2 := Lib.hid trivial)
    | (go_at_call 9; (have q := s2; clear q); (fail_if_success (have q := s3)); refine (live_any _ (HE.out.below (by have lx := hW.out.size; repeat (first | with_reducible exact hW.out | with_reducible refine Below.setCell ?_ (by first | omega | (simp; omega)) _ | with_reducible refine Below.alloc ?_ (by first | omega | (simp; omega)) _ | with_reducible refine Below.drew ?_)))).mono ?_; rintro e w3 ⟨rfl, hb⟩; have lx := hW.out.size; have hx := Lib.hid (belowStep (w := w) hb (by repeat (first | with_reducible exact hW.out | with_reducible refine Below.setCell ?_ (by first | omega | (simp; omega)) _ | with_reducible refine Below.alloc ?_ (by first | omega | (simp; omega)) _ | with_reducible refine Below.drew ?_))); clear hW lx; have hW := hx; clear hx; have lx := h1.out.lt; have hx := Lib.hid (blkThru2 (h1.out) (hb := hb) (by intro q; repeat (first | with_reducible exact q | with_reducible refine Blk.far ?_ _ _ (by first | omega | (simp; omega)) | with_reducible refine Blk.alloc ?_ _ | with_reducible refine Blk.drew ?_))); clear c10 c11 c12 c13 f10 f11 f12 f13 l1 n1 lx h1; have h1 := hx; clear hx; obtain ⟨c10, c11, c12, c13, f10, f11, f12, f13⟩ := h1.out.all4; have l1 := h1.out.lt; have n1 := Nat.ne_of_lt l1; have lx := h2.out.lt; have hx := Lib.hid (blkThru2 (h2.out) (hb := hb) (by intro q; repeat (first | with_reducible exact q | with_reducible refine Blk.far ?_ _ _ (by first | omega | (simp; omega)) | with_reducible refine Blk.alloc ?_ _ | with_reducible refine Blk.drew ?_))); clear c20 c21 c22 c23 f20 f21 f22 f23 l2 n2 lx h2; have h2 := hx; clear hx; obtain ⟨c20, c21, c22, c23, f20, f21, f22, f23⟩ := h2.out.all4; have l2 := h2.out.lt; have n2 := Nat.ne_of_lt l2; have h3 := Lib.hid (blkThru hb (by repeat (first | with_reducible exact Blk.new _ _ 27 | with_reducible apply Blk.alloc))); obtain ⟨c30, c31, c32, c33, f30, f31, f32, f33⟩ := h3.out.all4; have l3 := h3.out.lt; have n3 := Nat.ne_of_lt l3; clear hb; have s3 := Lib.hid trivial))
  exact bodyPost_ret (v := .bool true) (by simp [results, Tryd.results6, go_sem]) rfl ⟨rfl, hW.out⟩
theorem law6_few (m : MK) (hm : mok m) (n : Int) (hn : ¬ n < 0) (hc : ((upTo m 256).length : Int) < n) (w : World) (hE : Env w) : Calls Tryd.prog 6 #[mv m, .int .i64 n] w fun e w' => e = .returned (.bool true) ∧ Below w.heap.size w w' := by
  have HR : Hid (lowRes m n = (mk0, 12)) := Lib.hid (by rw [lowRes, if_neg hn, if_pos hc])
  have HE := Lib.hid hE
  have HM := Lib.hid hm
  have hW := Lib.hid (Below.refl w.heap.size w)
  have s0 := Lib.hid trivial
  clear hE hm
  unfold mv
  go_enter Tryd.func6, Tryd.ntmps6
  go_wp2_with (first
    | (go_at_call 10; (have q := s0; clear q); (fail_if_success (have q := s1)); refine (own_any _ _ _ _ _).mono ?_; rintro e w1 ⟨rfl, hb⟩; have lx := hW.out.size; have hx := Lib.hid (belowStep (w := w) hb (by repeat (first | with_reducible exact hW.out | with_reducible refine Below.setCell ?_ (by first | omega | (simp; omega)) _ | with_reducible refine Below.alloc ?_ (by first | omega | (simp; omega)) _ | with_reducible refine Below.drew ?_))); clear hW lx; have hW := hx; clear hx; have h1 := Lib.hid (blkThru hb (by repeat (first | with_reducible exact Blk.new _ _ 24 | with_reducible apply Blk.alloc))); obtain ⟨c10, c11, c12, c13, f10, f11, f12, f13⟩ := h1.out.all4; have l1 := h1.out.lt; have n1 := Nat.ne_of_lt l1; clear hb; have s1 := Lib.hid trivial)
    | (go_at_call 26; (have q := s1; clear q); (fail_if_success (have q := s2)); refine (Lowest_any m HM.out n _).mono ?_; rintro e w2 ⟨rfl, hb⟩; rw [HR.out]; dsimp only [mv, mk0]; have lx := hW.out.size; have hx := Lib.hid (belowStep (w := w) hb (by repeat (first | with_reducible exact hW.out | with_reducible refine Below.setCell ?_ (by first | omega | (simp; omega)) _ | with_reducible refine Below.alloc ?_ (by first | omega | (simp; omega)) _ | with_reducible refine Below.drew ?_))); clear hW lx; have hW := hx; clear hx; have lx := h1.out.lt; have hx := Lib.hid (blkThru2 (h1.out) (hb := hb) (by intro q; repeat (first | with_reducible exact q | with_reducible refine Blk.far ?_ _ _ (by first | omega | (simp; omega)) | with_reducible refine Blk.alloc ?_ _ | with_reducible refine Blk.drew ?_))); clear c10 c11 c12 c13 f10 f11 f12 f13 l1 n1 lx h1; have h1 := hx; clear hx; obtain ⟨c10, c11, c12, c13, f10, f11, f12, f13⟩ := h1.out.all4; have l1 := h1.out.lt; have n1 := Nat.ne_of_lt l1; have h2 := Lib.hid (blkThru hb (by repeat (first | with_reducible exact Blk.new _ _ 27 | with_reducible apply Blk.alloc))); obtain ⟨c20, c21, c22, c23, f20, f21, f22, f23⟩ := h2.out.all4; have l2 := h2.out.lt; have n2 := Nat.ne_of_lt l2; clear hb; have s2 := Lib.hid trivial)
    | (go_at_call 18; (have q := s2; clear q); (fail_if_success (have q := s3)); refine (Count_any m HM.out _).mono ?_; rintro e w3 ⟨rfl, hb⟩; have lx := hW.out.size; have hx := Lib.hid (belowStep (w := w) hb (by repeat (first | with_reducible exact hW.out | with_reducible refine Below.setCell ?_ (by first | omega | (simp; omega)) _ | with_reducible refine Below.alloc ?_ (by first | omega | (simp; omega)) _ | with_reducible refine Below.drew ?_))); clear hW lx; have hW := hx; clear hx; have lx := h1.out.lt; have hx := Lib.hid (blkThru2 (h1.out) (hb := hb) (by intro q; repeat (first | with_reducible exact q | with_reducible refine Blk.far ?_ _ _ (by first | omega | (simp; omega)) | with_reducible refine Blk.alloc ?_ _ | with_reducible refine Blk.drew ?_))); clear c10 c11 c12 c13 f10 f11 f12 f13 l1 n1 lx h1; have h1 := hx; clear hx; obtain ⟨c10, c11, c12, c13, f10, f11, f12, f13⟩ := h1.out.all4; have l1 := h1.out.lt; have n1 := Nat.ne_of_lt l1; have lx := h2.out.lt; have hx := Lib.hid (blkThru2 (h2.out) (hb := hb) (by intro q; repeat (first | with_reducible exact q | with_reducible refine Blk.far ?_ _ _ (by first | omega | (simp; omega)) | with_reducible refine Blk.alloc ?_ _ | with_reducible refine Blk.drew ?_))); clear c20 c21 c22 c23 f20 f21 f22 f23 l2 n2 lx h2; have h2 := hx; clear hx; obtain ⟨c20, c21, c22, c23, f20, f21, f22, f23⟩ := h2.out.all4; have l2 := h2.out.lt; have n2 := Nat.ne_of_lt l2; have h3 := Lib.hid (blkThru hb (by repeat (first | with_reducible exact Blk.new _ _ 27 | with_reducible apply Blk.alloc))); obtain ⟨c30, c31, c32, c33, f30, f31, f32, f33⟩ := h3.out.all4; have l3 := h3.out.lt; have n3 := Nat.ne_of_lt l3; clear hb; have s3 := Lib.hid trivial)
    | (go_at_call 9; (have q := s3; clear q); (fail_if_success (have q := s4)); refine (live_any _ (HE.out.below (by have lx := hW.out.size; repeat (first | with_reducible exact hW.out | with_reducible refine Below.setCell ?_ (by first | omega | (simp; omega)) _ | with_reducible refine Below.alloc ?_ (by first | omega | (simp; omega)) _ | with_reducible refine Below.drew ?_)))).mono ?_; rintro e w4 ⟨rfl, hb⟩; have lx := hW.out.size; have hx := Lib.hid (belowStep (w := w) hb (by repeat (first | with_reducible exact hW.out | with_reducible refine Below.setCell ?_ (by first | omega | (simp; omega)) _ | with_reducible refine Below.alloc ?_ (by first | omega | (simp; omega)) _ | with_reducible refine Below.drew ?_))); clear hW lx; have hW := hx; clear hx; have lx := h1.out.lt; have hx := Lib.hid (blkThru2 (h1.out) (hb := hb) (by intro q; repeat (first | with_reducible exact q | with_reducible refine Blk.far ?_ _ _ (by first | omega | (simp; omega)) | with_reducible refine Blk.alloc ?_ _ | with_reducible refine Blk.drew ?_))); clear c10 c11 c12 c13 f10 f11 f12 f13 l1 n1 lx h1; have h1 := hx; clear hx; obtain ⟨c10, c11, c12, c13, f10, f11, f12, f13⟩ := h1.out.all4; have l1 := h1.out.lt; have n1 := Nat.ne_of_lt l1; have lx := h2.out.lt; have hx := Lib.hid (blkThru2 (h2.out) (hb := hb) (by intro q; repeat (first | with_reducible exact q | with_reducible refine Blk.far ?_ _ _ (by first | omega | (simp; omega)) | with_reducible refine Blk.alloc ?_ _ | with_reducible refine Blk.drew ?_))); clear c20 c21 c22 c23 f20 f21 f22 f23 l2 n2 lx h2; have h2 := hx; clear hx; obtain ⟨c20, c21, c22, c23, f20, f21, f22, f23⟩ := h2.out.all4; have l2 := h2.out.lt; have n2 := Nat.ne_of_lt l2; have lx := h3.out.lt; have hx := Lib.hid (blkThru2 (h3.out) (hb := hb) (by intro q; repeat (first | with_reducible exact q | with_reducible refine Blk.far ?_ _ _ (by first | omega | (simp; omega)) | with_reducible refine Blk.alloc ?_ _ | with_reducible refine Blk.drew ?_))); clear c30 c31 c32 c33 f30 f31 f32 f33 l3 n3 lx h3; have h3 := hx; clear hx; obtain ⟨c30, c31, c32, c33, f30, f31, f32, f33⟩ := h3.out.all4; have l3 := h3.out.lt; have n3 := Nat.ne_of_lt l3; clear hb; have s4 := Lib.hid trivial))
  exact bodyPost_ret (v := .bool true) (by simp [results, Tryd.results6, go_sem]) rfl ⟨rfl, hW.out⟩
theorem IntsAt.cells {W : World} {p : Option Addr} {n c : Nat} {xs : List Int} (h : IntsAt W (.slice p n c) xs) (hn : 0 < n) : ∃ b off, p = some ⟨b, off, none⟩ ∧ b < W.heap.size ∧ ∀ j, j < xs.length → W.cell? ⟨b, off + j, none⟩ = some (.int .i64 (xs.getD j 0)) := by
  rcases h with ⟨h, rfl⟩ | ⟨b, off, cap, h, hb, hc⟩
  · simp at h; omega
  · simp only [Value.slice.injEq] at h
    obtain ⟨rfl, rfl, rfl⟩ := h
    exact ⟨b, off, rfl, hb, fun j hj => by rw [hc j hj]; simp [hj]⟩
theorem ints_split (m : MK) (n : Nat) (hn : n ≤ (upTo m 256).length) : (coreInts (lowM ((upTo m 256).take n))).length = n ∧ (coreInts (minusM m (lowM ((upTo m 256).take n)))).length = (upTo m 256).length - n ∧
    (0 < n → 0 < (upTo m 256).length - n → (coreInts (lowM ((upTo m 256).take n))).getD (n - 1) 0 < (coreInts (minusM m (lowM ((upTo m 256).take n)))).getD 0 0) := by
  have ea : coreInts (lowM ((upTo m 256).take n)) = ((coreN m).take n).map (fun c => ((c : Nat) : Int)) := by rw [coreInts_coreN, low_take]
  have eb : coreInts (minusM m (lowM ((upTo m 256).take n))) = ((coreN m).drop n).map (fun c => ((c : Nat) : Int)) := by rw [coreInts_coreN, low_drop]
  have el := coreN_length m
  refine ⟨by rw [ea]; simp; omega, by rw [eb]; simp; omega, ?_⟩
  intro h1 h2
  have hb : n < (coreN m).length := by omega
  have h := low_last m n h1 hb
  simp only [ea, eb, List.getD_eq_getElem?_getD]
  rw [List.getElem?_eq_getElem (by simp; omega), List.getElem?_eq_getElem (by simp; omega)]
  simp only [List.getElem_map, List.getElem_take, List.getElem_drop, Nat.add_zero, Int.ofNat_lt, Option.getD_some]
  exact h
theorem law6_ok (m : MK) (hm : mok m) (n : Nat) (hn : n ≤ (upTo m 256).length) (w : World) (hE : Env w) : Calls Tryd.prog 6 #[mv m, .int .i64 n] w fun e w' => e = .returned (.bool true) ∧ Below w.heap.size w w' := by
  have h256 := upTo_length m 256
  have hsp := ints_split m n hn
  have HMI : Hid (minusM (lowM ((upTo m 256).take n)) m = mk0) := Lib.hid (low_minus m n)
  obtain ⟨l, hl⟩ : ∃ l, lowM ((upTo m 256).take n) = l := ⟨_, rfl⟩
  have HL : Hid (mok l) := Lib.hid (hl ▸ mok_lowM _)
  have HR : Hid (lowRes m n = (l, 0)) := Lib.hid (by rw [lowRes, if_neg (by omega), if_neg (by omega), Int.toNat_natCast, hl])
  obtain ⟨k, hk⟩ : ∃ k, (upTo m 256).length - n = k := ⟨_, rfl⟩
  have hn256 : n ≤ 256 := by omega
  have hk256 : k ≤ 256 := by omega
  rw [hl] at hsp HMI
  rw [hk] at hsp
  obtain ⟨xa, hxa⟩ : ∃ xa, coreInts l = xa := ⟨_, rfl⟩
  obtain ⟨xb, hxb⟩ : ∃ xb, coreInts (minusM m l) = xb := ⟨_, rfl⟩
  rw [hxa, hxb] at hsp
  have HXA := Lib.hid hxa
  have HXB := Lib.hid hxb
  have HNA := Lib.hid hsp.1
  have HNB := Lib.hid hsp.2.1
  have HLT := Lib.hid hsp.2.2
  clear hxa hxb hsp hl hk hn h256
  have HE := Lib.hid hE
  have HM := Lib.hid hm
  have hW := Lib.hid (Below.refl w.heap.size w)
  have s0 := Lib.hid trivial
  clear hE hm
  unfold mv
  go_enter Tryd.func6, Tryd.ntmps6
  go_wp2_with (first
    | (go_at_call 10; (have q := s0; clear q); (fail_if_success (have q := s1)); refine (own_any _ _ _ _ _).mono ?_; rintro e w1 ⟨rfl, hb⟩; have lx := hW.out.size; have hx := Lib.hid (belowStep (w := w) hb (by repeat (first | with_reducible exact hW.out | with_reducible refine Below.setCell ?_ (by first | omega | (simp; omega)) _ | with_reducible refine Below.alloc ?_ (by first | omega | (simp; omega)) _ | with_reducible refine Below.drew ?_))); clear hW lx; have hW := hx; clear hx; have h1 := Lib.hid (blkThru hb (by repeat (first | with_reducible exact Blk.new _ _ 24 | with_reducible apply Blk.alloc))); obtain ⟨c10, c11, c12, c13, f10, f11, f12, f13⟩ := h1.out.all4; have l1 := h1.out.lt; have n1 := Nat.ne_of_lt l1; clear hb; have s1 := Lib.hid trivial)
    | (go_at_call 26; (have q := s1; clear q); (fail_if_success (have q := s2)); refine (Lowest_any m HM.out n _).mono ?_; rintro e w2 ⟨rfl, hb⟩; rw [HR.out]; dsimp only [mv]; have lx := hW.out.size; have hx := Lib.hid (belowStep (w := w) hb (by repeat (first | with_reducible exact hW.out | with_reducible refine Below.setCell ?_ (by first | omega | (simp; omega)) _ | with_reducible refine Below.alloc ?_ (by first | omega | (simp; omega)) _ | with_reducible refine Below.drew ?_))); clear hW lx; have hW := hx; clear hx; have lx := h1.out.lt; have hx := Lib.hid (blkThru2 (h1.out) (hb := hb) (by intro q; repeat (first | with_reducible exact q | with_reducible refine Blk.far ?_ _ _ (by first | omega | (simp; omega)) | with_reducible refine Blk.alloc ?_ _ | with_reducible refine Blk.drew ?_))); clear c10 c11 c12 c13 f10 f11 f12 f13 l1 n1 lx h1; have h1 := hx; clear hx; obtain ⟨c10, c11, c12, c13, f10, f11, f12, f13⟩ := h1.out.all4; have l1 := h1.out.lt; have n1 := Nat.ne_of_lt l1; have h2 := Lib.hid (blkThru hb (by repeat (first | with_reducible exact Blk.new _ _ 27 | with_reducible apply Blk.alloc))); obtain ⟨c20, c21, c22, c23, f20, f21, f22, f23⟩ := h2.out.all4; have l2 := h2.out.lt; have n2 := Nat.ne_of_lt l2; clear hb; have s2 := Lib.hid trivial)
    | (go_at_call 17; (have q := s2; clear q); (fail_if_success (have q := s3)); refine (List_any l HL.out _).mono ?_; rintro e w3 ⟨v4, rfl, hV4, hb⟩; rw [HXA.out] at hV4; obtain ⟨pa, ca, rfl, -⟩ := hV4.shape; rw [HNA.out] at hV4 ⊢; have HVA := Lib.hid hV4; clear hV4; have lx := hW.out.size; have hx := Lib.hid (belowStep (w := w) hb (by repeat (first | with_reducible exact hW.out | with_reducible refine Below.setCell ?_ (by first | omega | (simp; omega)) _ | with_reducible refine Below.alloc ?_ (by first | omega | (simp; omega)) _ | with_reducible refine Below.drew ?_))); clear hW lx; have hW := hx; clear hx; have lx := h1.out.lt; have hx := Lib.hid (blkThru2 (h1.out) (hb := hb) (by intro q; repeat (first | with_reducible exact q | with_reducible refine Blk.far ?_ _ _ (by first | omega | (simp; omega)) | with_reducible refine Blk.alloc ?_ _ | with_reducible refine Blk.drew ?_))); clear c10 c11 c12 c13 f10 f11 f12 f13 l1 n1 lx h1; have h1 := hx; clear hx; obtain ⟨c10, c11, c12, c13, f10, f11, f12, f13⟩ := h1.out.all4; have l1 := h1.out.lt; have n1 := Nat.ne_of_lt l1; have lx := h2.out.lt; have hx := Lib.hid (blkThru2 (h2.out) (hb := hb) (by intro q; repeat (first | with_reducible exact q | with_reducible refine Blk.far ?_ _ _ (by first | omega | (simp; omega)) | with_reducible refine Blk.alloc ?_ _ | with_reducible refine Blk.drew ?_))); clear c20 c21 c22 c23 f20 f21 f22 f23 l2 n2 lx h2; have h2 := hx; clear hx; obtain ⟨c20, c21, c22, c23, f20, f21, f22, f23⟩ := h2.out.all4; have l2 := h2.out.lt; have n2 := Nat.ne_of_lt l2; have h3 := Lib.hid (blkThru hb (by repeat (first | with_reducible exact Blk.new _ _ 27 | with_reducible apply Blk.alloc))); obtain ⟨c30, c31, c32, c33, f30, f31, f32, f33⟩ := h3.out.all4; have l3 := h3.out.lt; have n3 := Nat.ne_of_lt l3; clear hb; have s3 := Lib.hid trivial)
    | (go_at_call 27; (have q := s3; clear q); (fail_if_success (have q := s4)); refine (Minus_any m l _).mono ?_; rintro e w4 ⟨rfl, hb⟩; dsimp only [mv]; have hx := Lib.hid (HVA.out.below hb); clear HVA; have HVA := hx; clear hx; have lx := hW.out.size; have hx := Lib.hid (belowStep (w := w) hb (by repeat (first | with_reducible exact hW.out | with_reducible refine Below.setCell ?_ (by first | omega | (simp; omega)) _ | with_reducible refine Below.alloc ?_ (by first | omega | (simp; omega)) _ | with_reducible refine Below.drew ?_))); clear hW lx; have hW := hx; clear hx; have lx := h1.out.lt; have hx := Lib.hid (blkThru2 (h1.out) (hb := hb) (by intro q; repeat (first | with_reducible exact q | with_reducible refine Blk.far ?_ _ _ (by first | omega | (simp; omega)) | with_reducible refine Blk.alloc ?_ _ | with_reducible refine Blk.drew ?_))); clear c10 c11 c12 c13 f10 f11 f12 f13 l1 n1 lx h1; have h1 := hx; clear hx; obtain ⟨c10, c11, c12, c13, f10, f11, f12, f13⟩ := h1.out.all4; have l1 := h1.out.lt; have n1 := Nat.ne_of_lt l1; have lx := h2.out.lt; have hx := Lib.hid (blkThru2 (h2.out) (hb := hb) (by intro q; repeat (first | with_reducible exact q | with_reducible refine Blk.far ?_ _ _ (by first | omega | (simp; omega)) | with_reducible refine Blk.alloc ?_ _ | with_reducible refine Blk.drew ?_))); clear c20 c21 c22 c23 f20 f21 f22 f23 l2 n2 lx h2; have h2 := hx; clear hx; obtain ⟨c20, c21, c22, c23, f20, f21, f22, f23⟩ := h2.out.all4; have l2 := h2.out.lt; have n2 := Nat.ne_of_lt l2; have lx := h3.out.lt; have hx := Lib.hid (blkThru2 (h3.out) (hb := hb) (by intro q; repeat (first | with_reducible exact q | with_reducible refine Blk.far ?_ _ _ (by first | omega | (simp; omega)) | with_reducible refine Blk.alloc ?_ _ | with_reducible refine Blk.drew ?_))); clear c30 c31 c32 c33 f30 f31 f32 f33 l3 n3 lx h3; have h3 := hx; clear hx; obtain ⟨c30, c31, c32, c33, f30, f31, f32, f33⟩ := h3.out.all4; have l3 := h3.out.lt; have n3 := Nat.ne_of_lt l3; clear hb; have s4 := Lib.hid trivial)
    | (go_at_call 17; (have q := s4; clear q); (fail_if_success (have q := s5)); refine (List_any (minusM m l) (mok_minusM m l) _).mono ?_; rintro e w5 ⟨v6, rfl, hV6, hb⟩; rw [HXB.out] at hV6; obtain ⟨pb, cb, rfl, -⟩ := hV6.shape; rw [HNB.out] at hV6 ⊢; have HVB := Lib.hid hV6; clear hV6; have hx := Lib.hid (HVA.out.below hb); clear HVA; have HVA := hx; clear hx; have lx := hW.out.size; have hx := Lib.hid (belowStep (w := w) hb (by repeat (first | with_reducible exact hW.out | with_reducible refine Below.setCell ?_ (by first | omega | (simp; omega)) _ | with_reducible refine Below.alloc ?_ (by first | omega | (simp; omega)) _ | with_reducible refine Below.drew ?_))); clear hW lx; have hW := hx; clear hx; have lx := h1.out.lt; have hx := Lib.hid (blkThru2 (h1.out) (hb := hb) (by intro q; repeat (first | with_reducible exact q | with_reducible refine Blk.far ?_ _ _ (by first | omega | (simp; omega)) | with_reducible refine Blk.alloc ?_ _ | with_reducible refine Blk.drew ?_))); clear c10 c11 c12 c13 f10 f11 f12 f13 l1 n1 lx h1; have h1 := hx; clear hx; obtain ⟨c10, c11, c12, c13, f10, f11, f12, f13⟩ := h1.out.all4; have l1 := h1.out.lt; have n1 := Nat.ne_of_lt l1; have lx := h2.out.lt; have hx := Lib.hid (blkThru2 (h2.out) (hb := hb) (by intro q; repeat (first | with_reducible exact q | with_reducible refine Blk.far ?_ _ _ (by first | omega | (simp; omega)) | with_reducible refine Blk.alloc ?_ _ | with_reducible refine Blk.drew ?_))); clear c20 c21 c22 c23 f20 f21 f22 f23 l2 n2 lx h2; have h2 := hx; clear hx; obtain ⟨c20, c21, c22, c23, f20, f21, f22, f23⟩ := h2.out.all4; have l2 := h2.out.lt; have n2 := Nat.ne_of_lt l2; have lx := h3.out.lt; have hx := Lib.hid (blkThru2 (h3.out) (hb := hb) (by intro q; repeat (first | with_reducible exact q | with_reducible refine Blk.far ?_ _ _ (by first | omega | (simp; omega)) | with_reducible refine Blk.alloc ?_ _ | with_reducible refine Blk.drew ?_))); clear c30 c31 c32 c33 f30 f31 f32 f33 l3 n3 lx h3; have h3 := hx; clear hx; obtain ⟨c30, c31, c32, c33, f30, f31, f32, f33⟩ := h3.out.all4; have l3 := h3.out.lt; have n3 := Nat.ne_of_lt l3; clear hb; have s5 := Lib.hid trivial))
  by_cases h0 : n = 0
  · subst h0
    clear h1 c10 c11 c12 c13 f10 f11 f12 f13 l1 n1 f20 f21 f22 f23 f30 f31 f32 f33
    refine wp_region_each (S := Below w5.heap.size w5) (by kernel_rfl) ((Below.refl _ _).drew) ?_
    refine each_take (i := 0) (oi := { dst := some 42, op := Go.Op.move (Go.Operand.tmp 8), type := 25, pos := "law.go:99", after := #[], guard := none }) (v := _) rfl (by kernel_rfl) (by kernel_rfl) (by kernel_rfl) (fun _ _ _ h => h) (by first
      | exact Or.inr ⟨by rfl, rfl⟩
      | (refine Or.inl ⟨by rfl, fun W hS => ?_⟩; obtain ⟨hc, hf⟩ := bcell hS; go_simp; exact ⟨rfl, hS⟩)) ?_
    simp only [Act.put, List.setIfInBounds_toArray, List.set_cons_zero, List.set_cons_succ]
    refine each_take (i := 1) (oi := { dst := some 43, op := Go.Op.call { callee := Go.Callee.builtin Go.Builtin.len, args := #[Go.Operand.tmp 42], argTypes := #[25] }, type := 3, pos := "law.go:99", after := #[{ on := 0, ground := Go.Ground.data }], guard := none }) (v := _) rfl (by kernel_rfl) (by kernel_rfl) (by kernel_rfl) (fun _ _ _ h => h) (by first
      | exact Or.inr ⟨by rfl, rfl⟩
      | (refine Or.inl ⟨by rfl, fun W hS => ?_⟩; obtain ⟨hc, hf⟩ := bcell hS; go_simp; exact ⟨rfl, hS⟩)) ?_
    simp only [Act.put, List.setIfInBounds_toArray, List.set_cons_zero, List.set_cons_succ]
    refine each_take (i := 2) (oi := { dst := some 44, op := Go.Op.move (Go.Operand.tmp 1), type := 3, pos := "law.go:99", after := #[], guard := none }) (v := _) rfl (by kernel_rfl) (by kernel_rfl) (by kernel_rfl) (fun _ _ _ h => h) (by first
      | exact Or.inr ⟨by rfl, rfl⟩
      | (refine Or.inl ⟨by rfl, fun W hS => ?_⟩; obtain ⟨hc, hf⟩ := bcell hS; go_simp; exact ⟨rfl, hS⟩)) ?_
    simp only [Act.put, List.setIfInBounds_toArray, List.set_cons_zero, List.set_cons_succ]
    refine each_take (i := 3) (oi := { dst := some 45, op := Go.Op.binOp Go.BinOp.eql 3 (Go.Operand.tmp 43) (Go.Operand.tmp 44) 3, type := 4, pos := "law.go:99", after := #[{ on := 1, ground := Go.Ground.data }, { on := 2, ground := Go.Ground.data }], guard := none }) (v := _) rfl (by kernel_rfl) (by kernel_rfl) (by kernel_rfl) (fun _ _ _ h => h) (by first
      | exact Or.inr ⟨by rfl, rfl⟩
      | (refine Or.inl ⟨by rfl, fun W hS => ?_⟩; obtain ⟨hc, hf⟩ := bcell hS; go_simp; exact ⟨rfl, hS⟩)) ?_
    simp only [Act.put, List.setIfInBounds_toArray, List.set_cons_zero, List.set_cons_succ]
    refine each_take (i := 4) (oi := { dst := some 46, op := Go.Op.move (Go.Operand.tmp 45), type := 4, pos := "law.go:99", after := #[{ on := 3, ground := Go.Ground.data }], guard := none }) (v := _) rfl (by kernel_rfl) (by kernel_rfl) (by kernel_rfl) (fun _ _ _ h => h) (by first
      | exact Or.inr ⟨by rfl, rfl⟩
      | (refine Or.inl ⟨by rfl, fun W hS => ?_⟩; obtain ⟨hc, hf⟩ := bcell hS; go_simp; exact ⟨rfl, hS⟩)) ?_
    simp only [Act.put, List.setIfInBounds_toArray, List.set_cons_zero, List.set_cons_succ]
    refine each_take (i := 5) (oi := { dst := some 47, op := Go.Op.load 27 (Go.Operand.tmp 6), type := 27, pos := "law.go:99", after := #[{ on := 4, ground := Go.Ground.guard }], guard := some (4, true) }) (v := _) rfl (by kernel_rfl) (by kernel_rfl) (by kernel_rfl) (fun _ _ _ h => h) (by first
      | exact Or.inr ⟨by rfl, rfl⟩
      | (refine Or.inl ⟨by rfl, fun W hS => ?_⟩; obtain ⟨hc, hf⟩ := bcell hS; go_simp; exact ⟨rfl, hS⟩)) ?_
    simp only [Act.put, List.setIfInBounds_toArray, List.set_cons_zero, List.set_cons_succ]
    refine each_take (i := 6) (oi := { dst := some 48, op := Go.Op.load 27 (Go.Operand.tmp 5), type := 27, pos := "law.go:99", after := #[{ on := 4, ground := Go.Ground.guard }], guard := some (4, true) }) (v := _) rfl (by kernel_rfl) (by kernel_rfl) (by kernel_rfl) (fun _ _ _ h => h) (by first
      | exact Or.inr ⟨by rfl, rfl⟩
      | (refine Or.inl ⟨by rfl, fun W hS => ?_⟩; obtain ⟨hc, hf⟩ := bcell hS; go_simp; exact ⟨rfl, hS⟩)) ?_
    simp only [Act.put, List.setIfInBounds_toArray, List.set_cons_zero, List.set_cons_succ]
    refine each_take (i := 7) (oi := { dst := some 49, op := Go.Op.call { callee := Go.Callee.value (Go.Operand.func 27), args := #[Go.Operand.tmp 47, Go.Operand.tmp 48], argTypes := #[27, 27] }, type := 27, pos := "law.go:99", after := #[{ on := 5, ground := Go.Ground.data }, { on := 6, ground := Go.Ground.data }, { on := 4, ground := Go.Ground.chain }, { on := 4, ground := Go.Ground.guard }], guard := some (4, true) }) (v := _) rfl (by kernel_rfl) (by kernel_rfl) (by kernel_rfl) (fun _ _ _ h => h) (by first
      | exact Or.inr ⟨by rfl, rfl⟩
      | (refine Or.inl ⟨by rfl, fun W hS => ?_⟩; go_simp; show Calls _ _ _ _ _; refine (Minus_any l m _).mono ?_; rintro e w7 ⟨rfl, hb⟩; rw [HMI.out]; dsimp only [mv, mk0]; exact ⟨rfl, hS.trans (hb.mono hS.size)⟩)) ?_
    simp only [Act.put, List.setIfInBounds_toArray, List.set_cons_zero, List.set_cons_succ]
    refine each_take (i := 8) (oi := { dst := some 50, op := Go.Op.build 27 #[], type := 27, pos := "law.go:99", after := #[{ on := 4, ground := Go.Ground.guard }], guard := some (4, true) }) (v := _) rfl (by kernel_rfl) (by kernel_rfl) (by kernel_rfl) (fun _ _ _ h => h) (by first
      | exact Or.inr ⟨by rfl, rfl⟩
      | (refine Or.inl ⟨by rfl, fun W hS => ?_⟩; obtain ⟨hc, hf⟩ := bcell hS; go_simp; exact ⟨rfl, hS⟩)) ?_
    simp only [Act.put, List.setIfInBounds_toArray, List.set_cons_zero, List.set_cons_succ]
    refine each_take (i := 9) (oi := { dst := some 51, op := Go.Op.binOp Go.BinOp.eql 27 (Go.Operand.tmp 49) (Go.Operand.tmp 50) 27, type := 4, pos := "law.go:99", after := #[{ on := 7, ground := Go.Ground.data }, { on := 8, ground := Go.Ground.data }, { on := 4, ground := Go.Ground.guard }], guard := some (4, true) }) (v := _) rfl (by kernel_rfl) (by kernel_rfl) (by kernel_rfl) (fun _ _ _ h => h) (by first
      | exact Or.inr ⟨by rfl, rfl⟩
      | (refine Or.inl ⟨by rfl, fun W hS => ?_⟩; obtain ⟨hc, hf⟩ := bcell hS; go_simp; exact ⟨rfl, hS⟩)) ?_
    simp only [Act.put, List.setIfInBounds_toArray, List.set_cons_zero, List.set_cons_succ]
    refine each_take (i := 10) (oi := { dst := some 52, op := Go.Op.pick (Go.Operand.tmp 46) (Go.Operand.tmp 51) (Go.Operand.const (Go.Value.bool false)), type := 4, pos := "law.go:99", after := #[{ on := 4, ground := Go.Ground.data }, { on := 9, ground := Go.Ground.data }], guard := none }) (v := _) rfl (by kernel_rfl) (by kernel_rfl) (by kernel_rfl) (fun _ _ _ h => h) (by first
      | exact Or.inr ⟨by rfl, rfl⟩
      | (refine Or.inl ⟨by rfl, fun W hS => ?_⟩; obtain ⟨hc, hf⟩ := bcell hS; go_simp; exact ⟨rfl, hS⟩)) ?_
    simp only [Act.put, List.setIfInBounds_toArray, List.set_cons_zero, List.set_cons_succ]
    refine each_take (i := 11) (oi := { dst := some 53, op := Go.Op.move (Go.Operand.tmp 52), type := 4, pos := "law.go:99", after := #[{ on := 10, ground := Go.Ground.data }, { on := 7, ground := Go.Ground.chain }], guard := none }) (v := _) rfl (by kernel_rfl) (by kernel_rfl) (by kernel_rfl) (fun _ _ _ h => h) (by first
      | exact Or.inr ⟨by rfl, rfl⟩
      | (refine Or.inl ⟨by rfl, fun W hS => ?_⟩; obtain ⟨hc, hf⟩ := bcell hS; go_simp; exact ⟨rfl, hS⟩)) ?_
    simp only [Act.put, List.setIfInBounds_toArray, List.set_cons_zero, List.set_cons_succ]
    refine each_take (i := 12) (oi := { dst := some 54, op := Go.Op.move (Go.Operand.tmp 8), type := 25, pos := "law.go:99", after := #[{ on := 11, ground := Go.Ground.guard }], guard := some (11, true) }) (v := _) rfl (by kernel_rfl) (by kernel_rfl) (by kernel_rfl) (fun _ _ _ h => h) (by first
      | exact Or.inr ⟨by rfl, rfl⟩
      | (refine Or.inl ⟨by rfl, fun W hS => ?_⟩; obtain ⟨hc, hf⟩ := bcell hS; go_simp; exact ⟨rfl, hS⟩)) ?_
    simp only [Act.put, List.setIfInBounds_toArray, List.set_cons_zero, List.set_cons_succ]
    refine each_take (i := 13) (oi := { dst := some 55, op := Go.Op.call { callee := Go.Callee.builtin Go.Builtin.len, args := #[Go.Operand.tmp 54], argTypes := #[25] }, type := 3, pos := "law.go:99", after := #[{ on := 12, ground := Go.Ground.data }, { on := 11, ground := Go.Ground.guard }], guard := some (11, true) }) (v := _) rfl (by kernel_rfl) (by kernel_rfl) (by kernel_rfl) (fun _ _ _ h => h) (by first
      | exact Or.inr ⟨by rfl, rfl⟩
      | (refine Or.inl ⟨by rfl, fun W hS => ?_⟩; obtain ⟨hc, hf⟩ := bcell hS; go_simp; exact ⟨rfl, hS⟩)) ?_
    simp only [Act.put, List.setIfInBounds_toArray, List.set_cons_zero, List.set_cons_succ]
    refine each_take (i := 14) (oi := { dst := some 56, op := Go.Op.binOp Go.BinOp.eql 3 (Go.Operand.tmp 55) (Go.Operand.const (Go.Value.int Go.IntKind.i64 0)) 3, type := 4, pos := "law.go:99", after := #[{ on := 13, ground := Go.Ground.data }, { on := 11, ground := Go.Ground.guard }], guard := some (11, true) }) (v := _) rfl (by kernel_rfl) (by kernel_rfl) (by kernel_rfl) (fun _ _ _ h => h) (by first
      | exact Or.inr ⟨by rfl, rfl⟩
      | (refine Or.inl ⟨by rfl, fun W hS => ?_⟩; obtain ⟨hc, hf⟩ := bcell hS; go_simp; exact ⟨rfl, hS⟩)) ?_
    simp only [Act.put, List.setIfInBounds_toArray, List.set_cons_zero, List.set_cons_succ]
    refine each_take (i := 15) (oi := { dst := some 57, op := Go.Op.move (Go.Operand.tmp 56), type := 4, pos := "law.go:99", after := #[{ on := 14, ground := Go.Ground.data }, { on := 11, ground := Go.Ground.chain }, { on := 11, ground := Go.Ground.guard }], guard := some (11, true) }) (v := _) rfl (by kernel_rfl) (by kernel_rfl) (by kernel_rfl) (fun _ _ _ h => h) (by first
      | exact Or.inr ⟨by rfl, rfl⟩
      | (refine Or.inl ⟨by rfl, fun W hS => ?_⟩; obtain ⟨hc, hf⟩ := bcell hS; go_simp; exact ⟨rfl, hS⟩)) ?_
    simp only [Act.put, List.setIfInBounds_toArray, List.set_cons_zero, List.set_cons_succ]
    refine each_take (i := 16) (oi := { dst := some 58, op := Go.Op.move (Go.Operand.tmp 9), type := 25, pos := "law.go:99", after := #[{ on := 15, ground := Go.Ground.guard }], guard := some (15, false) }) (v := _) rfl (by kernel_rfl) (by kernel_rfl) (by kernel_rfl) (fun _ _ _ h => h) (by first
      | exact Or.inr ⟨by rfl, rfl⟩
      | (refine Or.inl ⟨by rfl, fun W hS => ?_⟩; obtain ⟨hc, hf⟩ := bcell hS; go_simp; exact ⟨rfl, hS⟩)) ?_
    simp only [Act.put, List.setIfInBounds_toArray, List.set_cons_zero, List.set_cons_succ]
    refine each_take (i := 17) (oi := { dst := some 59, op := Go.Op.call { callee := Go.Callee.builtin Go.Builtin.len, args := #[Go.Operand.tmp 58], argTypes := #[25] }, type := 3, pos := "law.go:99", after := #[{ on := 16, ground := Go.Ground.data }, { on := 15, ground := Go.Ground.guard }], guard := some (15, false) }) (v := _) rfl (by kernel_rfl) (by kernel_rfl) (by kernel_rfl) (fun _ _ _ h => h) (by first
      | exact Or.inr ⟨by rfl, rfl⟩
      | (refine Or.inl ⟨by rfl, fun W hS => ?_⟩; obtain ⟨hc, hf⟩ := bcell hS; go_simp; exact ⟨rfl, hS⟩)) ?_
    simp only [Act.put, List.setIfInBounds_toArray, List.set_cons_zero, List.set_cons_succ]
    refine each_take (i := 18) (oi := { dst := some 60, op := Go.Op.binOp Go.BinOp.eql 3 (Go.Operand.tmp 59) (Go.Operand.const (Go.Value.int Go.IntKind.i64 0)) 3, type := 4, pos := "law.go:99", after := #[{ on := 17, ground := Go.Ground.data }, { on := 15, ground := Go.Ground.guard }], guard := some (15, false) }) (v := _) rfl (by kernel_rfl) (by kernel_rfl) (by kernel_rfl) (fun _ _ _ h => h) (by first
      | exact Or.inr ⟨by rfl, rfl⟩
      | (refine Or.inl ⟨by rfl, fun W hS => ?_⟩; obtain ⟨hc, hf⟩ := bcell hS; go_simp; exact ⟨rfl, hS⟩)) ?_
    simp only [Act.put, List.setIfInBounds_toArray, List.set_cons_zero, List.set_cons_succ]
    refine each_take (i := 19) (oi := { dst := some 61, op := Go.Op.pick (Go.Operand.tmp 57) (Go.Operand.const (Go.Value.bool true)) (Go.Operand.tmp 60), type := 4, pos := "law.go:99", after := #[{ on := 15, ground := Go.Ground.data }, { on := 18, ground := Go.Ground.data }, { on := 11, ground := Go.Ground.guard }], guard := some (11, true) }) (v := _) rfl (by kernel_rfl) (by kernel_rfl) (by kernel_rfl) (fun _ _ _ h => h) (by first
      | exact Or.inr ⟨by rfl, rfl⟩
      | (refine Or.inl ⟨by rfl, fun W hS => ?_⟩; obtain ⟨hc, hf⟩ := bcell hS; go_simp; exact ⟨rfl, hS⟩)) ?_
    simp only [Act.put, List.setIfInBounds_toArray, List.set_cons_zero, List.set_cons_succ]
    refine each_take (i := 20) (oi := { dst := some 62, op := Go.Op.move (Go.Operand.tmp 61), type := 4, pos := "law.go:99", after := #[{ on := 19, ground := Go.Ground.data }, { on := 15, ground := Go.Ground.chain }, { on := 11, ground := Go.Ground.guard }], guard := some (11, true) }) (v := _) rfl (by kernel_rfl) (by kernel_rfl) (by kernel_rfl) (fun _ _ _ h => h) (by first
      | exact Or.inr ⟨by rfl, rfl⟩
      | (refine Or.inl ⟨by rfl, fun W hS => ?_⟩; obtain ⟨hc, hf⟩ := bcell hS; go_simp; exact ⟨rfl, hS⟩)) ?_
    simp only [Act.put, List.setIfInBounds_toArray, List.set_cons_zero, List.set_cons_succ]
    refine each_take (i := 21) (oi := { dst := some 63, op := Go.Op.move (Go.Operand.tmp 8), type := 25, pos := "law.go:99", after := #[{ on := 20, ground := Go.Ground.guard }], guard := some (20, false) }) (v := _) rfl (by kernel_rfl) (by kernel_rfl) (by kernel_rfl) (fun _ _ _ h => h) (by first
      | exact Or.inr ⟨by rfl, rfl⟩
      | (refine Or.inl ⟨by rfl, fun W hS => ?_⟩; obtain ⟨hc, hf⟩ := bcell hS; go_simp; exact ⟨rfl, hS⟩)) ?_
    simp only [Act.put, List.setIfInBounds_toArray, List.set_cons_zero, List.set_cons_succ]
    refine each_take (i := 22) (oi := { dst := some 64, op := Go.Op.move (Go.Operand.tmp 8), type := 25, pos := "law.go:99", after := #[{ on := 20, ground := Go.Ground.guard }], guard := some (20, false) }) (v := _) rfl (by kernel_rfl) (by kernel_rfl) (by kernel_rfl) (fun _ _ _ h => h) (by first
      | exact Or.inr ⟨by rfl, rfl⟩
      | (refine Or.inl ⟨by rfl, fun W hS => ?_⟩; obtain ⟨hc, hf⟩ := bcell hS; go_simp; exact ⟨rfl, hS⟩)) ?_
    simp only [Act.put, List.setIfInBounds_toArray, List.set_cons_zero, List.set_cons_succ]
    refine each_take (i := 23) (oi := { dst := some 65, op := Go.Op.call { callee := Go.Callee.builtin Go.Builtin.len, args := #[Go.Operand.tmp 64], argTypes := #[25] }, type := 3, pos := "law.go:99", after := #[{ on := 22, ground := Go.Ground.data }, { on := 20, ground := Go.Ground.guard }], guard := some (20, false) }) (v := _) rfl (by kernel_rfl) (by kernel_rfl) (by kernel_rfl) (fun _ _ _ h => h) (by first
      | exact Or.inr ⟨by rfl, rfl⟩
      | (refine Or.inl ⟨by rfl, fun W hS => ?_⟩; obtain ⟨hc, hf⟩ := bcell hS; go_simp; exact ⟨rfl, hS⟩)) ?_
    simp only [Act.put, List.setIfInBounds_toArray, List.set_cons_zero, List.set_cons_succ]
    refine each_take (i := 24) (oi := { dst := some 66, op := Go.Op.binOp Go.BinOp.sub 3 (Go.Operand.tmp 65) (Go.Operand.const (Go.Value.int Go.IntKind.i64 1)) 3, type := 3, pos := "law.go:99", after := #[{ on := 23, ground := Go.Ground.data }, { on := 20, ground := Go.Ground.guard }], guard := some (20, false) }) (v := _) rfl (by kernel_rfl) (by kernel_rfl) (by kernel_rfl) (fun _ _ _ h => h) (by first
      | exact Or.inr ⟨by rfl, rfl⟩
      | (refine Or.inl ⟨by rfl, fun W hS => ?_⟩; obtain ⟨hc, hf⟩ := bcell hS; go_simp; exact ⟨rfl, hS⟩)) ?_
    simp only [Act.put, List.setIfInBounds_toArray, List.set_cons_zero, List.set_cons_succ]
    refine each_take (i := 25) (oi := { dst := some 67, op := Go.Op.indexAddr 25 (Go.Operand.tmp 63) (Go.Operand.tmp 66), type := 0, pos := "law.go:99", after := #[{ on := 21, ground := Go.Ground.data }, { on := 24, ground := Go.Ground.data }, { on := 20, ground := Go.Ground.guard }], guard := some (20, false) }) (v := _) rfl (by kernel_rfl) (by kernel_rfl) (by kernel_rfl) (fun _ _ _ h => h) (by first
      | exact Or.inr ⟨by rfl, rfl⟩
      | (refine Or.inl ⟨by rfl, fun W hS => ?_⟩; obtain ⟨hc, hf⟩ := bcell hS; go_simp; exact ⟨rfl, hS⟩)) ?_
    simp only [Act.put, List.setIfInBounds_toArray, List.set_cons_zero, List.set_cons_succ]
    refine each_take (i := 26) (oi := { dst := some 68, op := Go.Op.load 3 (Go.Operand.tmp 67), type := 3, pos := "law.go:99", after := #[{ on := 25, ground := Go.Ground.data }, { on := 20, ground := Go.Ground.guard }], guard := some (20, false) }) (v := _) rfl (by kernel_rfl) (by kernel_rfl) (by kernel_rfl) (fun _ _ _ h => h) (by first
      | exact Or.inr ⟨by rfl, rfl⟩
      | (refine Or.inl ⟨by rfl, fun W hS => ?_⟩; obtain ⟨hc, hf⟩ := bcell hS; go_simp; exact ⟨rfl, hS⟩)) ?_
    simp only [Act.put, List.setIfInBounds_toArray, List.set_cons_zero, List.set_cons_succ]
    refine each_take (i := 27) (oi := { dst := some 69, op := Go.Op.move (Go.Operand.tmp 9), type := 25, pos := "law.go:99", after := #[{ on := 20, ground := Go.Ground.guard }], guard := some (20, false) }) (v := _) rfl (by kernel_rfl) (by kernel_rfl) (by kernel_rfl) (fun _ _ _ h => h) (by first
      | exact Or.inr ⟨by rfl, rfl⟩
      | (refine Or.inl ⟨by rfl, fun W hS => ?_⟩; obtain ⟨hc, hf⟩ := bcell hS; go_simp; exact ⟨rfl, hS⟩)) ?_
    simp only [Act.put, List.setIfInBounds_toArray, List.set_cons_zero, List.set_cons_succ]
    refine each_take (i := 28) (oi := { dst := some 70, op := Go.Op.indexAddr 25 (Go.Operand.tmp 69) (Go.Operand.const (Go.Value.int Go.IntKind.i64 0)), type := 0, pos := "law.go:99", after := #[{ on := 27, ground := Go.Ground.data }, { on := 20, ground := Go.Ground.guard }], guard := some (20, false) }) (v := _) rfl (by kernel_rfl) (by kernel_rfl) (by kernel_rfl) (fun _ _ _ h => h) (by first
      | exact Or.inr ⟨by rfl, rfl⟩
      | (refine Or.inl ⟨by rfl, fun W hS => ?_⟩; obtain ⟨hc, hf⟩ := bcell hS; go_simp; exact ⟨rfl, hS⟩)) ?_
    simp only [Act.put, List.setIfInBounds_toArray, List.set_cons_zero, List.set_cons_succ]
    refine each_take (i := 29) (oi := { dst := some 71, op := Go.Op.load 3 (Go.Operand.tmp 70), type := 3, pos := "law.go:99", after := #[{ on := 28, ground := Go.Ground.data }, { on := 20, ground := Go.Ground.guard }], guard := some (20, false) }) (v := _) rfl (by kernel_rfl) (by kernel_rfl) (by kernel_rfl) (fun _ _ _ h => h) (by first
      | exact Or.inr ⟨by rfl, rfl⟩
      | (refine Or.inl ⟨by rfl, fun W hS => ?_⟩; obtain ⟨hc, hf⟩ := bcell hS; go_simp; exact ⟨rfl, hS⟩)) ?_
    simp only [Act.put, List.setIfInBounds_toArray, List.set_cons_zero, List.set_cons_succ]
    refine each_take (i := 30) (oi := { dst := some 72, op := Go.Op.binOp Go.BinOp.lss 3 (Go.Operand.tmp 68) (Go.Operand.tmp 71) 3, type := 4, pos := "law.go:99", after := #[{ on := 26, ground := Go.Ground.data }, { on := 29, ground := Go.Ground.data }, { on := 20, ground := Go.Ground.guard }], guard := some (20, false) }) (v := _) rfl (by kernel_rfl) (by kernel_rfl) (by kernel_rfl) (fun _ _ _ h => h) (by first
      | exact Or.inr ⟨by rfl, rfl⟩
      | (refine Or.inl ⟨by rfl, fun W hS => ?_⟩; obtain ⟨hc, hf⟩ := bcell hS; go_simp; exact ⟨rfl, hS⟩)) ?_
    simp only [Act.put, List.setIfInBounds_toArray, List.set_cons_zero, List.set_cons_succ]
    refine each_take (i := 31) (oi := { dst := some 73, op := Go.Op.pick (Go.Operand.tmp 62) (Go.Operand.const (Go.Value.bool true)) (Go.Operand.tmp 72), type := 4, pos := "law.go:99", after := #[{ on := 20, ground := Go.Ground.data }, { on := 30, ground := Go.Ground.data }, { on := 11, ground := Go.Ground.guard }], guard := some (11, true) }) (v := _) rfl (by kernel_rfl) (by kernel_rfl) (by kernel_rfl) (fun _ _ _ h => h) (by first
      | exact Or.inr ⟨by rfl, rfl⟩
      | (refine Or.inl ⟨by rfl, fun W hS => ?_⟩; obtain ⟨hc, hf⟩ := bcell hS; go_simp; exact ⟨rfl, hS⟩)) ?_
    simp only [Act.put, List.setIfInBounds_toArray, List.set_cons_zero, List.set_cons_succ]
    refine each_take (i := 32) (oi := { dst := some 74, op := Go.Op.pick (Go.Operand.tmp 53) (Go.Operand.tmp 73) (Go.Operand.const (Go.Value.bool false)), type := 4, pos := "law.go:99", after := #[{ on := 11, ground := Go.Ground.data }, { on := 31, ground := Go.Ground.data }], guard := none }) (v := _) rfl (by kernel_rfl) (by kernel_rfl) (by kernel_rfl) (fun _ _ _ h => h) (by first
      | exact Or.inr ⟨by rfl, rfl⟩
      | (refine Or.inl ⟨by rfl, fun W hS => ?_⟩; obtain ⟨hc, hf⟩ := bcell hS; go_simp; exact ⟨rfl, hS⟩)) ?_
    simp only [Act.put, List.setIfInBounds_toArray, List.set_cons_zero, List.set_cons_succ]
    refine each_take (i := 33) (oi := { dst := some 75, op := Go.Op.move (Go.Operand.tmp 74), type := 4, pos := "law.go:99", after := #[{ on := 32, ground := Go.Ground.data }, { on := 20, ground := Go.Ground.chain }], guard := none }) (v := _) rfl (by kernel_rfl) (by kernel_rfl) (by kernel_rfl) (fun _ _ _ h => h) (by first
      | exact Or.inr ⟨by rfl, rfl⟩
      | (refine Or.inl ⟨by rfl, fun W hS => ?_⟩; obtain ⟨hc, hf⟩ := bcell hS; go_simp; exact ⟨rfl, hS⟩)) ?_
    simp only [Act.put, List.setIfInBounds_toArray, List.set_cons_zero, List.set_cons_succ]
    refine each_take (i := 34) (oi := { dst := some 76, op := Go.Op.call { callee := Go.Callee.value (Go.Operand.func 9), args := #[], argTypes := #[] }, type := 4, pos := "law.go:99", after := #[{ on := 33, ground := Go.Ground.chain }, { on := 33, ground := Go.Ground.guard }], guard := some (33, true) }) (v := _) rfl (by kernel_rfl) (by kernel_rfl) (by kernel_rfl) (fun _ _ _ h => h) (by first
      | exact Or.inr ⟨by rfl, rfl⟩
      | (refine Or.inl ⟨by rfl, fun W hS => ?_⟩; go_simp; show Calls _ _ _ _ _; refine (live_any _ (HE.out.below (hW.out.trans (hS.mono hW.out.size)))).mono ?_; rintro e w7 ⟨rfl, hb⟩; exact ⟨rfl, hS.trans (hb.mono hS.size)⟩)) ?_
    simp only [Act.put, List.setIfInBounds_toArray, List.set_cons_zero, List.set_cons_succ]
    refine each_take (i := 35) (oi := { dst := some 77, op := Go.Op.pick (Go.Operand.tmp 75) (Go.Operand.tmp 76) (Go.Operand.const (Go.Value.bool false)), type := 4, pos := "law.go:99", after := #[{ on := 33, ground := Go.Ground.data }, { on := 34, ground := Go.Ground.data }], guard := none }) (v := _) rfl (by kernel_rfl) (by kernel_rfl) (by kernel_rfl) (fun _ _ _ h => h) (by first
      | exact Or.inr ⟨by rfl, rfl⟩
      | (refine Or.inl ⟨by rfl, fun W hS => ?_⟩; obtain ⟨hc, hf⟩ := bcell hS; go_simp; exact ⟨rfl, hS⟩)) ?_
    simp only [Act.put, List.setIfInBounds_toArray, List.set_cons_zero, List.set_cons_succ]
    refine each_take (i := 36) (oi := { dst := some 4, op := Go.Op.assign (Go.Operand.tmp 77), type := 4, pos := "law.go:99", after := #[{ on := 35, ground := Go.Ground.data }, { on := 34, ground := Go.Ground.chain }, { on := 0, ground := Go.Ground.phase }, { on := 1, ground := Go.Ground.phase }, { on := 2, ground := Go.Ground.phase }, { on := 3, ground := Go.Ground.phase }, { on := 4, ground := Go.Ground.phase }, { on := 5, ground := Go.Ground.phase }, { on := 6, ground := Go.Ground.phase }, { on := 7, ground := Go.Ground.phase }, { on := 8, ground := Go.Ground.phase }, { on := 9, ground := Go.Ground.phase }, { on := 10, ground := Go.Ground.phase }, { on := 11, ground := Go.Ground.phase }, { on := 12, ground := Go.Ground.phase }, { on := 13, ground := Go.Ground.phase }, { on := 14, ground := Go.Ground.phase }, { on := 15, ground := Go.Ground.phase }, { on := 16, ground := Go.Ground.phase }, { on := 17, ground := Go.Ground.phase }, { on := 18, ground := Go.Ground.phase }, { on := 19, ground := Go.Ground.phase }, { on := 20, ground := Go.Ground.phase }, { on := 21, ground := Go.Ground.phase }, { on := 22, ground := Go.Ground.phase }, { on := 23, ground := Go.Ground.phase }, { on := 24, ground := Go.Ground.phase }, { on := 25, ground := Go.Ground.phase }, { on := 26, ground := Go.Ground.phase }, { on := 27, ground := Go.Ground.phase }, { on := 28, ground := Go.Ground.phase }, { on := 29, ground := Go.Ground.phase }, { on := 30, ground := Go.Ground.phase }, { on := 31, ground := Go.Ground.phase }, { on := 32, ground := Go.Ground.phase }, { on := 33, ground := Go.Ground.phase }, { on := 34, ground := Go.Ground.phase }, { on := 35, ground := Go.Ground.phase }], guard := none }) (v := _) rfl (by kernel_rfl) (by kernel_rfl) (by kernel_rfl) (fun _ _ _ h => h) (by first
      | exact Or.inr ⟨by rfl, rfl⟩
      | (refine Or.inl ⟨by rfl, fun W hS => ?_⟩; obtain ⟨hc, hf⟩ := bcell hS; go_simp; exact ⟨rfl, hS⟩)) ?_
    simp only [Act.put, List.setIfInBounds_toArray, List.set_cons_zero, List.set_cons_succ]
    refine each_done (by kernel_rfl) (fun W hS => ?_) _
    go_wp2
    exact bodyPost_ret (v := .bool true) (by simp [results, Tryd.results6, go_sem]) rfl ⟨rfl, hW.out.trans (hS.mono hW.out.size)⟩
  · have e1 : (((n : Nat) : Int) == 0) = false := by simpa using h0
    by_cases hk0 : k = 0
    · subst hk0
      clear h1 c10 c11 c12 c13 f10 f11 f12 f13 l1 n1 f20 f21 f22 f23 f30 f31 f32 f33
      refine wp_region_each (S := Below w5.heap.size w5) (by kernel_rfl) ((Below.refl _ _).drew) ?_
      refine each_take (i := 0) (oi := { dst := some 42, op := Go.Op.move (Go.Operand.tmp 8), type := 25, pos := "law.go:99", after := #[], guard := none }) (v := _) rfl (by kernel_rfl) (by kernel_rfl) (by kernel_rfl) (fun _ _ _ h => h) (by first
      | exact Or.inr ⟨by rfl, rfl⟩
      | (refine Or.inl ⟨by rfl, fun W hS => ?_⟩; obtain ⟨hc, hf⟩ := bcell hS; go_simp; exact ⟨rfl, hS⟩)) ?_
      simp only [Act.put, List.setIfInBounds_toArray, List.set_cons_zero, List.set_cons_succ]
      refine each_take (i := 1) (oi := { dst := some 43, op := Go.Op.call { callee := Go.Callee.builtin Go.Builtin.len, args := #[Go.Operand.tmp 42], argTypes := #[25] }, type := 3, pos := "law.go:99", after := #[{ on := 0, ground := Go.Ground.data }], guard := none }) (v := _) rfl (by kernel_rfl) (by kernel_rfl) (by kernel_rfl) (fun _ _ _ h => h) (by first
      | exact Or.inr ⟨by rfl, rfl⟩
      | (refine Or.inl ⟨by rfl, fun W hS => ?_⟩; obtain ⟨hc, hf⟩ := bcell hS; go_simp; exact ⟨rfl, hS⟩)) ?_
      simp only [Act.put, List.setIfInBounds_toArray, List.set_cons_zero, List.set_cons_succ]
      refine each_take (i := 2) (oi := { dst := some 44, op := Go.Op.move (Go.Operand.tmp 1), type := 3, pos := "law.go:99", after := #[], guard := none }) (v := _) rfl (by kernel_rfl) (by kernel_rfl) (by kernel_rfl) (fun _ _ _ h => h) (by first
      | exact Or.inr ⟨by rfl, rfl⟩
      | (refine Or.inl ⟨by rfl, fun W hS => ?_⟩; obtain ⟨hc, hf⟩ := bcell hS; go_simp; exact ⟨rfl, hS⟩)) ?_
      simp only [Act.put, List.setIfInBounds_toArray, List.set_cons_zero, List.set_cons_succ]
      refine each_take (i := 3) (oi := { dst := some 45, op := Go.Op.binOp Go.BinOp.eql 3 (Go.Operand.tmp 43) (Go.Operand.tmp 44) 3, type := 4, pos := "law.go:99", after := #[{ on := 1, ground := Go.Ground.data }, { on := 2, ground := Go.Ground.data }], guard := none }) (v := _) rfl (by kernel_rfl) (by kernel_rfl) (by kernel_rfl) (fun _ _ _ h => h) (by first
      | exact Or.inr ⟨by rfl, rfl⟩
      | (refine Or.inl ⟨by rfl, fun W hS => ?_⟩; obtain ⟨hc, hf⟩ := bcell hS; go_simp; exact ⟨rfl, hS⟩)) ?_
      simp only [Act.put, List.setIfInBounds_toArray, List.set_cons_zero, List.set_cons_succ]
      refine each_take (i := 4) (oi := { dst := some 46, op := Go.Op.move (Go.Operand.tmp 45), type := 4, pos := "law.go:99", after := #[{ on := 3, ground := Go.Ground.data }], guard := none }) (v := _) rfl (by kernel_rfl) (by kernel_rfl) (by kernel_rfl) (fun _ _ _ h => h) (by first
      | exact Or.inr ⟨by rfl, rfl⟩
      | (refine Or.inl ⟨by rfl, fun W hS => ?_⟩; obtain ⟨hc, hf⟩ := bcell hS; go_simp; exact ⟨rfl, hS⟩)) ?_
      simp only [Act.put, List.setIfInBounds_toArray, List.set_cons_zero, List.set_cons_succ]
      refine each_take (i := 5) (oi := { dst := some 47, op := Go.Op.load 27 (Go.Operand.tmp 6), type := 27, pos := "law.go:99", after := #[{ on := 4, ground := Go.Ground.guard }], guard := some (4, true) }) (v := _) rfl (by kernel_rfl) (by kernel_rfl) (by kernel_rfl) (fun _ _ _ h => h) (by first
      | exact Or.inr ⟨by rfl, rfl⟩
      | (refine Or.inl ⟨by rfl, fun W hS => ?_⟩; obtain ⟨hc, hf⟩ := bcell hS; go_simp; exact ⟨rfl, hS⟩)) ?_
      simp only [Act.put, List.setIfInBounds_toArray, List.set_cons_zero, List.set_cons_succ]
      refine each_take (i := 6) (oi := { dst := some 48, op := Go.Op.load 27 (Go.Operand.tmp 5), type := 27, pos := "law.go:99", after := #[{ on := 4, ground := Go.Ground.guard }], guard := some (4, true) }) (v := _) rfl (by kernel_rfl) (by kernel_rfl) (by kernel_rfl) (fun _ _ _ h => h) (by first
      | exact Or.inr ⟨by rfl, rfl⟩
      | (refine Or.inl ⟨by rfl, fun W hS => ?_⟩; obtain ⟨hc, hf⟩ := bcell hS; go_simp; exact ⟨rfl, hS⟩)) ?_
      simp only [Act.put, List.setIfInBounds_toArray, List.set_cons_zero, List.set_cons_succ]
      refine each_take (i := 7) (oi := { dst := some 49, op := Go.Op.call { callee := Go.Callee.value (Go.Operand.func 27), args := #[Go.Operand.tmp 47, Go.Operand.tmp 48], argTypes := #[27, 27] }, type := 27, pos := "law.go:99", after := #[{ on := 5, ground := Go.Ground.data }, { on := 6, ground := Go.Ground.data }, { on := 4, ground := Go.Ground.chain }, { on := 4, ground := Go.Ground.guard }], guard := some (4, true) }) (v := _) rfl (by kernel_rfl) (by kernel_rfl) (by kernel_rfl) (fun _ _ _ h => h) (by first
      | exact Or.inr ⟨by rfl, rfl⟩
      | (refine Or.inl ⟨by rfl, fun W hS => ?_⟩; go_simp; show Calls _ _ _ _ _; refine (Minus_any l m _).mono ?_; rintro e w7 ⟨rfl, hb⟩; rw [HMI.out]; dsimp only [mv, mk0]; exact ⟨rfl, hS.trans (hb.mono hS.size)⟩)) ?_
      simp only [Act.put, List.setIfInBounds_toArray, List.set_cons_zero, List.set_cons_succ]
      refine each_take (i := 8) (oi := { dst := some 50, op := Go.Op.build 27 #[], type := 27, pos := "law.go:99", after := #[{ on := 4, ground := Go.Ground.guard }], guard := some (4, true) }) (v := _) rfl (by kernel_rfl) (by kernel_rfl) (by kernel_rfl) (fun _ _ _ h => h) (by first
      | exact Or.inr ⟨by rfl, rfl⟩
      | (refine Or.inl ⟨by rfl, fun W hS => ?_⟩; obtain ⟨hc, hf⟩ := bcell hS; go_simp; exact ⟨rfl, hS⟩)) ?_
      simp only [Act.put, List.setIfInBounds_toArray, List.set_cons_zero, List.set_cons_succ]
      refine each_take (i := 9) (oi := { dst := some 51, op := Go.Op.binOp Go.BinOp.eql 27 (Go.Operand.tmp 49) (Go.Operand.tmp 50) 27, type := 4, pos := "law.go:99", after := #[{ on := 7, ground := Go.Ground.data }, { on := 8, ground := Go.Ground.data }, { on := 4, ground := Go.Ground.guard }], guard := some (4, true) }) (v := _) rfl (by kernel_rfl) (by kernel_rfl) (by kernel_rfl) (fun _ _ _ h => h) (by first
      | exact Or.inr ⟨by rfl, rfl⟩
      | (refine Or.inl ⟨by rfl, fun W hS => ?_⟩; obtain ⟨hc, hf⟩ := bcell hS; go_simp; exact ⟨rfl, hS⟩)) ?_
      simp only [Act.put, List.setIfInBounds_toArray, List.set_cons_zero, List.set_cons_succ]
      refine each_take (i := 10) (oi := { dst := some 52, op := Go.Op.pick (Go.Operand.tmp 46) (Go.Operand.tmp 51) (Go.Operand.const (Go.Value.bool false)), type := 4, pos := "law.go:99", after := #[{ on := 4, ground := Go.Ground.data }, { on := 9, ground := Go.Ground.data }], guard := none }) (v := _) rfl (by kernel_rfl) (by kernel_rfl) (by kernel_rfl) (fun _ _ _ h => h) (by first
      | exact Or.inr ⟨by rfl, rfl⟩
      | (refine Or.inl ⟨by rfl, fun W hS => ?_⟩; obtain ⟨hc, hf⟩ := bcell hS; go_simp; exact ⟨rfl, hS⟩)) ?_
      simp only [Act.put, List.setIfInBounds_toArray, List.set_cons_zero, List.set_cons_succ]
      refine each_take (i := 11) (oi := { dst := some 53, op := Go.Op.move (Go.Operand.tmp 52), type := 4, pos := "law.go:99", after := #[{ on := 10, ground := Go.Ground.data }, { on := 7, ground := Go.Ground.chain }], guard := none }) (v := _) rfl (by kernel_rfl) (by kernel_rfl) (by kernel_rfl) (fun _ _ _ h => h) (by first
      | exact Or.inr ⟨by rfl, rfl⟩
      | (refine Or.inl ⟨by rfl, fun W hS => ?_⟩; obtain ⟨hc, hf⟩ := bcell hS; go_simp; exact ⟨rfl, hS⟩)) ?_
      simp only [Act.put, List.setIfInBounds_toArray, List.set_cons_zero, List.set_cons_succ]
      refine each_take (i := 12) (oi := { dst := some 54, op := Go.Op.move (Go.Operand.tmp 8), type := 25, pos := "law.go:99", after := #[{ on := 11, ground := Go.Ground.guard }], guard := some (11, true) }) (v := _) rfl (by kernel_rfl) (by kernel_rfl) (by kernel_rfl) (fun _ _ _ h => h) (by first
      | exact Or.inr ⟨by rfl, rfl⟩
      | (refine Or.inl ⟨by rfl, fun W hS => ?_⟩; obtain ⟨hc, hf⟩ := bcell hS; go_simp; exact ⟨rfl, hS⟩)) ?_
      simp only [Act.put, List.setIfInBounds_toArray, List.set_cons_zero, List.set_cons_succ]
      refine each_take (i := 13) (oi := { dst := some 55, op := Go.Op.call { callee := Go.Callee.builtin Go.Builtin.len, args := #[Go.Operand.tmp 54], argTypes := #[25] }, type := 3, pos := "law.go:99", after := #[{ on := 12, ground := Go.Ground.data }, { on := 11, ground := Go.Ground.guard }], guard := some (11, true) }) (v := _) rfl (by kernel_rfl) (by kernel_rfl) (by kernel_rfl) (fun _ _ _ h => h) (by first
      | exact Or.inr ⟨by rfl, rfl⟩
      | (refine Or.inl ⟨by rfl, fun W hS => ?_⟩; obtain ⟨hc, hf⟩ := bcell hS; go_simp; exact ⟨rfl, hS⟩)) ?_
      simp only [Act.put, List.setIfInBounds_toArray, List.set_cons_zero, List.set_cons_succ]
      refine each_take (i := 14) (oi := { dst := some 56, op := Go.Op.binOp Go.BinOp.eql 3 (Go.Operand.tmp 55) (Go.Operand.const (Go.Value.int Go.IntKind.i64 0)) 3, type := 4, pos := "law.go:99", after := #[{ on := 13, ground := Go.Ground.data }, { on := 11, ground := Go.Ground.guard }], guard := some (11, true) }) (v := _) rfl (by kernel_rfl) (by kernel_rfl) (by kernel_rfl) (fun _ _ _ h => h) (by first
      | exact Or.inr ⟨by rfl, rfl⟩
      | (refine Or.inl ⟨by rfl, fun W hS => ?_⟩; obtain ⟨hc, hf⟩ := bcell hS; go_simp; exact ⟨rfl, hS⟩)) ?_
      simp only [Act.put, List.setIfInBounds_toArray, List.set_cons_zero, List.set_cons_succ]
      refine each_take (i := 15) (oi := { dst := some 57, op := Go.Op.move (Go.Operand.tmp 56), type := 4, pos := "law.go:99", after := #[{ on := 14, ground := Go.Ground.data }, { on := 11, ground := Go.Ground.chain }, { on := 11, ground := Go.Ground.guard }], guard := some (11, true) }) (v := _) rfl (by kernel_rfl) (by kernel_rfl) (by kernel_rfl) (fun _ _ _ h => h) (by first
      | exact Or.inr ⟨by rfl, rfl⟩
      | (refine Or.inl ⟨by rfl, fun W hS => ?_⟩; obtain ⟨hc, hf⟩ := bcell hS; go_simp; exact ⟨rfl, hS⟩)) ?_
      simp only [Act.put, List.setIfInBounds_toArray, List.set_cons_zero, List.set_cons_succ]
      refine each_take (i := 16) (oi := { dst := some 58, op := Go.Op.move (Go.Operand.tmp 9), type := 25, pos := "law.go:99", after := #[{ on := 15, ground := Go.Ground.guard }], guard := some (15, false) }) (v := _) rfl (by kernel_rfl) (by kernel_rfl) (by kernel_rfl) (fun _ _ _ h => h) (by first
      | exact Or.inr ⟨by rfl, rfl⟩
      | (refine Or.inl ⟨by rfl, fun W hS => ?_⟩; obtain ⟨hc, hf⟩ := bcell hS; go_simp; exact ⟨rfl, hS⟩)) ?_
      simp only [Act.put, List.setIfInBounds_toArray, List.set_cons_zero, List.set_cons_succ]
      refine each_take (i := 17) (oi := { dst := some 59, op := Go.Op.call { callee := Go.Callee.builtin Go.Builtin.len, args := #[Go.Operand.tmp 58], argTypes := #[25] }, type := 3, pos := "law.go:99", after := #[{ on := 16, ground := Go.Ground.data }, { on := 15, ground := Go.Ground.guard }], guard := some (15, false) }) (v := _) rfl (by kernel_rfl) (by kernel_rfl) (by kernel_rfl) (fun _ _ _ h => h) (by first
      | exact Or.inr ⟨by rfl, rfl⟩
      | (refine Or.inl ⟨by rfl, fun W hS => ?_⟩; obtain ⟨hc, hf⟩ := bcell hS; go_simp; exact ⟨rfl, hS⟩)) ?_
      simp only [Act.put, List.setIfInBounds_toArray, List.set_cons_zero, List.set_cons_succ]
      refine each_take (i := 18) (oi := { dst := some 60, op := Go.Op.binOp Go.BinOp.eql 3 (Go.Operand.tmp 59) (Go.Operand.const (Go.Value.int Go.IntKind.i64 0)) 3, type := 4, pos := "law.go:99", after := #[{ on := 17, ground := Go.Ground.data }, { on := 15, ground := Go.Ground.guard }], guard := some (15, false) }) (v := _) rfl (by kernel_rfl) (by kernel_rfl) (by kernel_rfl) (fun _ _ _ h => h) (by first
      | exact Or.inr ⟨by rfl, rfl⟩
      | (refine Or.inl ⟨by rfl, fun W hS => ?_⟩; obtain ⟨hc, hf⟩ := bcell hS; go_simp; exact ⟨rfl, hS⟩)) ?_
      simp only [Act.put, List.setIfInBounds_toArray, List.set_cons_zero, List.set_cons_succ]
      refine each_take (i := 19) (oi := { dst := some 61, op := Go.Op.pick (Go.Operand.tmp 57) (Go.Operand.const (Go.Value.bool true)) (Go.Operand.tmp 60), type := 4, pos := "law.go:99", after := #[{ on := 15, ground := Go.Ground.data }, { on := 18, ground := Go.Ground.data }, { on := 11, ground := Go.Ground.guard }], guard := some (11, true) }) (v := _) rfl (by kernel_rfl) (by kernel_rfl) (by kernel_rfl) (fun _ _ _ h => h) (by first
      | exact Or.inr ⟨by rfl, rfl⟩
      | (refine Or.inl ⟨by rfl, fun W hS => ?_⟩; obtain ⟨hc, hf⟩ := bcell hS; go_simp; exact ⟨rfl, hS⟩)) ?_
      simp only [Act.put, List.setIfInBounds_toArray, List.set_cons_zero, List.set_cons_succ]
      refine each_take (i := 20) (oi := { dst := some 62, op := Go.Op.move (Go.Operand.tmp 61), type := 4, pos := "law.go:99", after := #[{ on := 19, ground := Go.Ground.data }, { on := 15, ground := Go.Ground.chain }, { on := 11, ground := Go.Ground.guard }], guard := some (11, true) }) (v := _) rfl (by kernel_rfl) (by kernel_rfl) (by kernel_rfl) (fun _ _ _ h => h) (by first
      | exact Or.inr ⟨by rfl, rfl⟩
      | (refine Or.inl ⟨by rfl, fun W hS => ?_⟩; obtain ⟨hc, hf⟩ := bcell hS; go_simp; exact ⟨rfl, hS⟩)) ?_
      simp only [Act.put, List.setIfInBounds_toArray, List.set_cons_zero, List.set_cons_succ]
      refine each_take (i := 21) (oi := { dst := some 63, op := Go.Op.move (Go.Operand.tmp 8), type := 25, pos := "law.go:99", after := #[{ on := 20, ground := Go.Ground.guard }], guard := some (20, false) }) (v := _) rfl (by kernel_rfl) (by kernel_rfl) (by kernel_rfl) (fun _ _ _ h => h) (by first
      | exact Or.inr ⟨by rfl, rfl⟩
      | (refine Or.inl ⟨by rfl, fun W hS => ?_⟩; obtain ⟨hc, hf⟩ := bcell hS; go_simp; exact ⟨rfl, hS⟩)) ?_
      simp only [Act.put, List.setIfInBounds_toArray, List.set_cons_zero, List.set_cons_succ]
      refine each_take (i := 22) (oi := { dst := some 64, op := Go.Op.move (Go.Operand.tmp 8), type := 25, pos := "law.go:99", after := #[{ on := 20, ground := Go.Ground.guard }], guard := some (20, false) }) (v := _) rfl (by kernel_rfl) (by kernel_rfl) (by kernel_rfl) (fun _ _ _ h => h) (by first
      | exact Or.inr ⟨by rfl, rfl⟩
      | (refine Or.inl ⟨by rfl, fun W hS => ?_⟩; obtain ⟨hc, hf⟩ := bcell hS; go_simp; exact ⟨rfl, hS⟩)) ?_
      simp only [Act.put, List.setIfInBounds_toArray, List.set_cons_zero, List.set_cons_succ]
      refine each_take (i := 23) (oi := { dst := some 65, op := Go.Op.call { callee := Go.Callee.builtin Go.Builtin.len, args := #[Go.Operand.tmp 64], argTypes := #[25] }, type := 3, pos := "law.go:99", after := #[{ on := 22, ground := Go.Ground.data }, { on := 20, ground := Go.Ground.guard }], guard := some (20, false) }) (v := _) rfl (by kernel_rfl) (by kernel_rfl) (by kernel_rfl) (fun _ _ _ h => h) (by first
      | exact Or.inr ⟨by rfl, rfl⟩
      | (refine Or.inl ⟨by rfl, fun W hS => ?_⟩; obtain ⟨hc, hf⟩ := bcell hS; go_simp; exact ⟨rfl, hS⟩)) ?_
      simp only [Act.put, List.setIfInBounds_toArray, List.set_cons_zero, List.set_cons_succ]
      refine each_take (i := 24) (oi := { dst := some 66, op := Go.Op.binOp Go.BinOp.sub 3 (Go.Operand.tmp 65) (Go.Operand.const (Go.Value.int Go.IntKind.i64 1)) 3, type := 3, pos := "law.go:99", after := #[{ on := 23, ground := Go.Ground.data }, { on := 20, ground := Go.Ground.guard }], guard := some (20, false) }) (v := _) rfl (by kernel_rfl) (by kernel_rfl) (by kernel_rfl) (fun _ _ _ h => h) (by first
      | exact Or.inr ⟨by rfl, rfl⟩
      | (refine Or.inl ⟨by rfl, fun W hS => ?_⟩; obtain ⟨hc, hf⟩ := bcell hS; go_simp; exact ⟨rfl, hS⟩)) ?_
      simp only [Act.put, List.setIfInBounds_toArray, List.set_cons_zero, List.set_cons_succ]
      refine each_take (i := 25) (oi := { dst := some 67, op := Go.Op.indexAddr 25 (Go.Operand.tmp 63) (Go.Operand.tmp 66), type := 0, pos := "law.go:99", after := #[{ on := 21, ground := Go.Ground.data }, { on := 24, ground := Go.Ground.data }, { on := 20, ground := Go.Ground.guard }], guard := some (20, false) }) (v := _) rfl (by kernel_rfl) (by kernel_rfl) (by kernel_rfl) (fun _ _ _ h => h) (by first
      | exact Or.inr ⟨by rfl, rfl⟩
      | (refine Or.inl ⟨by rfl, fun W hS => ?_⟩; obtain ⟨hc, hf⟩ := bcell hS; go_simp; exact ⟨rfl, hS⟩)) ?_
      simp only [Act.put, List.setIfInBounds_toArray, List.set_cons_zero, List.set_cons_succ]
      refine each_take (i := 26) (oi := { dst := some 68, op := Go.Op.load 3 (Go.Operand.tmp 67), type := 3, pos := "law.go:99", after := #[{ on := 25, ground := Go.Ground.data }, { on := 20, ground := Go.Ground.guard }], guard := some (20, false) }) (v := _) rfl (by kernel_rfl) (by kernel_rfl) (by kernel_rfl) (fun _ _ _ h => h) (by first
      | exact Or.inr ⟨by rfl, rfl⟩
      | (refine Or.inl ⟨by rfl, fun W hS => ?_⟩; obtain ⟨hc, hf⟩ := bcell hS; go_simp; exact ⟨rfl, hS⟩)) ?_
      simp only [Act.put, List.setIfInBounds_toArray, List.set_cons_zero, List.set_cons_succ]
      refine each_take (i := 27) (oi := { dst := some 69, op := Go.Op.move (Go.Operand.tmp 9), type := 25, pos := "law.go:99", after := #[{ on := 20, ground := Go.Ground.guard }], guard := some (20, false) }) (v := _) rfl (by kernel_rfl) (by kernel_rfl) (by kernel_rfl) (fun _ _ _ h => h) (by first
      | exact Or.inr ⟨by rfl, rfl⟩
      | (refine Or.inl ⟨by rfl, fun W hS => ?_⟩; obtain ⟨hc, hf⟩ := bcell hS; go_simp; exact ⟨rfl, hS⟩)) ?_
      simp only [Act.put, List.setIfInBounds_toArray, List.set_cons_zero, List.set_cons_succ]
      refine each_take (i := 28) (oi := { dst := some 70, op := Go.Op.indexAddr 25 (Go.Operand.tmp 69) (Go.Operand.const (Go.Value.int Go.IntKind.i64 0)), type := 0, pos := "law.go:99", after := #[{ on := 27, ground := Go.Ground.data }, { on := 20, ground := Go.Ground.guard }], guard := some (20, false) }) (v := _) rfl (by kernel_rfl) (by kernel_rfl) (by kernel_rfl) (fun _ _ _ h => h) (by first
      | exact Or.inr ⟨by rfl, rfl⟩
      | (refine Or.inl ⟨by rfl, fun W hS => ?_⟩; obtain ⟨hc, hf⟩ := bcell hS; go_simp; exact ⟨rfl, hS⟩)) ?_
      simp only [Act.put, List.setIfInBounds_toArray, List.set_cons_zero, List.set_cons_succ]
      refine each_take (i := 29) (oi := { dst := some 71, op := Go.Op.load 3 (Go.Operand.tmp 70), type := 3, pos := "law.go:99", after := #[{ on := 28, ground := Go.Ground.data }, { on := 20, ground := Go.Ground.guard }], guard := some (20, false) }) (v := _) rfl (by kernel_rfl) (by kernel_rfl) (by kernel_rfl) (fun _ _ _ h => h) (by first
      | exact Or.inr ⟨by rfl, rfl⟩
      | (refine Or.inl ⟨by rfl, fun W hS => ?_⟩; obtain ⟨hc, hf⟩ := bcell hS; go_simp; exact ⟨rfl, hS⟩)) ?_
      simp only [Act.put, List.setIfInBounds_toArray, List.set_cons_zero, List.set_cons_succ]
      refine each_take (i := 30) (oi := { dst := some 72, op := Go.Op.binOp Go.BinOp.lss 3 (Go.Operand.tmp 68) (Go.Operand.tmp 71) 3, type := 4, pos := "law.go:99", after := #[{ on := 26, ground := Go.Ground.data }, { on := 29, ground := Go.Ground.data }, { on := 20, ground := Go.Ground.guard }], guard := some (20, false) }) (v := _) rfl (by kernel_rfl) (by kernel_rfl) (by kernel_rfl) (fun _ _ _ h => h) (by first
      | exact Or.inr ⟨by rfl, rfl⟩
      | (refine Or.inl ⟨by rfl, fun W hS => ?_⟩; obtain ⟨hc, hf⟩ := bcell hS; go_simp; exact ⟨rfl, hS⟩)) ?_
      simp only [Act.put, List.setIfInBounds_toArray, List.set_cons_zero, List.set_cons_succ]
      refine each_take (i := 31) (oi := { dst := some 73, op := Go.Op.pick (Go.Operand.tmp 62) (Go.Operand.const (Go.Value.bool true)) (Go.Operand.tmp 72), type := 4, pos := "law.go:99", after := #[{ on := 20, ground := Go.Ground.data }, { on := 30, ground := Go.Ground.data }, { on := 11, ground := Go.Ground.guard }], guard := some (11, true) }) (v := _) rfl (by kernel_rfl) (by kernel_rfl) (by kernel_rfl) (fun _ _ _ h => h) (by first
      | exact Or.inr ⟨by rfl, rfl⟩
      | (refine Or.inl ⟨by rfl, fun W hS => ?_⟩; obtain ⟨hc, hf⟩ := bcell hS; go_simp; exact ⟨rfl, hS⟩)) ?_
      simp only [Act.put, List.setIfInBounds_toArray, List.set_cons_zero, List.set_cons_succ]
      refine each_take (i := 32) (oi := { dst := some 74, op := Go.Op.pick (Go.Operand.tmp 53) (Go.Operand.tmp 73) (Go.Operand.const (Go.Value.bool false)), type := 4, pos := "law.go:99", after := #[{ on := 11, ground := Go.Ground.data }, { on := 31, ground := Go.Ground.data }], guard := none }) (v := _) rfl (by kernel_rfl) (by kernel_rfl) (by kernel_rfl) (fun _ _ _ h => h) (by first
      | exact Or.inr ⟨by rfl, rfl⟩
      | (refine Or.inl ⟨by rfl, fun W hS => ?_⟩; obtain ⟨hc, hf⟩ := bcell hS; go_simp; exact ⟨rfl, hS⟩)) ?_
      simp only [Act.put, List.setIfInBounds_toArray, List.set_cons_zero, List.set_cons_succ]
      refine each_take (i := 33) (oi := { dst := some 75, op := Go.Op.move (Go.Operand.tmp 74), type := 4, pos := "law.go:99", after := #[{ on := 32, ground := Go.Ground.data }, { on := 20, ground := Go.Ground.chain }], guard := none }) (v := _) rfl (by kernel_rfl) (by kernel_rfl) (by kernel_rfl) (fun _ _ _ h => h) (by first
      | exact Or.inr ⟨by rfl, rfl⟩
      | (refine Or.inl ⟨by rfl, fun W hS => ?_⟩; obtain ⟨hc, hf⟩ := bcell hS; go_simp; exact ⟨rfl, hS⟩)) ?_
      simp only [Act.put, List.setIfInBounds_toArray, List.set_cons_zero, List.set_cons_succ]
      refine each_take (i := 34) (oi := { dst := some 76, op := Go.Op.call { callee := Go.Callee.value (Go.Operand.func 9), args := #[], argTypes := #[] }, type := 4, pos := "law.go:99", after := #[{ on := 33, ground := Go.Ground.chain }, { on := 33, ground := Go.Ground.guard }], guard := some (33, true) }) (v := _) rfl (by kernel_rfl) (by kernel_rfl) (by kernel_rfl) (fun _ _ _ h => h) (by first
      | exact Or.inr ⟨by rfl, rfl⟩
      | (refine Or.inl ⟨by rfl, fun W hS => ?_⟩; go_simp; show Calls _ _ _ _ _; refine (live_any _ (HE.out.below (hW.out.trans (hS.mono hW.out.size)))).mono ?_; rintro e w7 ⟨rfl, hb⟩; exact ⟨rfl, hS.trans (hb.mono hS.size)⟩)) ?_
      simp only [Act.put, List.setIfInBounds_toArray, List.set_cons_zero, List.set_cons_succ]
      refine each_take (i := 35) (oi := { dst := some 77, op := Go.Op.pick (Go.Operand.tmp 75) (Go.Operand.tmp 76) (Go.Operand.const (Go.Value.bool false)), type := 4, pos := "law.go:99", after := #[{ on := 33, ground := Go.Ground.data }, { on := 34, ground := Go.Ground.data }], guard := none }) (v := _) rfl (by kernel_rfl) (by kernel_rfl) (by kernel_rfl) (fun _ _ _ h => h) (by first
      | exact Or.inr ⟨by rfl, rfl⟩
      | (refine Or.inl ⟨by rfl, fun W hS => ?_⟩; obtain ⟨hc, hf⟩ := bcell hS; go_simp; exact ⟨rfl, hS⟩)) ?_
      simp only [Act.put, List.setIfInBounds_toArray, List.set_cons_zero, List.set_cons_succ]
      refine each_take (i := 36) (oi := { dst := some 4, op := Go.Op.assign (Go.Operand.tmp 77), type := 4, pos := "law.go:99", after := #[{ on := 35, ground := Go.Ground.data }, { on := 34, ground := Go.Ground.chain }, { on := 0, ground := Go.Ground.phase }, { on := 1, ground := Go.Ground.phase }, { on := 2, ground := Go.Ground.phase }, { on := 3, ground := Go.Ground.phase }, { on := 4, ground := Go.Ground.phase }, { on := 5, ground := Go.Ground.phase }, { on := 6, ground := Go.Ground.phase }, { on := 7, ground := Go.Ground.phase }, { on := 8, ground := Go.Ground.phase }, { on := 9, ground := Go.Ground.phase }, { on := 10, ground := Go.Ground.phase }, { on := 11, ground := Go.Ground.phase }, { on := 12, ground := Go.Ground.phase }, { on := 13, ground := Go.Ground.phase }, { on := 14, ground := Go.Ground.phase }, { on := 15, ground := Go.Ground.phase }, { on := 16, ground := Go.Ground.phase }, { on := 17, ground := Go.Ground.phase }, { on := 18, ground := Go.Ground.phase }, { on := 19, ground := Go.Ground.phase }, { on := 20, ground := Go.Ground.phase }, { on := 21, ground := Go.Ground.phase }, { on := 22, ground := Go.Ground.phase }, { on := 23, ground := Go.Ground.phase }, { on := 24, ground := Go.Ground.phase }, { on := 25, ground := Go.Ground.phase }, { on := 26, ground := Go.Ground.phase }, { on := 27, ground := Go.Ground.phase }, { on := 28, ground := Go.Ground.phase }, { on := 29, ground := Go.Ground.phase }, { on := 30, ground := Go.Ground.phase }, { on := 31, ground := Go.Ground.phase }, { on := 32, ground := Go.Ground.phase }, { on := 33, ground := Go.Ground.phase }, { on := 34, ground := Go.Ground.phase }, { on := 35, ground := Go.Ground.phase }], guard := none }) (v := _) rfl (by kernel_rfl) (by kernel_rfl) (by kernel_rfl) (fun _ _ _ h => h) (by first
      | exact Or.inr ⟨by rfl, rfl⟩
      | (refine Or.inl ⟨by rfl, fun W hS => ?_⟩; obtain ⟨hc, hf⟩ := bcell hS; go_simp; exact ⟨rfl, hS⟩)) ?_
      simp only [Act.put, List.setIfInBounds_toArray, List.set_cons_zero, List.set_cons_succ]
      refine each_done (by kernel_rfl) (fun W hS => ?_) _
      go_wp2
      exact bodyPost_ret (v := .bool true) (by simp [results, Tryd.results6, go_sem]) rfl ⟨rfl, hW.out.trans (hS.mono hW.out.size)⟩
    · have e2 : (((k : Nat) : Int) == 0) = false := by simpa using hk0
      obtain ⟨ba, oa, rfl, la, ka⟩ := (IntsAt.cells HVA.out) (by omega)
      obtain ⟨bb, ob, rfl, lb, kb⟩ := (IntsAt.cells HVB.out) (by omega)
      have ka1 := ka (n - 1) (by rw [HNA.out]; omega)
      have kb1 := kb 0 (by rw [HNB.out]; omega)
      have hlt := HLT.out (by omega) (by omega)
      obtain ⟨x, hx⟩ : ∃ x, xa.getD (n - 1) 0 = x := ⟨_, rfl⟩
      obtain ⟨y, hy⟩ : ∃ y, xb.getD 0 0 = y := ⟨_, rfl⟩
      rw [hx] at ka1 hlt
      rw [hy] at kb1 hlt
      rw [Nat.add_zero] at kb1
      clear ka kb hx hy
      obtain ⟨j, rfl⟩ : ∃ j, n = j + 1 := ⟨n - 1, by omega⟩
      rw [Nat.add_sub_cancel] at ka1
      have i1 : (0 : Int) ≤ (j : Int) := Int.natCast_nonneg _
      have i2 : (j : Int) < (j : Int) + 1 := by omega
      have iw : IntKind.i64.wrap (j : Int) = (j : Int) := by simp [IntKind.wrap, IntKind.signed, IntKind.bits]; omega
      have i3 : 0 < k := by omega
      clear h1 c10 c11 c12 c13 f10 f11 f12 f13 l1 n1 f20 f21 f22 f23 f30 f31 f32 f33
      refine wp_region_each (S := Below w5.heap.size w5) (by kernel_rfl) ((Below.refl _ _).drew) ?_
      refine each_take (i := 0) (oi := { dst := some 42, op := Go.Op.move (Go.Operand.tmp 8), type := 25, pos := "law.go:99", after := #[], guard := none }) (v := _) rfl (by kernel_rfl) (by kernel_rfl) (by kernel_rfl) (fun _ _ _ h => h) (by first
      | exact Or.inr ⟨by rfl, rfl⟩
      | (refine Or.inl ⟨by rfl, fun W hS => ?_⟩; obtain ⟨hc, hf⟩ := bcell hS; go_simp; exact ⟨rfl, hS⟩)) ?_
      simp only [Act.put, List.setIfInBounds_toArray, List.set_cons_zero, List.set_cons_succ]
      refine each_take (i := 1) (oi := { dst := some 43, op := Go.Op.call { callee := Go.Callee.builtin Go.Builtin.len, args := #[Go.Operand.tmp 42], argTypes := #[25] }, type := 3, pos := "law.go:99", after := #[{ on := 0, ground := Go.Ground.data }], guard := none }) (v := _) rfl (by kernel_rfl) (by kernel_rfl) (by kernel_rfl) (fun _ _ _ h => h) (by first
      | exact Or.inr ⟨by rfl, rfl⟩
      | (refine Or.inl ⟨by rfl, fun W hS => ?_⟩; obtain ⟨hc, hf⟩ := bcell hS; go_simp; exact ⟨rfl, hS⟩)) ?_
      simp only [Act.put, List.setIfInBounds_toArray, List.set_cons_zero, List.set_cons_succ]
      refine each_take (i := 2) (oi := { dst := some 44, op := Go.Op.move (Go.Operand.tmp 1), type := 3, pos := "law.go:99", after := #[], guard := none }) (v := _) rfl (by kernel_rfl) (by kernel_rfl) (by kernel_rfl) (fun _ _ _ h => h) (by first
      | exact Or.inr ⟨by rfl, rfl⟩
      | (refine Or.inl ⟨by rfl, fun W hS => ?_⟩; obtain ⟨hc, hf⟩ := bcell hS; go_simp; exact ⟨rfl, hS⟩)) ?_
      simp only [Act.put, List.setIfInBounds_toArray, List.set_cons_zero, List.set_cons_succ]
      refine each_take (i := 3) (oi := { dst := some 45, op := Go.Op.binOp Go.BinOp.eql 3 (Go.Operand.tmp 43) (Go.Operand.tmp 44) 3, type := 4, pos := "law.go:99", after := #[{ on := 1, ground := Go.Ground.data }, { on := 2, ground := Go.Ground.data }], guard := none }) (v := _) rfl (by kernel_rfl) (by kernel_rfl) (by kernel_rfl) (fun _ _ _ h => h) (by first
      | exact Or.inr ⟨by rfl, rfl⟩
      | (refine Or.inl ⟨by rfl, fun W hS => ?_⟩; obtain ⟨hc, hf⟩ := bcell hS; go_simp; exact ⟨rfl, hS⟩)) ?_
      simp only [Act.put, List.setIfInBounds_toArray, List.set_cons_zero, List.set_cons_succ]
      refine each_take (i := 4) (oi := { dst := some 46, op := Go.Op.move (Go.Operand.tmp 45), type := 4, pos := "law.go:99", after := #[{ on := 3, ground := Go.Ground.data }], guard := none }) (v := _) rfl (by kernel_rfl) (by kernel_rfl) (by kernel_rfl) (fun _ _ _ h => h) (by first
      | exact Or.inr ⟨by rfl, rfl⟩
      | (refine Or.inl ⟨by rfl, fun W hS => ?_⟩; obtain ⟨hc, hf⟩ := bcell hS; go_simp; exact ⟨rfl, hS⟩)) ?_
      simp only [Act.put, List.setIfInBounds_toArray, List.set_cons_zero, List.set_cons_succ]
      refine each_take (i := 5) (oi := { dst := some 47, op := Go.Op.load 27 (Go.Operand.tmp 6), type := 27, pos := "law.go:99", after := #[{ on := 4, ground := Go.Ground.guard }], guard := some (4, true) }) (v := _) rfl (by kernel_rfl) (by kernel_rfl) (by kernel_rfl) (fun _ _ _ h => h) (by first
      | exact Or.inr ⟨by rfl, rfl⟩
      | (refine Or.inl ⟨by rfl, fun W hS => ?_⟩; obtain ⟨hc, hf⟩ := bcell hS; go_simp; exact ⟨rfl, hS⟩)) ?_
      simp only [Act.put, List.setIfInBounds_toArray, List.set_cons_zero, List.set_cons_succ]
      refine each_take (i := 6) (oi := { dst := some 48, op := Go.Op.load 27 (Go.Operand.tmp 5), type := 27, pos := "law.go:99", after := #[{ on := 4, ground := Go.Ground.guard }], guard := some (4, true) }) (v := _) rfl (by kernel_rfl) (by kernel_rfl) (by kernel_rfl) (fun _ _ _ h => h) (by first
      | exact Or.inr ⟨by rfl, rfl⟩
      | (refine Or.inl ⟨by rfl, fun W hS => ?_⟩; obtain ⟨hc, hf⟩ := bcell hS; go_simp; exact ⟨rfl, hS⟩)) ?_
      simp only [Act.put, List.setIfInBounds_toArray, List.set_cons_zero, List.set_cons_succ]
      refine each_take (i := 7) (oi := { dst := some 49, op := Go.Op.call { callee := Go.Callee.value (Go.Operand.func 27), args := #[Go.Operand.tmp 47, Go.Operand.tmp 48], argTypes := #[27, 27] }, type := 27, pos := "law.go:99", after := #[{ on := 5, ground := Go.Ground.data }, { on := 6, ground := Go.Ground.data }, { on := 4, ground := Go.Ground.chain }, { on := 4, ground := Go.Ground.guard }], guard := some (4, true) }) (v := _) rfl (by kernel_rfl) (by kernel_rfl) (by kernel_rfl) (fun _ _ _ h => h) (by first
      | exact Or.inr ⟨by rfl, rfl⟩
      | (refine Or.inl ⟨by rfl, fun W hS => ?_⟩; go_simp; show Calls _ _ _ _ _; refine (Minus_any l m _).mono ?_; rintro e w7 ⟨rfl, hb⟩; rw [HMI.out]; dsimp only [mv, mk0]; exact ⟨rfl, hS.trans (hb.mono hS.size)⟩)) ?_
      simp only [Act.put, List.setIfInBounds_toArray, List.set_cons_zero, List.set_cons_succ]
      refine each_take (i := 8) (oi := { dst := some 50, op := Go.Op.build 27 #[], type := 27, pos := "law.go:99", after := #[{ on := 4, ground := Go.Ground.guard }], guard := some (4, true) }) (v := _) rfl (by kernel_rfl) (by kernel_rfl) (by kernel_rfl) (fun _ _ _ h => h) (by first
      | exact Or.inr ⟨by rfl, rfl⟩
      | (refine Or.inl ⟨by rfl, fun W hS => ?_⟩; obtain ⟨hc, hf⟩ := bcell hS; go_simp; exact ⟨rfl, hS⟩)) ?_
      simp only [Act.put, List.setIfInBounds_toArray, List.set_cons_zero, List.set_cons_succ]
      refine each_take (i := 9) (oi := { dst := some 51, op := Go.Op.binOp Go.BinOp.eql 27 (Go.Operand.tmp 49) (Go.Operand.tmp 50) 27, type := 4, pos := "law.go:99", after := #[{ on := 7, ground := Go.Ground.data }, { on := 8, ground := Go.Ground.data }, { on := 4, ground := Go.Ground.guard }], guard := some (4, true) }) (v := _) rfl (by kernel_rfl) (by kernel_rfl) (by kernel_rfl) (fun _ _ _ h => h) (by first
      | exact Or.inr ⟨by rfl, rfl⟩
      | (refine Or.inl ⟨by rfl, fun W hS => ?_⟩; obtain ⟨hc, hf⟩ := bcell hS; go_simp; exact ⟨rfl, hS⟩)) ?_
      simp only [Act.put, List.setIfInBounds_toArray, List.set_cons_zero, List.set_cons_succ]
      refine each_take (i := 10) (oi := { dst := some 52, op := Go.Op.pick (Go.Operand.tmp 46) (Go.Operand.tmp 51) (Go.Operand.const (Go.Value.bool false)), type := 4, pos := "law.go:99", after := #[{ on := 4, ground := Go.Ground.data }, { on := 9, ground := Go.Ground.data }], guard := none }) (v := _) rfl (by kernel_rfl) (by kernel_rfl) (by kernel_rfl) (fun _ _ _ h => h) (by first
      | exact Or.inr ⟨by rfl, rfl⟩
      | (refine Or.inl ⟨by rfl, fun W hS => ?_⟩; obtain ⟨hc, hf⟩ := bcell hS; go_simp; exact ⟨rfl, hS⟩)) ?_
      simp only [Act.put, List.setIfInBounds_toArray, List.set_cons_zero, List.set_cons_succ]
      refine each_take (i := 11) (oi := { dst := some 53, op := Go.Op.move (Go.Operand.tmp 52), type := 4, pos := "law.go:99", after := #[{ on := 10, ground := Go.Ground.data }, { on := 7, ground := Go.Ground.chain }], guard := none }) (v := _) rfl (by kernel_rfl) (by kernel_rfl) (by kernel_rfl) (fun _ _ _ h => h) (by first
      | exact Or.inr ⟨by rfl, rfl⟩
      | (refine Or.inl ⟨by rfl, fun W hS => ?_⟩; obtain ⟨hc, hf⟩ := bcell hS; go_simp; exact ⟨rfl, hS⟩)) ?_
      simp only [Act.put, List.setIfInBounds_toArray, List.set_cons_zero, List.set_cons_succ]
      refine each_take (i := 12) (oi := { dst := some 54, op := Go.Op.move (Go.Operand.tmp 8), type := 25, pos := "law.go:99", after := #[{ on := 11, ground := Go.Ground.guard }], guard := some (11, true) }) (v := _) rfl (by kernel_rfl) (by kernel_rfl) (by kernel_rfl) (fun _ _ _ h => h) (by first
      | exact Or.inr ⟨by rfl, rfl⟩
      | (refine Or.inl ⟨by rfl, fun W hS => ?_⟩; obtain ⟨hc, hf⟩ := bcell hS; go_simp; exact ⟨rfl, hS⟩)) ?_
      simp only [Act.put, List.setIfInBounds_toArray, List.set_cons_zero, List.set_cons_succ]
      refine each_take (i := 13) (oi := { dst := some 55, op := Go.Op.call { callee := Go.Callee.builtin Go.Builtin.len, args := #[Go.Operand.tmp 54], argTypes := #[25] }, type := 3, pos := "law.go:99", after := #[{ on := 12, ground := Go.Ground.data }, { on := 11, ground := Go.Ground.guard }], guard := some (11, true) }) (v := _) rfl (by kernel_rfl) (by kernel_rfl) (by kernel_rfl) (fun _ _ _ h => h) (by first
      | exact Or.inr ⟨by rfl, rfl⟩
      | (refine Or.inl ⟨by rfl, fun W hS => ?_⟩; obtain ⟨hc, hf⟩ := bcell hS; go_simp; exact ⟨rfl, hS⟩)) ?_
      simp only [Act.put, List.setIfInBounds_toArray, List.set_cons_zero, List.set_cons_succ]
      refine each_take (i := 14) (oi := { dst := some 56, op := Go.Op.binOp Go.BinOp.eql 3 (Go.Operand.tmp 55) (Go.Operand.const (Go.Value.int Go.IntKind.i64 0)) 3, type := 4, pos := "law.go:99", after := #[{ on := 13, ground := Go.Ground.data }, { on := 11, ground := Go.Ground.guard }], guard := some (11, true) }) (v := _) rfl (by kernel_rfl) (by kernel_rfl) (by kernel_rfl) (fun _ _ _ h => h) (by first
      | exact Or.inr ⟨by rfl, rfl⟩
      | (refine Or.inl ⟨by rfl, fun W hS => ?_⟩; obtain ⟨hc, hf⟩ := bcell hS; go_simp; exact ⟨rfl, hS⟩)) ?_
      simp only [Act.put, List.setIfInBounds_toArray, List.set_cons_zero, List.set_cons_succ]
      refine each_take (i := 15) (oi := { dst := some 57, op := Go.Op.move (Go.Operand.tmp 56), type := 4, pos := "law.go:99", after := #[{ on := 14, ground := Go.Ground.data }, { on := 11, ground := Go.Ground.chain }, { on := 11, ground := Go.Ground.guard }], guard := some (11, true) }) (v := _) rfl (by kernel_rfl) (by kernel_rfl) (by kernel_rfl) (fun _ _ _ h => h) (by first
      | exact Or.inr ⟨by rfl, rfl⟩
      | (refine Or.inl ⟨by rfl, fun W hS => ?_⟩; obtain ⟨hc, hf⟩ := bcell hS; go_simp; exact ⟨rfl, hS⟩)) ?_
      simp only [Act.put, List.setIfInBounds_toArray, List.set_cons_zero, List.set_cons_succ]
      refine each_take (i := 16) (oi := { dst := some 58, op := Go.Op.move (Go.Operand.tmp 9), type := 25, pos := "law.go:99", after := #[{ on := 15, ground := Go.Ground.guard }], guard := some (15, false) }) (v := _) rfl (by kernel_rfl) (by kernel_rfl) (by kernel_rfl) (fun _ _ _ h => h) (by first
      | exact Or.inr ⟨by rfl, rfl⟩
      | (refine Or.inl ⟨by rfl, fun W hS => ?_⟩; obtain ⟨hc, hf⟩ := bcell hS; go_simp; exact ⟨rfl, hS⟩)) ?_
      simp only [Act.put, List.setIfInBounds_toArray, List.set_cons_zero, List.set_cons_succ]
      refine each_take (i := 17) (oi := { dst := some 59, op := Go.Op.call { callee := Go.Callee.builtin Go.Builtin.len, args := #[Go.Operand.tmp 58], argTypes := #[25] }, type := 3, pos := "law.go:99", after := #[{ on := 16, ground := Go.Ground.data }, { on := 15, ground := Go.Ground.guard }], guard := some (15, false) }) (v := _) rfl (by kernel_rfl) (by kernel_rfl) (by kernel_rfl) (fun _ _ _ h => h) (by first
      | exact Or.inr ⟨by rfl, rfl⟩
      | (refine Or.inl ⟨by rfl, fun W hS => ?_⟩; obtain ⟨hc, hf⟩ := bcell hS; go_simp; exact ⟨rfl, hS⟩)) ?_
      simp only [Act.put, List.setIfInBounds_toArray, List.set_cons_zero, List.set_cons_succ]
      refine each_take (i := 18) (oi := { dst := some 60, op := Go.Op.binOp Go.BinOp.eql 3 (Go.Operand.tmp 59) (Go.Operand.const (Go.Value.int Go.IntKind.i64 0)) 3, type := 4, pos := "law.go:99", after := #[{ on := 17, ground := Go.Ground.data }, { on := 15, ground := Go.Ground.guard }], guard := some (15, false) }) (v := _) rfl (by kernel_rfl) (by kernel_rfl) (by kernel_rfl) (fun _ _ _ h => h) (by first
      | exact Or.inr ⟨by rfl, rfl⟩
      | (refine Or.inl ⟨by rfl, fun W hS => ?_⟩; obtain ⟨hc, hf⟩ := bcell hS; go_simp; exact ⟨rfl, hS⟩)) ?_
      simp only [Act.put, List.setIfInBounds_toArray, List.set_cons_zero, List.set_cons_succ]
      refine each_take (i := 19) (oi := { dst := some 61, op := Go.Op.pick (Go.Operand.tmp 57) (Go.Operand.const (Go.Value.bool true)) (Go.Operand.tmp 60), type := 4, pos := "law.go:99", after := #[{ on := 15, ground := Go.Ground.data }, { on := 18, ground := Go.Ground.data }, { on := 11, ground := Go.Ground.guard }], guard := some (11, true) }) (v := _) rfl (by kernel_rfl) (by kernel_rfl) (by kernel_rfl) (fun _ _ _ h => h) (by first
      | exact Or.inr ⟨by rfl, rfl⟩
      | (refine Or.inl ⟨by rfl, fun W hS => ?_⟩; obtain ⟨hc, hf⟩ := bcell hS; go_simp; exact ⟨rfl, hS⟩)) ?_
      simp only [Act.put, List.setIfInBounds_toArray, List.set_cons_zero, List.set_cons_succ]
      refine each_take (i := 20) (oi := { dst := some 62, op := Go.Op.move (Go.Operand.tmp 61), type := 4, pos := "law.go:99", after := #[{ on := 19, ground := Go.Ground.data }, { on := 15, ground := Go.Ground.chain }, { on := 11, ground := Go.Ground.guard }], guard := some (11, true) }) (v := _) rfl (by kernel_rfl) (by kernel_rfl) (by kernel_rfl) (fun _ _ _ h => h) (by first
      | exact Or.inr ⟨by rfl, rfl⟩
      | (refine Or.inl ⟨by rfl, fun W hS => ?_⟩; obtain ⟨hc, hf⟩ := bcell hS; go_simp; exact ⟨rfl, hS⟩)) ?_
      simp only [Act.put, List.setIfInBounds_toArray, List.set_cons_zero, List.set_cons_succ]
      refine each_take (i := 21) (oi := { dst := some 63, op := Go.Op.move (Go.Operand.tmp 8), type := 25, pos := "law.go:99", after := #[{ on := 20, ground := Go.Ground.guard }], guard := some (20, false) }) (v := _) rfl (by kernel_rfl) (by kernel_rfl) (by kernel_rfl) (fun _ _ _ h => h) (by first
      | exact Or.inr ⟨by rfl, rfl⟩
      | (refine Or.inl ⟨by rfl, fun W hS => ?_⟩; obtain ⟨hc, hf⟩ := bcell hS; go_simp; exact ⟨rfl, hS⟩)) ?_
      simp only [Act.put, List.setIfInBounds_toArray, List.set_cons_zero, List.set_cons_succ]
      refine each_take (i := 22) (oi := { dst := some 64, op := Go.Op.move (Go.Operand.tmp 8), type := 25, pos := "law.go:99", after := #[{ on := 20, ground := Go.Ground.guard }], guard := some (20, false) }) (v := _) rfl (by kernel_rfl) (by kernel_rfl) (by kernel_rfl) (fun _ _ _ h => h) (by first
      | exact Or.inr ⟨by rfl, rfl⟩
      | (refine Or.inl ⟨by rfl, fun W hS => ?_⟩; obtain ⟨hc, hf⟩ := bcell hS; go_simp; exact ⟨rfl, hS⟩)) ?_
      simp only [Act.put, List.setIfInBounds_toArray, List.set_cons_zero, List.set_cons_succ]
      refine each_take (i := 23) (oi := { dst := some 65, op := Go.Op.call { callee := Go.Callee.builtin Go.Builtin.len, args := #[Go.Operand.tmp 64], argTypes := #[25] }, type := 3, pos := "law.go:99", after := #[{ on := 22, ground := Go.Ground.data }, { on := 20, ground := Go.Ground.guard }], guard := some (20, false) }) (v := _) rfl (by kernel_rfl) (by kernel_rfl) (by kernel_rfl) (fun _ _ _ h => h) (by first
      | exact Or.inr ⟨by rfl, rfl⟩
      | (refine Or.inl ⟨by rfl, fun W hS => ?_⟩; obtain ⟨hc, hf⟩ := bcell hS; go_simp; exact ⟨rfl, hS⟩)) ?_
      simp only [Act.put, List.setIfInBounds_toArray, List.set_cons_zero, List.set_cons_succ]
      refine each_take (i := 24) (oi := { dst := some 66, op := Go.Op.binOp Go.BinOp.sub 3 (Go.Operand.tmp 65) (Go.Operand.const (Go.Value.int Go.IntKind.i64 1)) 3, type := 3, pos := "law.go:99", after := #[{ on := 23, ground := Go.Ground.data }, { on := 20, ground := Go.Ground.guard }], guard := some (20, false) }) (v := _) rfl (by kernel_rfl) (by kernel_rfl) (by kernel_rfl) (fun _ _ _ h => h) (by first
      | exact Or.inr ⟨by rfl, rfl⟩
      | (refine Or.inl ⟨by rfl, fun W hS => ?_⟩; obtain ⟨hc, hf⟩ := bcell hS; go_simp; exact ⟨rfl, hS⟩)) ?_
      simp only [Act.put, List.setIfInBounds_toArray, List.set_cons_zero, List.set_cons_succ]
      refine each_take (i := 25) (oi := { dst := some 67, op := Go.Op.indexAddr 25 (Go.Operand.tmp 63) (Go.Operand.tmp 66), type := 0, pos := "law.go:99", after := #[{ on := 21, ground := Go.Ground.data }, { on := 24, ground := Go.Ground.data }, { on := 20, ground := Go.Ground.guard }], guard := some (20, false) }) (v := _) rfl (by kernel_rfl) (by kernel_rfl) (by kernel_rfl) (fun _ _ _ h => h) (by first
      | exact Or.inr ⟨by rfl, rfl⟩
      | (refine Or.inl ⟨by rfl, fun W hS => ?_⟩; obtain ⟨hc, hf⟩ := bcell hS; go_simp; exact ⟨rfl, hS⟩)) ?_
      simp only [Act.put, List.setIfInBounds_toArray, List.set_cons_zero, List.set_cons_succ]
      refine each_take (i := 26) (oi := { dst := some 68, op := Go.Op.load 3 (Go.Operand.tmp 67), type := 3, pos := "law.go:99", after := #[{ on := 25, ground := Go.Ground.data }, { on := 20, ground := Go.Ground.guard }], guard := some (20, false) }) (v := _) rfl (by kernel_rfl) (by kernel_rfl) (by kernel_rfl) (fun _ _ _ h => h) (by first
      | exact Or.inr ⟨by rfl, rfl⟩
      | (refine Or.inl ⟨by rfl, fun W hS => ?_⟩; obtain ⟨hc, hf⟩ := bcell hS; go_simp; exact ⟨rfl, hS⟩)) ?_
      simp only [Act.put, List.setIfInBounds_toArray, List.set_cons_zero, List.set_cons_succ]
      refine each_take (i := 27) (oi := { dst := some 69, op := Go.Op.move (Go.Operand.tmp 9), type := 25, pos := "law.go:99", after := #[{ on := 20, ground := Go.Ground.guard }], guard := some (20, false) }) (v := _) rfl (by kernel_rfl) (by kernel_rfl) (by kernel_rfl) (fun _ _ _ h => h) (by first
      | exact Or.inr ⟨by rfl, rfl⟩
      | (refine Or.inl ⟨by rfl, fun W hS => ?_⟩; obtain ⟨hc, hf⟩ := bcell hS; go_simp; exact ⟨rfl, hS⟩)) ?_
      simp only [Act.put, List.setIfInBounds_toArray, List.set_cons_zero, List.set_cons_succ]
      refine each_take (i := 28) (oi := { dst := some 70, op := Go.Op.indexAddr 25 (Go.Operand.tmp 69) (Go.Operand.const (Go.Value.int Go.IntKind.i64 0)), type := 0, pos := "law.go:99", after := #[{ on := 27, ground := Go.Ground.data }, { on := 20, ground := Go.Ground.guard }], guard := some (20, false) }) (v := _) rfl (by kernel_rfl) (by kernel_rfl) (by kernel_rfl) (fun _ _ _ h => h) (by first
      | exact Or.inr ⟨by rfl, rfl⟩
      | (refine Or.inl ⟨by rfl, fun W hS => ?_⟩; obtain ⟨hc, hf⟩ := bcell hS; go_simp; exact ⟨rfl, hS⟩)) ?_
      simp only [Act.put, List.setIfInBounds_toArray, List.set_cons_zero, List.set_cons_succ]
      refine each_take (i := 29) (oi := { dst := some 71, op := Go.Op.load 3 (Go.Operand.tmp 70), type := 3, pos := "law.go:99", after := #[{ on := 28, ground := Go.Ground.data }, { on := 20, ground := Go.Ground.guard }], guard := some (20, false) }) (v := _) rfl (by kernel_rfl) (by kernel_rfl) (by kernel_rfl) (fun _ _ _ h => h) (by first
      | exact Or.inr ⟨by rfl, rfl⟩
      | (refine Or.inl ⟨by rfl, fun W hS => ?_⟩; obtain ⟨hc, hf⟩ := bcell hS; go_simp; exact ⟨rfl, hS⟩)) ?_
      simp only [Act.put, List.setIfInBounds_toArray, List.set_cons_zero, List.set_cons_succ]
      refine each_take (i := 30) (oi := { dst := some 72, op := Go.Op.binOp Go.BinOp.lss 3 (Go.Operand.tmp 68) (Go.Operand.tmp 71) 3, type := 4, pos := "law.go:99", after := #[{ on := 26, ground := Go.Ground.data }, { on := 29, ground := Go.Ground.data }, { on := 20, ground := Go.Ground.guard }], guard := some (20, false) }) (v := _) rfl (by kernel_rfl) (by kernel_rfl) (by kernel_rfl) (fun _ _ _ h => h) (by first
      | exact Or.inr ⟨by rfl, rfl⟩
      | (refine Or.inl ⟨by rfl, fun W hS => ?_⟩; obtain ⟨hc, hf⟩ := bcell hS; go_simp; exact ⟨rfl, hS⟩)) ?_
      simp only [Act.put, List.setIfInBounds_toArray, List.set_cons_zero, List.set_cons_succ]
      refine each_take (i := 31) (oi := { dst := some 73, op := Go.Op.pick (Go.Operand.tmp 62) (Go.Operand.const (Go.Value.bool true)) (Go.Operand.tmp 72), type := 4, pos := "law.go:99", after := #[{ on := 20, ground := Go.Ground.data }, { on := 30, ground := Go.Ground.data }, { on := 11, ground := Go.Ground.guard }], guard := some (11, true) }) (v := _) rfl (by kernel_rfl) (by kernel_rfl) (by kernel_rfl) (fun _ _ _ h => h) (by first
      | exact Or.inr ⟨by rfl, rfl⟩
      | (refine Or.inl ⟨by rfl, fun W hS => ?_⟩; obtain ⟨hc, hf⟩ := bcell hS; go_simp; exact ⟨rfl, hS⟩)) ?_
      simp only [Act.put, List.setIfInBounds_toArray, List.set_cons_zero, List.set_cons_succ]
      refine each_take (i := 32) (oi := { dst := some 74, op := Go.Op.pick (Go.Operand.tmp 53) (Go.Operand.tmp 73) (Go.Operand.const (Go.Value.bool false)), type := 4, pos := "law.go:99", after := #[{ on := 11, ground := Go.Ground.data }, { on := 31, ground := Go.Ground.data }], guard := none }) (v := _) rfl (by kernel_rfl) (by kernel_rfl) (by kernel_rfl) (fun _ _ _ h => h) (by first
      | exact Or.inr ⟨by rfl, rfl⟩
      | (refine Or.inl ⟨by rfl, fun W hS => ?_⟩; obtain ⟨hc, hf⟩ := bcell hS; go_simp; exact ⟨rfl, hS⟩)) ?_
      simp only [Act.put, List.setIfInBounds_toArray, List.set_cons_zero, List.set_cons_succ]
      refine each_take (i := 33) (oi := { dst := some 75, op := Go.Op.move (Go.Operand.tmp 74), type := 4, pos := "law.go:99", after := #[{ on := 32, ground := Go.Ground.data }, { on := 20, ground := Go.Ground.chain }], guard := none }) (v := _) rfl (by kernel_rfl) (by kernel_rfl) (by kernel_rfl) (fun _ _ _ h => h) (by first
      | exact Or.inr ⟨by rfl, rfl⟩
      | (refine Or.inl ⟨by rfl, fun W hS => ?_⟩; obtain ⟨hc, hf⟩ := bcell hS; go_simp; exact ⟨rfl, hS⟩)) ?_
      simp only [Act.put, List.setIfInBounds_toArray, List.set_cons_zero, List.set_cons_succ]
      refine each_take (i := 34) (oi := { dst := some 76, op := Go.Op.call { callee := Go.Callee.value (Go.Operand.func 9), args := #[], argTypes := #[] }, type := 4, pos := "law.go:99", after := #[{ on := 33, ground := Go.Ground.chain }, { on := 33, ground := Go.Ground.guard }], guard := some (33, true) }) (v := _) rfl (by kernel_rfl) (by kernel_rfl) (by kernel_rfl) (fun _ _ _ h => h) (by first
      | exact Or.inr ⟨by rfl, rfl⟩
      | (refine Or.inl ⟨by rfl, fun W hS => ?_⟩; go_simp; show Calls _ _ _ _ _; refine (live_any _ (HE.out.below (hW.out.trans (hS.mono hW.out.size)))).mono ?_; rintro e w7 ⟨rfl, hb⟩; exact ⟨rfl, hS.trans (hb.mono hS.size)⟩)) ?_
      simp only [Act.put, List.setIfInBounds_toArray, List.set_cons_zero, List.set_cons_succ]
      refine each_take (i := 35) (oi := { dst := some 77, op := Go.Op.pick (Go.Operand.tmp 75) (Go.Operand.tmp 76) (Go.Operand.const (Go.Value.bool false)), type := 4, pos := "law.go:99", after := #[{ on := 33, ground := Go.Ground.data }, { on := 34, ground := Go.Ground.data }], guard := none }) (v := _) rfl (by kernel_rfl) (by kernel_rfl) (by kernel_rfl) (fun _ _ _ h => h) (by first
      | exact Or.inr ⟨by rfl, rfl⟩
      | (refine Or.inl ⟨by rfl, fun W hS => ?_⟩; obtain ⟨hc, hf⟩ := bcell hS; go_simp; exact ⟨rfl, hS⟩)) ?_
      simp only [Act.put, List.setIfInBounds_toArray, List.set_cons_zero, List.set_cons_succ]
      refine each_take (i := 36) (oi := { dst := some 4, op := Go.Op.assign (Go.Operand.tmp 77), type := 4, pos := "law.go:99", after := #[{ on := 35, ground := Go.Ground.data }, { on := 34, ground := Go.Ground.chain }, { on := 0, ground := Go.Ground.phase }, { on := 1, ground := Go.Ground.phase }, { on := 2, ground := Go.Ground.phase }, { on := 3, ground := Go.Ground.phase }, { on := 4, ground := Go.Ground.phase }, { on := 5, ground := Go.Ground.phase }, { on := 6, ground := Go.Ground.phase }, { on := 7, ground := Go.Ground.phase }, { on := 8, ground := Go.Ground.phase }, { on := 9, ground := Go.Ground.phase }, { on := 10, ground := Go.Ground.phase }, { on := 11, ground := Go.Ground.phase }, { on := 12, ground := Go.Ground.phase }, { on := 13, ground := Go.Ground.phase }, { on := 14, ground := Go.Ground.phase }, { on := 15, ground := Go.Ground.phase }, { on := 16, ground := Go.Ground.phase }, { on := 17, ground := Go.Ground.phase }, { on := 18, ground := Go.Ground.phase }, { on := 19, ground := Go.Ground.phase }, { on := 20, ground := Go.Ground.phase }, { on := 21, ground := Go.Ground.phase }, { on := 22, ground := Go.Ground.phase }, { on := 23, ground := Go.Ground.phase }, { on := 24, ground := Go.Ground.phase }, { on := 25, ground := Go.Ground.phase }, { on := 26, ground := Go.Ground.phase }, { on := 27, ground := Go.Ground.phase }, { on := 28, ground := Go.Ground.phase }, { on := 29, ground := Go.Ground.phase }, { on := 30, ground := Go.Ground.phase }, { on := 31, ground := Go.Ground.phase }, { on := 32, ground := Go.Ground.phase }, { on := 33, ground := Go.Ground.phase }, { on := 34, ground := Go.Ground.phase }, { on := 35, ground := Go.Ground.phase }], guard := none }) (v := _) rfl (by kernel_rfl) (by kernel_rfl) (by kernel_rfl) (fun _ _ _ h => h) (by first
      | exact Or.inr ⟨by rfl, rfl⟩
      | (refine Or.inl ⟨by rfl, fun W hS => ?_⟩; obtain ⟨hc, hf⟩ := bcell hS; go_simp; exact ⟨rfl, hS⟩)) ?_
      simp only [Act.put, List.setIfInBounds_toArray, List.set_cons_zero, List.set_cons_succ]
      refine each_done (by kernel_rfl) (fun W hS => ?_) _
      go_wp2
      exact bodyPost_ret (v := .bool true) (by simp [results, Tryd.results6, go_sem]) rfl ⟨rfl, hW.out.trans (hS.mono hW.out.size)⟩
end Go.Proofs.YtbjeaebgnnljhaaDoor
