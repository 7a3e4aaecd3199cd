/- WALKS: the reference's And, Or, Minus. -/
import Derived.Test.YtbjeaebgnnljhaaDoorRc
namespace Go.Proofs.YtbjeaebgnnljhaaDoor
open Go.RowKit Go.Shelf
set_option maxHeartbeats 1000000
set_option maxRecDepth 100000

theorem coll_le {f : Nat → Bool} : (coll f 256).length ≤ 140737488355328 := Nat.le_trans (coll_len f 256) (by decide)

theorem rAnd_any (a b : MK) (ha : mok a) (hb : mok b) (w : World) :
    Calls Tryd.prog 30 #[mv a, mv b] w fun e w' => e = .returned (mv (makeM (coll (fun c => has a c && has b c) 256))) ∧ Below w.heap.size w w' := by
  obtain ⟨i0, hi, hz0, hz1, hz2⟩ := info_parts Tryd.info3
  have HA := Lib.hid ha
  have HB := Lib.hid hb
  clear ha hb
  generalize hf : (fun c => has a c && has b c) = f
  have HF := Lib.hid hf
  clear hf
  unfold mv
  go_enter Tryd.func30, Tryd.ntmps30
  go_wp2
  go_loopw [5, 6] (fun v i wr => ∃ k : Nat, k ≤ 256 ∧ i = .int .i64 k ∧ wr.ownsRow w.heap.size 3 1 v (coll f k).length ((coll f k).map (Value.int .i64)) ∧ Below w.heap.size w wr ∧ w.heap.size + 1 + 1 < wr.heap.size ∧ Blk wr w.heap.size #[.int .u64 a.1, .int .u64 a.2.1, .int .u64 a.2.2.1, .int .u64 a.2.2.2] 24 ∧ Blk wr (w.heap.size + 1) #[.int .u64 b.1, .int .u64 b.2.1, .int .u64 b.2.2.1, .int .u64 b.2.2.2] 24 ∧ Blk wr (w.heap.size + 1 + 1) #[.int .u64 0, .int .u64 0, .int .u64 0, .int .u64 0] 24) (fun _ i _ => 256 - (intOf i).toNat)
  case atStart =>
    refine ⟨0, by omega, rfl, World.ownsRow_nil _ _ _ _, ?_, by simp, ?_, ?_, ?_⟩
    · repeat (first | exact Below.refl _ _ | exact Nat.le_refl _ | refine Below.alloc ?_ ?_ _ | refine size_alloc_le _ _ _ ?_)
    · exact ((Blk.new w _ 24).alloc _).alloc _
    · have h := (Blk.new (w.alloc (.cells #[.int .u64 a.1, .int .u64 a.2.1, .int .u64 a.2.2.1, .int .u64 a.2.2.2] 24)) #[.int .u64 b.1, .int .u64 b.2.1, .int .u64 b.2.2.1, .int .u64 b.2.2.2] 24).alloc (.cells #[.int .u64 0, .int .u64 0, .int .u64 0, .int .u64 0] 24)
      rwa [World.size_alloc] at h
    · have h := Blk.new ((w.alloc (.cells #[.int .u64 a.1, .int .u64 a.2.1, .int .u64 a.2.2.1, .int .u64 a.2.2.2] 24)).alloc (.cells #[.int .u64 b.1, .int .u64 b.2.1, .int .u64 b.2.2.1, .int .u64 b.2.2.2] 24)) #[.int .u64 0, .int .u64 0, .int .u64 0, .int .u64 0] 24
      rwa [World.size_alloc, World.size_alloc] at h
  case round =>
    obtain ⟨k, hk, rfl, hrow, hb, hsz, h0, h1, h2⟩ := hrel
    obtain ⟨c0, c1, c2, c3, f0, f1, f2, f3⟩ := h0.all4
    have hlen := coll_len f k
    have HL := Lib.hid hlen
    have H0 := Lib.hid (And.intro hb (And.intro h0 (And.intro h1 (And.intro h2 hsz))))
    have HR := Lib.hid hrow
    clear hb h0 hrow hlen hsz h2
    have hl1 := h1.lt
    obtain ⟨d0, d1, d2, d3, g0, g1, g2, g3⟩ := h1.all4
    clear h1
    by_cases hlt : k < 256
    · cases hha : has a k with
      | true =>
        cases hhb : has b k with
        | true =>
          have HHA : Hid (hasI a (k : Int) = true) := Lib.hid (by rw [hasI_nat]; exact hha)
          have HHB : Hid (hasI b (k : Int) = true) := Lib.hid (by rw [hasI_nat]; exact hhb)
          have HC := Lib.hid (coll_yes (f := f) (k := k) (by rw [← HF.out]; simp [hha, hhb]))
          clear hha hhb
          have s0 := Lib.hid trivial
          go_wp2_with (first
            | (go_at_call 20; (have q := s0; clear q); refine (rHas_any a HA.out _ _).mono ?_; rintro e w1 ⟨rfl, hb⟩; rw [HHA.out]; have hq := Lib.hid hb; have hs1 := hb.size; obtain ⟨hc, hf⟩ := bcell hb; clear hb s0; have hb := hq; clear hq; have s1 := Lib.hid trivial)
            | (go_at_call 20; (have q := s1; clear q); refine (rHas_any b HB.out _ _).mono ?_; rintro e w2 ⟨rfl, hb2⟩; rw [HHB.out]; clear hc hf; have hq := Lib.hid (Below.trans hb.out (hb2.mono hb.out.size)); have hs2 := hb2.size; clear hb hb2; have hb := hq; clear hq)
            | (at_builtin; refine wpList_append_own _ rfl _ _ 25 rfl w.heap.size 3 i0 (.int .i64 0) 1 8 Tryd.underlying25 hi hz0 hz1 hz2 rfl (by decide) _ _ _ rfl ((row_below HR.out hb.out).alloc _) ⟨w2.heap.size, 0, none⟩ 1 1 [.int .i64 (k : Int)] rfl rfl (cell_one_new _ _ _) (by simp [Value.oneCell']) (by have := HL.out; unfold maxLen; omega) (by have := HL.out; omega) (by have := H0.out.1.size; have := hb.out.size; simp; omega) ?_; intro v' w3 hown' hgrow _))
          go_roundw
          case rel => exact ⟨k + 1, by omega, by go_num, by rw [HC.out]; simpa using hown', row_grown H0.out.1 H0.out.1.size hb.out (row_below HR.out hb.out) hgrow, Nat.lt_of_lt_of_le H0.out.2.2.2.2 (by have := hb.out.size; have := hgrow.size; simp at this; omega), blk_grown H0.out.2.1 (by decide) hb.out (row_below HR.out hb.out) hgrow, blk_grown H0.out.2.2.1 (by decide) hb.out (row_below HR.out hb.out) hgrow, blk_grown H0.out.2.2.2.1 (by decide) hb.out (row_below HR.out hb.out) hgrow⟩
          case measure => simp [intOf]; omega
        | false =>
          have HHA : Hid (hasI a (k : Int) = true) := Lib.hid (by rw [hasI_nat]; exact hha)
          have HHB : Hid (hasI b (k : Int) = false) := Lib.hid (by rw [hasI_nat]; exact hhb)
          have HC := Lib.hid (coll_no (f := f) (k := k) (by rw [← HF.out]; simp [hha, hhb]))
          clear hha hhb
          have s0 := Lib.hid trivial
          go_wp2_with (first
            | (go_at_call 20; (have q := s0; clear q); refine (rHas_any a HA.out _ _).mono ?_; rintro e w1 ⟨rfl, hb⟩; rw [HHA.out]; have hq := Lib.hid hb; have hs1 := hb.size; obtain ⟨hc, hf⟩ := bcell hb; clear hb s0; have hb := hq; clear hq; have s1 := Lib.hid trivial)
            | (go_at_call 20; (have q := s1; clear q); refine (rHas_any b HB.out _ _).mono ?_; rintro e w2 ⟨rfl, hb2⟩; rw [HHB.out]; clear hc hf; have hq := Lib.hid (Below.trans hb.out (hb2.mono hb.out.size)); have hs2 := hb2.size; clear hb hb2; have hb := hq; clear hq))
          go_roundw
          case rel => exact ⟨k + 1, by omega, by go_num, by rw [HC.out]; exact row_below HR.out hb.out, H0.out.1.trans (hb.out.mono H0.out.1.size), Nat.lt_of_lt_of_le H0.out.2.2.2.2 hb.out.size, H0.out.2.1.below hb.out H0.out.2.1.lt, H0.out.2.2.1.below hb.out H0.out.2.2.1.lt, H0.out.2.2.2.1.below hb.out H0.out.2.2.2.1.lt⟩
          case measure => simp [intOf]; omega
      | false =>
        cases hhb : has b k with
        | true =>
          have HHA : Hid (hasI a (k : Int) = false) := Lib.hid (by rw [hasI_nat]; exact hha)
          have HHB : Hid (hasI b (k : Int) = true) := Lib.hid (by rw [hasI_nat]; exact hhb)
          have HC := Lib.hid (coll_no (f := f) (k := k) (by rw [← HF.out]; simp [hha, hhb]))
          clear hha hhb
          have s0 := Lib.hid trivial
          go_wp2_with (first
            | (go_at_call 20; (have q := s0; clear q); refine (rHas_any a HA.out _ _).mono ?_; rintro e w1 ⟨rfl, hb⟩; rw [HHA.out]; have hq := Lib.hid hb; have hs1 := hb.size; clear hb s0; have hb := hq; clear hq; have s1 := Lib.hid trivial))
          go_roundw
          case rel => exact ⟨k + 1, by omega, by go_num, by rw [HC.out]; exact row_below HR.out hb.out, H0.out.1.trans (hb.out.mono H0.out.1.size), Nat.lt_of_lt_of_le H0.out.2.2.2.2 hb.out.size, H0.out.2.1.below hb.out H0.out.2.1.lt, H0.out.2.2.1.below hb.out H0.out.2.2.1.lt, H0.out.2.2.2.1.below hb.out H0.out.2.2.2.1.lt⟩
          case measure => simp [intOf]; omega
        | false =>
          have HHA : Hid (hasI a (k : Int) = false) := Lib.hid (by rw [hasI_nat]; exact hha)
          have HHB : Hid (hasI b (k : Int) = false) := Lib.hid (by rw [hasI_nat]; exact hhb)
          have HC := Lib.hid (coll_no (f := f) (k := k) (by rw [← HF.out]; simp [hha, hhb]))
          clear hha hhb
          have s0 := Lib.hid trivial
          go_wp2_with (first
            | (go_at_call 20; (have q := s0; clear q); refine (rHas_any a HA.out _ _).mono ?_; rintro e w1 ⟨rfl, hb⟩; rw [HHA.out]; have hq := Lib.hid hb; have hs1 := hb.size; clear hb s0; have hb := hq; clear hq; have s1 := Lib.hid trivial))
          go_roundw
          case rel => exact ⟨k + 1, by omega, by go_num, by rw [HC.out]; exact row_below HR.out hb.out, H0.out.1.trans (hb.out.mono H0.out.1.size), Nat.lt_of_lt_of_le H0.out.2.2.2.2 hb.out.size, H0.out.2.1.below hb.out H0.out.2.1.lt, H0.out.2.2.1.below hb.out H0.out.2.2.1.lt, H0.out.2.2.2.1.below hb.out H0.out.2.2.2.1.lt⟩
          case measure => simp [intOf]; omega
    · obtain rfl : k = 256 := by omega
      go_wp2_with (go_at_call 37; refine (Make_any (coll f 256) _ coll_le _ (ints_of_row HR.out)).mono ?_; rintro e w1 ⟨rfl, hb⟩; obtain ⟨q0, q1, q2, q3, r0, r1, r2, r3⟩ := (H0.out.2.2.2.1.below hb H0.out.2.2.2.1.lt).all4; dsimp only [mv]; have HBB := Lib.hid hb; clear hb)
      have h9 := (H0.out.2.2.2.1.below HBB.out H0.out.2.2.2.1.lt).set4 (.int .u64 (makeM (coll f 256)).1) (.int .u64 (makeM (coll f 256)).2.1) (.int .u64 (makeM (coll f 256)).2.2.1) (.int .u64 (makeM (coll f 256)).2.2.2)
      refine bodyPost_ret (v := mv (makeM (coll f 256))) ?_ rfl ⟨rfl, ?_⟩
      · simp [results, Tryd.results30, go_sem, h9.cell 0 _ rfl, h9.cell 1 _ rfl, h9.cell 2 _ rfl, h9.cell 3 _ rfl]; rfl
      · have hW : Below w.heap.size w w1 := H0.out.1.trans (HBB.out.mono H0.out.1.size)
        exact (((hW.setCell (by simp; omega) _).setCell (by simp; omega) _).setCell (by simp; omega) _).setCell (by simp; omega) _

theorem rOr_any (a b : MK) (ha : mok a) (hb : mok b) (w : World) :
    Calls Tryd.prog 32 #[mv a, mv b] w fun e w' => e = .returned (mv (makeM (coll (fun c => has a c || has b c) 256))) ∧ Below w.heap.size w w' := by
  obtain ⟨i0, hi, hz0, hz1, hz2⟩ := info_parts Tryd.info3
  have HA := Lib.hid ha
  have HB := Lib.hid hb
  clear ha hb
  generalize hf : (fun c => has a c || has b c) = f
  have HF := Lib.hid hf
  clear hf
  unfold mv
  go_enter Tryd.func32, Tryd.ntmps32
  go_wp2
  go_loopw [5, 6] (fun v i wr => ∃ k : Nat, k ≤ 256 ∧ i = .int .i64 k ∧ wr.ownsRow w.heap.size 3 1 v (coll f k).length ((coll f k).map (Value.int .i64)) ∧ Below w.heap.size w wr ∧ w.heap.size + 1 + 1 < wr.heap.size ∧ Blk wr w.heap.size #[.int .u64 a.1, .int .u64 a.2.1, .int .u64 a.2.2.1, .int .u64 a.2.2.2] 24 ∧ Blk wr (w.heap.size + 1) #[.int .u64 b.1, .int .u64 b.2.1, .int .u64 b.2.2.1, .int .u64 b.2.2.2] 24 ∧ Blk wr (w.heap.size + 1 + 1) #[.int .u64 0, .int .u64 0, .int .u64 0, .int .u64 0] 24) (fun _ i _ => 256 - (intOf i).toNat)
  case atStart =>
    refine ⟨0, by omega, rfl, World.ownsRow_nil _ _ _ _, ?_, by simp, ?_, ?_, ?_⟩
    · repeat (first | exact Below.refl _ _ | exact Nat.le_refl _ | refine Below.alloc ?_ ?_ _ | refine size_alloc_le _ _ _ ?_)
    · exact ((Blk.new w _ 24).alloc _).alloc _
    · have h := (Blk.new (w.alloc (.cells #[.int .u64 a.1, .int .u64 a.2.1, .int .u64 a.2.2.1, .int .u64 a.2.2.2] 24)) #[.int .u64 b.1, .int .u64 b.2.1, .int .u64 b.2.2.1, .int .u64 b.2.2.2] 24).alloc (.cells #[.int .u64 0, .int .u64 0, .int .u64 0, .int .u64 0] 24)
      rwa [World.size_alloc] at h
    · have h := Blk.new ((w.alloc (.cells #[.int .u64 a.1, .int .u64 a.2.1, .int .u64 a.2.2.1, .int .u64 a.2.2.2] 24)).alloc (.cells #[.int .u64 b.1, .int .u64 b.2.1, .int .u64 b.2.2.1, .int .u64 b.2.2.2] 24)) #[.int .u64 0, .int .u64 0, .int .u64 0, .int .u64 0] 24
      rwa [World.size_alloc, World.size_alloc] at h
  case round =>
    obtain ⟨k, hk, rfl, hrow, hb, hsz, h0, h1, h2⟩ := hrel
    obtain ⟨c0, c1, c2, c3, f0, f1, f2, f3⟩ := h0.all4
    have hlen := coll_len f k
    have HL := Lib.hid hlen
    have H0 := Lib.hid (And.intro hb (And.intro h0 (And.intro h1 (And.intro h2 hsz))))
    have HR := Lib.hid hrow
    clear hb h0 hrow hlen hsz h2
    have hl1 := h1.lt
    obtain ⟨d0, d1, d2, d3, g0, g1, g2, g3⟩ := h1.all4
    clear h1
    by_cases hlt : k < 256
    · cases hha : has a k with
      | true =>
        cases hhb : has b k with
        | true =>
          have HHA : Hid (hasI a (k : Int) = true) := Lib.hid (by rw [hasI_nat]; exact hha)
          have HHB : Hid (hasI b (k : Int) = true) := Lib.hid (by rw [hasI_nat]; exact hhb)
          have HC := Lib.hid (coll_yes (f := f) (k := k) (by rw [← HF.out]; simp [hha, hhb]))
          clear hha hhb
          have s0 := Lib.hid trivial
          go_wp2_with (first
            | (go_at_call 20; (have q := s0; clear q); refine (rHas_any a HA.out _ _).mono ?_; rintro e w1 ⟨rfl, hb⟩; rw [HHA.out]; have hq := Lib.hid hb; have hs1 := hb.size; clear hb s0; have hb := hq; clear hq; have s1 := Lib.hid trivial)
            | (at_builtin; refine wpList_append_own _ rfl _ _ 25 rfl w.heap.size 3 i0 (.int .i64 0) 1 8 Tryd.underlying25 hi hz0 hz1 hz2 rfl (by decide) _ _ _ rfl ((row_below HR.out hb.out).alloc _) ⟨w1.heap.size, 0, none⟩ 1 1 [.int .i64 (k : Int)] rfl rfl (cell_one_new _ _ _) (by simp [Value.oneCell']) (by have := HL.out; unfold maxLen; omega) (by have := HL.out; omega) (by have := H0.out.1.size; have := hb.out.size; simp; omega) ?_; intro v' w3 hown' hgrow _))
          go_roundw
          case rel => exact ⟨k + 1, by omega, by go_num, by rw [HC.out]; simpa using hown', row_grown H0.out.1 H0.out.1.size hb.out (row_below HR.out hb.out) hgrow, Nat.lt_of_lt_of_le H0.out.2.2.2.2 (by have := hb.out.size; have := hgrow.size; simp at this; omega), blk_grown H0.out.2.1 (by decide) hb.out (row_below HR.out hb.out) hgrow, blk_grown H0.out.2.2.1 (by decide) hb.out (row_below HR.out hb.out) hgrow, blk_grown H0.out.2.2.2.1 (by decide) hb.out (row_below HR.out hb.out) hgrow⟩
          case measure => simp [intOf]; omega
        | false =>
          have HHA : Hid (hasI a (k : Int) = true) := Lib.hid (by rw [hasI_nat]; exact hha)
          have HHB : Hid (hasI b (k : Int) = false) := Lib.hid (by rw [hasI_nat]; exact hhb)
          have HC := Lib.hid (coll_yes (f := f) (k := k) (by rw [← HF.out]; simp [hha, hhb]))
          clear hha hhb
          have s0 := Lib.hid trivial
          go_wp2_with (first
            | (go_at_call 20; (have q := s0; clear q); refine (rHas_any a HA.out _ _).mono ?_; rintro e w1 ⟨rfl, hb⟩; rw [HHA.out]; have hq := Lib.hid hb; have hs1 := hb.size; clear hb s0; have hb := hq; clear hq; have s1 := Lib.hid trivial)
            | (at_builtin; refine wpList_append_own _ rfl _ _ 25 rfl w.heap.size 3 i0 (.int .i64 0) 1 8 Tryd.underlying25 hi hz0 hz1 hz2 rfl (by decide) _ _ _ rfl ((row_below HR.out hb.out).alloc _) ⟨w1.heap.size, 0, none⟩ 1 1 [.int .i64 (k : Int)] rfl rfl (cell_one_new _ _ _) (by simp [Value.oneCell']) (by have := HL.out; unfold maxLen; omega) (by have := HL.out; omega) (by have := H0.out.1.size; have := hb.out.size; simp; omega) ?_; intro v' w3 hown' hgrow _))
          go_roundw
          case rel => exact ⟨k + 1, by omega, by go_num, by rw [HC.out]; simpa using hown', row_grown H0.out.1 H0.out.1.size hb.out (row_below HR.out hb.out) hgrow, Nat.lt_of_lt_of_le H0.out.2.2.2.2 (by have := hb.out.size; have := hgrow.size; simp at this; omega), blk_grown H0.out.2.1 (by decide) hb.out (row_below HR.out hb.out) hgrow, blk_grown H0.out.2.2.1 (by decide) hb.out (row_below HR.out hb.out) hgrow, blk_grown H0.out.2.2.2.1 (by decide) hb.out (row_below HR.out hb.out) hgrow⟩
          case measure => simp [intOf]; omega
      | false =>
        cases hhb : has b k with
        | true =>
          have HHA : Hid (hasI a (k : Int) = false) := Lib.hid (by rw [hasI_nat]; exact hha)
          have HHB : Hid (hasI b (k : Int) = true) := Lib.hid (by rw [hasI_nat]; exact hhb)
          have HC := Lib.hid (coll_yes (f := f) (k := k) (by rw [← HF.out]; simp [hha, hhb]))
          clear hha hhb
          have s0 := Lib.hid trivial
          go_wp2_with (first
            | (go_at_call 20; (have q := s0; clear q); refine (rHas_any a HA.out _ _).mono ?_; rintro e w1 ⟨rfl, hb⟩; rw [HHA.out]; have hq := Lib.hid hb; have hs1 := hb.size; obtain ⟨hc, hf⟩ := bcell hb; clear hb s0; have hb := hq; clear hq; have s1 := Lib.hid trivial)
            | (go_at_call 20; (have q := s1; clear q); refine (rHas_any b HB.out _ _).mono ?_; rintro e w2 ⟨rfl, hb2⟩; rw [HHB.out]; clear hc hf; have hq := Lib.hid (Below.trans hb.out (hb2.mono hb.out.size)); have hs2 := hb2.size; clear hb hb2; have hb := hq; clear hq)
            | (at_builtin; refine wpList_append_own _ rfl _ _ 25 rfl w.heap.size 3 i0 (.int .i64 0) 1 8 Tryd.underlying25 hi hz0 hz1 hz2 rfl (by decide) _ _ _ rfl ((row_below HR.out hb.out).alloc _) ⟨w2.heap.size, 0, none⟩ 1 1 [.int .i64 (k : Int)] rfl rfl (cell_one_new _ _ _) (by simp [Value.oneCell']) (by have := HL.out; unfold maxLen; omega) (by have := HL.out; omega) (by have := H0.out.1.size; have := hb.out.size; simp; omega) ?_; intro v' w3 hown' hgrow _))
          go_roundw
          case rel => exact ⟨k + 1, by omega, by go_num, by rw [HC.out]; simpa using hown', row_grown H0.out.1 H0.out.1.size hb.out (row_below HR.out hb.out) hgrow, Nat.lt_of_lt_of_le H0.out.2.2.2.2 (by have := hb.out.size; have := hgrow.size; simp at this; omega), blk_grown H0.out.2.1 (by decide) hb.out (row_below HR.out hb.out) hgrow, blk_grown H0.out.2.2.1 (by decide) hb.out (row_below HR.out hb.out) hgrow, blk_grown H0.out.2.2.2.1 (by decide) hb.out (row_below HR.out hb.out) hgrow⟩
          case measure => simp [intOf]; omega
        | false =>
          have HHA : Hid (hasI a (k : Int) = false) := Lib.hid (by rw [hasI_nat]; exact hha)
          have HHB : Hid (hasI b (k : Int) = false) := Lib.hid (by rw [hasI_nat]; exact hhb)
          have HC := Lib.hid (coll_no (f := f) (k := k) (by rw [← HF.out]; simp [hha, hhb]))
          clear hha hhb
          have s0 := Lib.hid trivial
          go_wp2_with (first
            | (go_at_call 20; (have q := s0; clear q); refine (rHas_any a HA.out _ _).mono ?_; rintro e w1 ⟨rfl, hb⟩; rw [HHA.out]; have hq := Lib.hid hb; have hs1 := hb.size; obtain ⟨hc, hf⟩ := bcell hb; clear hb s0; have hb := hq; clear hq; have s1 := Lib.hid trivial)
            | (go_at_call 20; (have q := s1; clear q); refine (rHas_any b HB.out _ _).mono ?_; rintro e w2 ⟨rfl, hb2⟩; rw [HHB.out]; clear hc hf; have hq := Lib.hid (Below.trans hb.out (hb2.mono hb.out.size)); have hs2 := hb2.size; clear hb hb2; have hb := hq; clear hq))
          go_roundw
          case rel => exact ⟨k + 1, by omega, by go_num, by rw [HC.out]; exact row_below HR.out hb.out, H0.out.1.trans (hb.out.mono H0.out.1.size), Nat.lt_of_lt_of_le H0.out.2.2.2.2 hb.out.size, H0.out.2.1.below hb.out H0.out.2.1.lt, H0.out.2.2.1.below hb.out H0.out.2.2.1.lt, H0.out.2.2.2.1.below hb.out H0.out.2.2.2.1.lt⟩
          case measure => simp [intOf]; omega
    · obtain rfl : k = 256 := by omega
      go_wp2_with (go_at_call 37; refine (Make_any (coll f 256) _ coll_le _ (ints_of_row HR.out)).mono ?_; rintro e w1 ⟨rfl, hb⟩; obtain ⟨q0, q1, q2, q3, r0, r1, r2, r3⟩ := (H0.out.2.2.2.1.below hb H0.out.2.2.2.1.lt).all4; dsimp only [mv]; have HBB := Lib.hid hb; clear hb)
      have h9 := (H0.out.2.2.2.1.below HBB.out H0.out.2.2.2.1.lt).set4 (.int .u64 (makeM (coll f 256)).1) (.int .u64 (makeM (coll f 256)).2.1) (.int .u64 (makeM (coll f 256)).2.2.1) (.int .u64 (makeM (coll f 256)).2.2.2)
      refine bodyPost_ret (v := mv (makeM (coll f 256))) ?_ rfl ⟨rfl, ?_⟩
      · simp [results, Tryd.results32, go_sem, h9.cell 0 _ rfl, h9.cell 1 _ rfl, h9.cell 2 _ rfl, h9.cell 3 _ rfl]; rfl
      · have hW : Below w.heap.size w w1 := H0.out.1.trans (HBB.out.mono H0.out.1.size)
        exact (((hW.setCell (by simp; omega) _).setCell (by simp; omega) _).setCell (by simp; omega) _).setCell (by simp; omega) _

theorem rMinus_any (a b : MK) (ha : mok a) (hb : mok b) (w : World) :
    Calls Tryd.prog 33 #[mv a, mv b] w fun e w' => e = .returned (mv (makeM (coll (fun c => has a c && !has b c) 256))) ∧ Below w.heap.size w w' := by
  obtain ⟨i0, hi, hz0, hz1, hz2⟩ := info_parts Tryd.info3
  have HA := Lib.hid ha
  have HB := Lib.hid hb
  clear ha hb
  generalize hf : (fun c => has a c && !has b c) = f
  have HF := Lib.hid hf
  clear hf
  unfold mv
  go_enter Tryd.func33, Tryd.ntmps33
  go_wp2
  go_loopw [5, 6] (fun v i wr => ∃ k : Nat, k ≤ 256 ∧ i = .int .i64 k ∧ wr.ownsRow w.heap.size 3 1 v (coll f k).length ((coll f k).map (Value.int .i64)) ∧ Below w.heap.size w wr ∧ w.heap.size + 1 + 1 < wr.heap.size ∧ Blk wr w.heap.size #[.int .u64 a.1, .int .u64 a.2.1, .int .u64 a.2.2.1, .int .u64 a.2.2.2] 24 ∧ Blk wr (w.heap.size + 1) #[.int .u64 b.1, .int .u64 b.2.1, .int .u64 b.2.2.1, .int .u64 b.2.2.2] 24 ∧ Blk wr (w.heap.size + 1 + 1) #[.int .u64 0, .int .u64 0, .int .u64 0, .int .u64 0] 24) (fun _ i _ => 256 - (intOf i).toNat)
  case atStart =>
    refine ⟨0, by omega, rfl, World.ownsRow_nil _ _ _ _, ?_, by simp, ?_, ?_, ?_⟩
    · repeat (first | exact Below.refl _ _ | exact Nat.le_refl _ | refine Below.alloc ?_ ?_ _ | refine size_alloc_le _ _ _ ?_)
    · exact ((Blk.new w _ 24).alloc _).alloc _
    · have h := (Blk.new (w.alloc (.cells #[.int .u64 a.1, .int .u64 a.2.1, .int .u64 a.2.2.1, .int .u64 a.2.2.2] 24)) #[.int .u64 b.1, .int .u64 b.2.1, .int .u64 b.2.2.1, .int .u64 b.2.2.2] 24).alloc (.cells #[.int .u64 0, .int .u64 0, .int .u64 0, .int .u64 0] 24)
      rwa [World.size_alloc] at h
    · have h := Blk.new ((w.alloc (.cells #[.int .u64 a.1, .int .u64 a.2.1, .int .u64 a.2.2.1, .int .u64 a.2.2.2] 24)).alloc (.cells #[.int .u64 b.1, .int .u64 b.2.1, .int .u64 b.2.2.1, .int .u64 b.2.2.2] 24)) #[.int .u64 0, .int .u64 0, .int .u64 0, .int .u64 0] 24
      rwa [World.size_alloc, World.size_alloc] at h
  case round =>
    obtain ⟨k, hk, rfl, hrow, hb, hsz, h0, h1, h2⟩ := hrel
    obtain ⟨c0, c1, c2, c3, f0, f1, f2, f3⟩ := h0.all4
    have hlen := coll_len f k
    have HL := Lib.hid hlen
    have H0 := Lib.hid (And.intro hb (And.intro h0 (And.intro h1 (And.intro h2 hsz))))
    have HR := Lib.hid hrow
    clear hb h0 hrow hlen hsz h2
    have hl1 := h1.lt
    obtain ⟨d0, d1, d2, d3, g0, g1, g2, g3⟩ := h1.all4
    clear h1
    by_cases hlt : k < 256
    · cases hha : has a k with
      | true =>
        cases hhb : has b k with
        | true =>
          have HHA : Hid (hasI a (k : Int) = true) := Lib.hid (by rw [hasI_nat]; exact hha)
          have HHB : Hid (hasI b (k : Int) = true) := Lib.hid (by rw [hasI_nat]; exact hhb)
          have HC := Lib.hid (coll_no (f := f) (k := k) (by rw [← HF.out]; simp [hha, hhb]))
          clear hha hhb
          have s0 := Lib.hid trivial
          go_wp2_with (first
            | (go_at_call 20; (have q := s0; clear q); refine (rHas_any a HA.out _ _).mono ?_; rintro e w1 ⟨rfl, hb⟩; rw [HHA.out]; have hq := Lib.hid hb; have hs1 := hb.size; obtain ⟨hc, hf⟩ := bcell hb; clear hb s0; have hb := hq; clear hq; have s1 := Lib.hid trivial)
            | (go_at_call 20; (have q := s1; clear q); refine (rHas_any b HB.out _ _).mono ?_; rintro e w2 ⟨rfl, hb2⟩; rw [HHB.out]; clear hc hf; have hq := Lib.hid (Below.trans hb.out (hb2.mono hb.out.size)); have hs2 := hb2.size; clear hb hb2; have hb := hq; clear hq))
          go_roundw
          case rel => exact ⟨k + 1, by omega, by go_num, by rw [HC.out]; exact row_below HR.out hb.out, H0.out.1.trans (hb.out.mono H0.out.1.size), Nat.lt_of_lt_of_le H0.out.2.2.2.2 hb.out.size, H0.out.2.1.below hb.out H0.out.2.1.lt, H0.out.2.2.1.below hb.out H0.out.2.2.1.lt, H0.out.2.2.2.1.below hb.out H0.out.2.2.2.1.lt⟩
          case measure => simp [intOf]; omega
        | false =>
          have HHA : Hid (hasI a (k : Int) = true) := Lib.hid (by rw [hasI_nat]; exact hha)
          have HHB : Hid (hasI b (k : Int) = false) := Lib.hid (by rw [hasI_nat]; exact hhb)
          have HC := Lib.hid (coll_yes (f := f) (k := k) (by rw [← HF.out]; simp [hha, hhb]))
          clear hha hhb
          have s0 := Lib.hid trivial
          go_wp2_with (first
            | (go_at_call 20; (have q := s0; clear q); refine (rHas_any a HA.out _ _).mono ?_; rintro e w1 ⟨rfl, hb⟩; rw [HHA.out]; have hq := Lib.hid hb; have hs1 := hb.size; obtain ⟨hc, hf⟩ := bcell hb; clear hb s0; have hb := hq; clear hq; have s1 := Lib.hid trivial)
            | (go_at_call 20; (have q := s1; clear q); refine (rHas_any b HB.out _ _).mono ?_; rintro e w2 ⟨rfl, hb2⟩; rw [HHB.out]; clear hc hf; have hq := Lib.hid (Below.trans hb.out (hb2.mono hb.out.size)); have hs2 := hb2.size; clear hb hb2; have hb := hq; clear hq)
            | (at_builtin; refine wpList_append_own _ rfl _ _ 25 rfl w.heap.size 3 i0 (.int .i64 0) 1 8 Tryd.underlying25 hi hz0 hz1 hz2 rfl (by decide) _ _ _ rfl ((row_below HR.out hb.out).alloc _) ⟨w2.heap.size, 0, none⟩ 1 1 [.int .i64 (k : Int)] rfl rfl (cell_one_new _ _ _) (by simp [Value.oneCell']) (by have := HL.out; unfold maxLen; omega) (by have := HL.out; omega) (by have := H0.out.1.size; have := hb.out.size; simp; omega) ?_; intro v' w3 hown' hgrow _))
          go_roundw
          case rel => exact ⟨k + 1, by omega, by go_num, by rw [HC.out]; simpa using hown', row_grown H0.out.1 H0.out.1.size hb.out (row_below HR.out hb.out) hgrow, Nat.lt_of_lt_of_le H0.out.2.2.2.2 (by have := hb.out.size; have := hgrow.size; simp at this; omega), blk_grown H0.out.2.1 (by decide) hb.out (row_below HR.out hb.out) hgrow, blk_grown H0.out.2.2.1 (by decide) hb.out (row_below HR.out hb.out) hgrow, blk_grown H0.out.2.2.2.1 (by decide) hb.out (row_below HR.out hb.out) hgrow⟩
          case measure => simp [intOf]; omega
      | false =>
        cases hhb : has b k with
        | true =>
          have HHA : Hid (hasI a (k : Int) = false) := Lib.hid (by rw [hasI_nat]; exact hha)
          have HHB : Hid (hasI b (k : Int) = true) := Lib.hid (by rw [hasI_nat]; exact hhb)
          have HC := Lib.hid (coll_no (f := f) (k := k) (by rw [← HF.out]; simp [hha, hhb]))
          clear hha hhb
          have s0 := Lib.hid trivial
          go_wp2_with (first
            | (go_at_call 20; (have q := s0; clear q); refine (rHas_any a HA.out _ _).mono ?_; rintro e w1 ⟨rfl, hb⟩; rw [HHA.out]; have hq := Lib.hid hb; have hs1 := hb.size; clear hb s0; have hb := hq; clear hq; have s1 := Lib.hid trivial))
          go_roundw
          case rel => exact ⟨k + 1, by omega, by go_num, by rw [HC.out]; exact row_below HR.out hb.out, H0.out.1.trans (hb.out.mono H0.out.1.size), Nat.lt_of_lt_of_le H0.out.2.2.2.2 hb.out.size, H0.out.2.1.below hb.out H0.out.2.1.lt, H0.out.2.2.1.below hb.out H0.out.2.2.1.lt, H0.out.2.2.2.1.below hb.out H0.out.2.2.2.1.lt⟩
          case measure => simp [intOf]; omega
        | false =>
          have HHA : Hid (hasI a (k : Int) = false) := Lib.hid (by rw [hasI_nat]; exact hha)
          have HHB : Hid (hasI b (k : Int) = false) := Lib.hid (by rw [hasI_nat]; exact hhb)
          have HC := Lib.hid (coll_no (f := f) (k := k) (by rw [← HF.out]; simp [hha, hhb]))
          clear hha hhb
          have s0 := Lib.hid trivial
          go_wp2_with (first
            | (go_at_call 20; (have q := s0; clear q); refine (rHas_any a HA.out _ _).mono ?_; rintro e w1 ⟨rfl, hb⟩; rw [HHA.out]; have hq := Lib.hid hb; have hs1 := hb.size; clear hb s0; have hb := hq; clear hq; have s1 := Lib.hid trivial))
          go_roundw
          case rel => exact ⟨k + 1, by omega, by go_num, by rw [HC.out]; exact row_below HR.out hb.out, H0.out.1.trans (hb.out.mono H0.out.1.size), Nat.lt_of_lt_of_le H0.out.2.2.2.2 hb.out.size, H0.out.2.1.below hb.out H0.out.2.1.lt, H0.out.2.2.1.below hb.out H0.out.2.2.1.lt, H0.out.2.2.2.1.below hb.out H0.out.2.2.2.1.lt⟩
          case measure => simp [intOf]; omega
    · obtain rfl : k = 256 := by omega
      go_wp2_with (go_at_call 37; refine (Make_any (coll f 256) _ coll_le _ (ints_of_row HR.out)).mono ?_; rintro e w1 ⟨rfl, hb⟩; obtain ⟨q0, q1, q2, q3, r0, r1, r2, r3⟩ := (H0.out.2.2.2.1.below hb H0.out.2.2.2.1.lt).all4; dsimp only [mv]; have HBB := Lib.hid hb; clear hb)
      have h9 := (H0.out.2.2.2.1.below HBB.out H0.out.2.2.2.1.lt).set4 (.int .u64 (makeM (coll f 256)).1) (.int .u64 (makeM (coll f 256)).2.1) (.int .u64 (makeM (coll f 256)).2.2.1) (.int .u64 (makeM (coll f 256)).2.2.2)
      refine bodyPost_ret (v := mv (makeM (coll f 256))) ?_ rfl ⟨rfl, ?_⟩
      · simp [results, Tryd.results33, go_sem, h9.cell 0 _ rfl, h9.cell 1 _ rfl, h9.cell 2 _ rfl, h9.cell 3 _ rfl]; rfl
      · have hW : Below w.heap.size w w1 := H0.out.1.trans (HBB.out.mono H0.out.1.size)
        exact (((hW.setCell (by simp; omega) _).setCell (by simp; omega) _).setCell (by simp; omega) _).setCell (by simp; omega) _
end Go.Proofs.YtbjeaebgnnljhaaDoor
