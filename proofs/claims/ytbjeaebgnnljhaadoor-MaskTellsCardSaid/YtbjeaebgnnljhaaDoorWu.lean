/- WALKS: MaskTells. -/
import Derived.Test.YtbjeaebgnnljhaaDoorWo
import Derived.Test.YtbjeaebgnnljhaaDoorRe
import Derived.Test.YtbjeaebgnnljhaaDoorRf
import Derived.Test.YtbjeaebgnnljhaaDoorPb
import Derived.Test.YtbjeaebgnnljhaaDoorOd2
import Derived.WideShapes
import Derived.ChangeSlices
import Derived.OpenShut
set_option linter.unusedSimpArgs false
namespace Go.Proofs.YtbjeaebgnnljhaaDoor
open Go.RowKit Go.Shelf
set_option maxHeartbeats 2000000
set_option maxRecDepth 100000

/-- A slice of numbers that came in. -/
def SlIn (W : World) (v : Value) (xs : List Int) : Prop := (v = .slice none 0 0 ∧ xs = []) ∨ ∃ b off cap, v = .slice (some ⟨b, off, none⟩) xs.length cap ∧ xs.length ≤ cap ∧ cap ≤ maxLen ∧ b < W.heap.size ∧ ∀ j (h : j < xs.length), W.cell? ⟨b, off + j, none⟩ = some (.int .i64 xs[j])
theorem SlIn.ints {W : World} {v : Value} {xs : List Int} (h : SlIn W v xs) : IntsAt W v xs := by
  rcases h with h | ⟨b, off, cap, rfl, _, _, hb, hc⟩
  · exact .inl h
  · exact .inr ⟨b, off, cap, rfl, hb, hc⟩
theorem SlIn.below {W W' : World} {v : Value} {xs : List Int} (h : SlIn W v xs) (hb : Below W.heap.size W W') : SlIn W' v xs := by
  rcases h with h | ⟨b, off, cap, rfl, h1, h2, hlt, hc⟩
  · exact .inl h
  · exact .inr ⟨b, off, cap, rfl, h1, h2, Nat.lt_of_lt_of_le hlt hb.size, fun j hj => (hb.cell (p := ⟨b, off + j, none⟩) hlt).trans (hc j hj)⟩
theorem rOfRes_of (xs : List Int) : rOfRes xs = ofRes xs := by
  unfold rOfRes ofRes
  by_cases h : fine xs
  · rw [foldO_some xs h]; exact if_pos h
  · rw [foldO_bad xs h]; exact if_neg h
theorem Of_in (xs : List Int) (v : Value) (hlen : xs.length ≤ 300) (W : World) (h : SlIn W v xs) : Calls Tryd.prog 11 #[v] W fun e w' => e = .returned (.tuple #[mv (ofRes xs).1, .int .i64 (ofRes xs).2]) ∧ Below W.heap.size W w' :=
  Of_any xs v (by omega) W h.ints
theorem rOf_in (xs : List Int) (v : Value) (hlen : xs.length ≤ 300) (W : World) (h : SlIn W v xs) : Calls Tryd.prog 12 #[v] W fun e w' => e = .returned (.tuple #[mv (ofRes xs).1, .int .i64 (ofRes xs).2]) ∧ Below W.heap.size W w' := by
  rw [← rOfRes_of]
  rcases h with ⟨rfl, rfl⟩ | ⟨b, off, cap, rfl, h1, _, hb, hc⟩
  · have := rOf_nil W
    rwa [show rOfRes [] = (makeM [], 0) from by unfold rOfRes; exact if_pos (by simp)]
  · exact rOf_some xs b off cap h1 (by omega) W hb hc
theorem rAll_all (n : Int) : rAllRes n = allRes n := by
  unfold rAllRes allRes
  by_cases h : 0 ≤ n ∧ n ≤ 256
  · rw [if_pos h, if_pos h, firstN_coll _ (by omega)]
  · rw [if_neg h, if_neg h]
theorem open_sl {H : Type} {enc : TypeId × Value → H} {W : World} {base : Nat} {spare : Nat → Bool} {held : Bool} {b0 : Nat} {v : Value} {d : DataW H} {ps : List MemPlace}
    (hval : Value.okWide Tryd.prog W .any b0 25 v) (hd : DataW.Trod enc Tryd.prog W base spare held 25 v d ps) : ∃ xs p cap, v = .slice p xs.length cap ∧ SlIn W v xs := by
  obtain ⟨a0, len, cap, rfl⟩ := Go.WideShapes.okWide_slice Tryd.underlying25 hval
  obtain ⟨fuel, hf⟩ := hd
  rcases Go.ChangeShapes.open_ints Tryd.underlying25 Tryd.underlying3 (by kernel_rfl) hf with ⟨h, _⟩ | ⟨a, len', cap', zs, h, _, hl, hm, hz, _, hcell, _⟩
  · have h2 : Value.slice a0 len cap = .slice none 0 0 := by simpa [Value.cells] using h
    rw [h2]
    exact ⟨[], none, 0, rfl, .inl ⟨rfl, rfl⟩⟩
  · have h2 : Value.slice a0 len cap = .slice (some a) len' cap' := by simpa [Value.cells] using h
    rw [h2] at hval ⊢
    have hok : len' ≤ cap' ∧ (cap' : Int) ≤ IntKind.i64.max ∧ W.has Tryd.prog .any b0 a 3 cap' := by
      simpa [Value.okWide, Cell.okWide, Cell.ok, Tryd.underlying25] using hval
    obtain ⟨-, hspot, row, cells, hsh, -⟩ := hok.2.2
    have hlt : a.block < W.heap.size := by
      unfold World.shape? at hsh
      rcases Nat.lt_or_ge a.block W.heap.size with h' | h'
      · exact h'
      · rw [Array.getElem?_eq_none h'] at hsh; simp at hsh
    have hzl : len' ≤ zs.length := by rw [hz]; split <;> omega
    obtain ⟨b, off, spot⟩ := a
    obtain rfl : spot = none := hspot
    refine ⟨zs.take len', some ⟨b, off, none⟩, cap', by rw [List.length_take]; congr 1; omega, .inr ⟨b, off, cap', by rw [List.length_take]; congr 1; omega, by rw [List.length_take]; omega, hm, hlt, fun j hj => ?_⟩⟩
    have hj2 : j < zs.length := by rw [List.length_take] at hj; omega
    have e := hcell j hj2
    rw [List.getElem_take]
    have e2 : (⟨b, off, none⟩ : Addr).add j = ⟨b, off + j, none⟩ := Go.WideShapes.add_plain _ _ _
    rw [e2] at e
    rw [e]; simp [List.getD, hj2]
theorem law3_long (m : MK) (xs : List Int) (p : Option Addr) (cap : Nat) (c : Int) (hs : 300 < xs.length) (w : World) (hE : Env w) : Calls Tryd.prog 3 #[mv m, .slice p xs.length cap, .int .i64 c] w fun e w' => e = .returned (.bool true) ∧ Below w.heap.size w w' := by
  have hsi : (300 : Int) < (xs.length : Nat) := by omega
  have HE := Lib.hid hE
  clear hE
  unfold mv
  go_enter Tryd.func3, Tryd.ntmps3
  go_wp2_with (go_at_call 9; refine (live_any _ (HE.out.below ((Below.refl _ _).alloc (Nat.le_refl _) _))).mono ?_; rintro e w1 ⟨rfl, hb⟩)
  exact bodyPost_ret (v := .bool true) (by simp [results, Tryd.results3, go_sem]) rfl ⟨rfl, ((Below.refl _ _).alloc (Nat.le_refl _) _).trans (hb.mono (by simp))⟩
theorem law3_short (m : MK) (hm : mok m) (xs : List Int) (p : Option Addr) (cap : Nat) (c : Int) (hs : xs.length ≤ 300) (w : World) (hv : SlIn w (.slice p xs.length cap) xs) (hE : Env w) : Calls Tryd.prog 3 #[mv m, .slice p xs.length cap, .int .i64 c] w fun e w' => e = .returned (.bool true) ∧ Below w.heap.size w w' := by
  have hsi : ((xs.length : Nat) : Int) ≤ 300 := by omega
  have q1 := fun W (h : Below w.heap.size w W) => Of_in xs _ hs W (hv.below h)
  have q2 := fun W (h : Below w.heap.size w W) => rOf_in xs _ hs W (hv.below h)
  have q3 := fun W => All_any c W
  have q4 := fun W => rAll_any c W
  simp only [rAll_all] at q4
  have q5 := fun W => rList_any m hm W
  simp only [coll_ints] at q5
  have q6 := fun W => List_any m hm W
  have q7 := fun W => Count_any m hm W
  have hlen : (coreInts m).length = (upTo m 256).length := by unfold coreInts; rw [List.length_map]
  have h256 := upTo_length m 256
  have q8 := fun W => Has_any m hm c W
  have q9 := fun W => rHas_any m hm c W
  generalize ofRes xs = A at q1 q2
  generalize allRes c = D at q3 q4
  generalize coreInts m = zs at q5 q6 hlen
  generalize (upTo m 256).length = n at q7 hlen h256
  generalize hasI m c = hb at q8 q9
  have q10 : ∀ (v v' : Value) (W : World), IntsAt W v zs → IntsAt W v' zs → Calls Tryd.prog 16 #[v, v'] W fun e w' => e = .returned (.bool true) ∧ Below W.heap.size W w' := fun v v' W h h' => (Same_any zs zs v v' (by omega) (by omega) W h h').mono fun e w' he => ⟨by rw [he.1]; simp, he.2⟩
  have HN := Lib.hid hlen
  have C1 := Lib.hid q1
  have C2 := Lib.hid q2
  have C3 := Lib.hid q3
  have C4 := Lib.hid q4
  have C5 := Lib.hid q5
  have C6 := Lib.hid q6
  have C7 := Lib.hid q7
  have C8 := Lib.hid q8
  have C9 := Lib.hid q9
  have C10 := Lib.hid q10
  clear q1 q2 q3 q4 q5 q6 q7 q8 q9 q10 hlen
  have HE := Lib.hid hE
  have hW := Lib.hid (Below.refl w.heap.size w)
  have K1 := Lib.hid (Blk.new w #[.int .u64 m.1, .int .u64 m.2.1, .int .u64 m.2.2.1, .int .u64 m.2.2.2] 24)
  have s0 := Lib.hid trivial
  clear hE hm hv hs
  unfold mv
  go_enter Tryd.func3, Tryd.ntmps3
  go_wp2_with (first
    | (go_at_call 10; (have q := s0; clear q); (fail_if_success (have q := s1)); refine (own_any _ _ _ _ _).mono ?_; rintro e w1 ⟨rfl, hb⟩; have lx := hW.out.size; have hx := Lib.hid (belowStep (w := w) hb (by repeat (first | with_reducible exact hW.out | with_reducible refine Below.setCell ?_ (by first | omega | (simp; done) | (simp; omega)) _ | with_reducible refine Below.alloc ?_ (by first | omega | (simp; done) | (simp; omega)) _ | with_reducible refine Below.drew ?_))); clear hW lx; have hW := hx; clear hx; have h1 := Lib.hid (blkThru hb K1.out); obtain ⟨c10, c11, c12, c13, f10, f11, f12, f13⟩ := h1.out.all4; have l1 := h1.out.lt; have n1 := Nat.ne_of_lt l1; clear hb; have s1 := Lib.hid trivial)
    | (go_at_call 11; (have q := s1; clear q); (fail_if_success (have q := s2)); refine (C1.out _ (by have lx := hW.out.size; repeat (first | with_reducible exact hW.out | with_reducible refine Below.setCell ?_ (by first | omega | (simp; done) | (simp; omega)) _ | with_reducible refine Below.alloc ?_ (by first | omega | (simp; done) | (simp; omega)) _ | with_reducible refine Below.drew ?_))).mono ?_; rintro e w2 ⟨rfl, hb⟩; dsimp only [mv]; have lx := hW.out.size; have hx := Lib.hid (belowStep (w := w) hb (by repeat (first | with_reducible exact hW.out | with_reducible refine Below.setCell ?_ (by first | omega | (simp; done) | (simp; omega)) _ | with_reducible refine Below.alloc ?_ (by first | omega | (simp; done) | (simp; omega)) _ | with_reducible refine Below.drew ?_))); clear hW lx; have hW := hx; clear hx; have lx := h1.out.lt; have hx := Lib.hid (blkThru2 (h1.out) (hb := hb) (by intro q; repeat (first | with_reducible exact q | with_reducible refine Blk.far ?_ _ _ (by first | omega | (simp; done) | (simp; omega)) | with_reducible refine Blk.alloc ?_ _ | with_reducible refine Blk.drew ?_))); clear c10 c11 c12 c13 f10 f11 f12 f13 l1 n1 lx h1; have h1 := hx; clear hx; obtain ⟨c10, c11, c12, c13, f10, f11, f12, f13⟩ := h1.out.all4; have l1 := h1.out.lt; have n1 := Nat.ne_of_lt l1; have h2 := Lib.hid (blkThru hb (by repeat (first | with_reducible exact Blk.new _ _ 27 | with_reducible apply Blk.alloc))); obtain ⟨c20, c21, c22, c23, f20, f21, f22, f23⟩ := h2.out.all4; have l2 := h2.out.lt; have n2 := Nat.ne_of_lt l2; clear hb; have s2 := Lib.hid trivial)
    | (go_at_call 12; (have q := s2; clear q); (fail_if_success (have q := s3)); refine (C2.out _ (by have lx := hW.out.size; repeat (first | with_reducible exact hW.out | with_reducible refine Below.setCell ?_ (by first | omega | (simp; done) | (simp; omega)) _ | with_reducible refine Below.alloc ?_ (by first | omega | (simp; done) | (simp; omega)) _ | with_reducible refine Below.drew ?_))).mono ?_; rintro e w3 ⟨rfl, hb⟩; dsimp only [mv]; have lx := hW.out.size; have hx := Lib.hid (belowStep (w := w) hb (by repeat (first | with_reducible exact hW.out | with_reducible refine Below.setCell ?_ (by first | omega | (simp; done) | (simp; omega)) _ | with_reducible refine Below.alloc ?_ (by first | omega | (simp; done) | (simp; omega)) _ | with_reducible refine Below.drew ?_))); clear hW lx; have hW := hx; clear hx; have lx := h1.out.lt; have hx := Lib.hid (blkThru2 (h1.out) (hb := hb) (by intro q; repeat (first | with_reducible exact q | with_reducible refine Blk.far ?_ _ _ (by first | omega | (simp; done) | (simp; omega)) | with_reducible refine Blk.alloc ?_ _ | with_reducible refine Blk.drew ?_))); clear c10 c11 c12 c13 f10 f11 f12 f13 l1 n1 lx h1; have h1 := hx; clear hx; obtain ⟨c10, c11, c12, c13, f10, f11, f12, f13⟩ := h1.out.all4; have l1 := h1.out.lt; have n1 := Nat.ne_of_lt l1; have lx := h2.out.lt; have hx := Lib.hid (blkThru2 (h2.out) (hb := hb) (by intro q; repeat (first | with_reducible exact q | with_reducible refine Blk.far ?_ _ _ (by first | omega | (simp; done) | (simp; omega)) | with_reducible refine Blk.alloc ?_ _ | with_reducible refine Blk.drew ?_))); clear c20 c21 c22 c23 f20 f21 f22 f23 l2 n2 lx h2; have h2 := hx; clear hx; obtain ⟨c20, c21, c22, c23, f20, f21, f22, f23⟩ := h2.out.all4; have l2 := h2.out.lt; have n2 := Nat.ne_of_lt l2; have h3 := Lib.hid (blkThru hb (by repeat (first | with_reducible exact Blk.new _ _ 27 | with_reducible apply Blk.alloc))); obtain ⟨c30, c31, c32, c33, f30, f31, f32, f33⟩ := h3.out.all4; have l3 := h3.out.lt; have n3 := Nat.ne_of_lt l3; clear hb; have s3 := Lib.hid trivial)
    | (go_at_call 13; (have q := s3; clear q); (fail_if_success (have q := s4)); refine (C3.out _).mono ?_; rintro e w4 ⟨rfl, hb⟩; dsimp only [mv]; have lx := hW.out.size; have hx := Lib.hid (belowStep (w := w) hb (by repeat (first | with_reducible exact hW.out | with_reducible refine Below.setCell ?_ (by first | omega | (simp; done) | (simp; omega)) _ | with_reducible refine Below.alloc ?_ (by first | omega | (simp; done) | (simp; omega)) _ | with_reducible refine Below.drew ?_))); clear hW lx; have hW := hx; clear hx; have lx := h1.out.lt; have hx := Lib.hid (blkThru2 (h1.out) (hb := hb) (by intro q; repeat (first | with_reducible exact q | with_reducible refine Blk.far ?_ _ _ (by first | omega | (simp; done) | (simp; omega)) | with_reducible refine Blk.alloc ?_ _ | with_reducible refine Blk.drew ?_))); clear c10 c11 c12 c13 f10 f11 f12 f13 l1 n1 lx h1; have h1 := hx; clear hx; obtain ⟨c10, c11, c12, c13, f10, f11, f12, f13⟩ := h1.out.all4; have l1 := h1.out.lt; have n1 := Nat.ne_of_lt l1; have lx := h2.out.lt; have hx := Lib.hid (blkThru2 (h2.out) (hb := hb) (by intro q; repeat (first | with_reducible exact q | with_reducible refine Blk.far ?_ _ _ (by first | omega | (simp; done) | (simp; omega)) | with_reducible refine Blk.alloc ?_ _ | with_reducible refine Blk.drew ?_))); clear c20 c21 c22 c23 f20 f21 f22 f23 l2 n2 lx h2; have h2 := hx; clear hx; obtain ⟨c20, c21, c22, c23, f20, f21, f22, f23⟩ := h2.out.all4; have l2 := h2.out.lt; have n2 := Nat.ne_of_lt l2; have lx := h3.out.lt; have hx := Lib.hid (blkThru2 (h3.out) (hb := hb) (by intro q; repeat (first | with_reducible exact q | with_reducible refine Blk.far ?_ _ _ (by first | omega | (simp; done) | (simp; omega)) | with_reducible refine Blk.alloc ?_ _ | with_reducible refine Blk.drew ?_))); clear c30 c31 c32 c33 f30 f31 f32 f33 l3 n3 lx h3; have h3 := hx; clear hx; obtain ⟨c30, c31, c32, c33, f30, f31, f32, f33⟩ := h3.out.all4; have l3 := h3.out.lt; have n3 := Nat.ne_of_lt l3; have h4 := Lib.hid (blkThru hb (by repeat (first | with_reducible exact Blk.new _ _ 24 | with_reducible apply Blk.alloc))); obtain ⟨c40, c41, c42, c43, f40, f41, f42, f43⟩ := h4.out.all4; have l4 := h4.out.lt; have n4 := Nat.ne_of_lt l4; clear hb; have s4 := Lib.hid trivial)
    | (go_at_call 14; (have q := s4; clear q); (fail_if_success (have q := s5)); refine (C4.out _).mono ?_; rintro e w5 ⟨rfl, hb⟩; dsimp only [mv]; have lx := hW.out.size; have hx := Lib.hid (belowStep (w := w) hb (by repeat (first | with_reducible exact hW.out | with_reducible refine Below.setCell ?_ (by first | omega | (simp; done) | (simp; omega)) _ | with_reducible refine Below.alloc ?_ (by first | omega | (simp; done) | (simp; omega)) _ | with_reducible refine Below.drew ?_))); clear hW lx; have hW := hx; clear hx; have lx := h1.out.lt; have hx := Lib.hid (blkThru2 (h1.out) (hb := hb) (by intro q; repeat (first | with_reducible exact q | with_reducible refine Blk.far ?_ _ _ (by first | omega | (simp; done) | (simp; omega)) | with_reducible refine Blk.alloc ?_ _ | with_reducible refine Blk.drew ?_))); clear c10 c11 c12 c13 f10 f11 f12 f13 l1 n1 lx h1; have h1 := hx; clear hx; obtain ⟨c10, c11, c12, c13, f10, f11, f12, f13⟩ := h1.out.all4; have l1 := h1.out.lt; have n1 := Nat.ne_of_lt l1; have lx := h2.out.lt; have hx := Lib.hid (blkThru2 (h2.out) (hb := hb) (by intro q; repeat (first | with_reducible exact q | with_reducible refine Blk.far ?_ _ _ (by first | omega | (simp; done) | (simp; omega)) | with_reducible refine Blk.alloc ?_ _ | with_reducible refine Blk.drew ?_))); clear c20 c21 c22 c23 f20 f21 f22 f23 l2 n2 lx h2; have h2 := hx; clear hx; obtain ⟨c20, c21, c22, c23, f20, f21, f22, f23⟩ := h2.out.all4; have l2 := h2.out.lt; have n2 := Nat.ne_of_lt l2; have lx := h3.out.lt; have hx := Lib.hid (blkThru2 (h3.out) (hb := hb) (by intro q; repeat (first | with_reducible exact q | with_reducible refine Blk.far ?_ _ _ (by first | omega | (simp; done) | (simp; omega)) | with_reducible refine Blk.alloc ?_ _ | with_reducible refine Blk.drew ?_))); clear c30 c31 c32 c33 f30 f31 f32 f33 l3 n3 lx h3; have h3 := hx; clear hx; obtain ⟨c30, c31, c32, c33, f30, f31, f32, f33⟩ := h3.out.all4; have l3 := h3.out.lt; have n3 := Nat.ne_of_lt l3; have lx := h4.out.lt; have hx := Lib.hid (blkThru2 (h4.out) (hb := hb) (by intro q; repeat (first | with_reducible exact q | with_reducible refine Blk.far ?_ _ _ (by first | omega | (simp; done) | (simp; omega)) | with_reducible refine Blk.alloc ?_ _ | with_reducible refine Blk.drew ?_))); clear c40 c41 c42 c43 f40 f41 f42 f43 l4 n4 lx h4; have h4 := hx; clear hx; obtain ⟨c40, c41, c42, c43, f40, f41, f42, f43⟩ := h4.out.all4; have l4 := h4.out.lt; have n4 := Nat.ne_of_lt l4; have h5 := Lib.hid (blkThru hb (by repeat (first | with_reducible exact Blk.new _ _ 27 | with_reducible apply Blk.alloc))); obtain ⟨c50, c51, c52, c53, f50, f51, f52, f53⟩ := h5.out.all4; have l5 := h5.out.lt; have n5 := Nat.ne_of_lt l5; clear hb; have s5 := Lib.hid trivial)
    | (go_at_call 15; (have q := s5; clear q); (fail_if_success (have q := s6)); refine (C5.out _).mono ?_; rintro e w6 ⟨v6, rfl, hV6, hb⟩; obtain ⟨p6, cap6, rfl, -⟩ := hV6.shp; rw [HN.out] at hV6 ⊢; have HV6 := Lib.hid hV6; clear hV6; have lx := hW.out.size; have hx := Lib.hid (belowStep (w := w) hb (by repeat (first | with_reducible exact hW.out | with_reducible refine Below.setCell ?_ (by first | omega | (simp; done) | (simp; omega)) _ | with_reducible refine Below.alloc ?_ (by first | omega | (simp; done) | (simp; omega)) _ | with_reducible refine Below.drew ?_))); clear hW lx; have hW := hx; clear hx; have lx := h1.out.lt; have hx := Lib.hid (blkThru2 (h1.out) (hb := hb) (by intro q; repeat (first | with_reducible exact q | with_reducible refine Blk.far ?_ _ _ (by first | omega | (simp; done) | (simp; omega)) | with_reducible refine Blk.alloc ?_ _ | with_reducible refine Blk.drew ?_))); clear c10 c11 c12 c13 f10 f11 f12 f13 l1 n1 lx h1; have h1 := hx; clear hx; obtain ⟨c10, c11, c12, c13, f10, f11, f12, f13⟩ := h1.out.all4; have l1 := h1.out.lt; have n1 := Nat.ne_of_lt l1; have lx := h2.out.lt; have hx := Lib.hid (blkThru2 (h2.out) (hb := hb) (by intro q; repeat (first | with_reducible exact q | with_reducible refine Blk.far ?_ _ _ (by first | omega | (simp; done) | (simp; omega)) | with_reducible refine Blk.alloc ?_ _ | with_reducible refine Blk.drew ?_))); clear c20 c21 c22 c23 f20 f21 f22 f23 l2 n2 lx h2; have h2 := hx; clear hx; obtain ⟨c20, c21, c22, c23, f20, f21, f22, f23⟩ := h2.out.all4; have l2 := h2.out.lt; have n2 := Nat.ne_of_lt l2; have lx := h3.out.lt; have hx := Lib.hid (blkThru2 (h3.out) (hb := hb) (by intro q; repeat (first | with_reducible exact q | with_reducible refine Blk.far ?_ _ _ (by first | omega | (simp; done) | (simp; omega)) | with_reducible refine Blk.alloc ?_ _ | with_reducible refine Blk.drew ?_))); clear c30 c31 c32 c33 f30 f31 f32 f33 l3 n3 lx h3; have h3 := hx; clear hx; obtain ⟨c30, c31, c32, c33, f30, f31, f32, f33⟩ := h3.out.all4; have l3 := h3.out.lt; have n3 := Nat.ne_of_lt l3; have lx := h4.out.lt; have hx := Lib.hid (blkThru2 (h4.out) (hb := hb) (by intro q; repeat (first | with_reducible exact q | with_reducible refine Blk.far ?_ _ _ (by first | omega | (simp; done) | (simp; omega)) | with_reducible refine Blk.alloc ?_ _ | with_reducible refine Blk.drew ?_))); clear c40 c41 c42 c43 f40 f41 f42 f43 l4 n4 lx h4; have h4 := hx; clear hx; obtain ⟨c40, c41, c42, c43, f40, f41, f42, f43⟩ := h4.out.all4; have l4 := h4.out.lt; have n4 := Nat.ne_of_lt l4; have lx := h5.out.lt; have hx := Lib.hid (blkThru2 (h5.out) (hb := hb) (by intro q; repeat (first | with_reducible exact q | with_reducible refine Blk.far ?_ _ _ (by first | omega | (simp; done) | (simp; omega)) | with_reducible refine Blk.alloc ?_ _ | with_reducible refine Blk.drew ?_))); clear c50 c51 c52 c53 f50 f51 f52 f53 l5 n5 lx h5; have h5 := hx; clear hx; obtain ⟨c50, c51, c52, c53, f50, f51, f52, f53⟩ := h5.out.all4; have l5 := h5.out.lt; have n5 := Nat.ne_of_lt l5; have h6 := Lib.hid (blkThru hb (by repeat (first | with_reducible exact Blk.new _ _ 24 | with_reducible apply Blk.alloc))); obtain ⟨c60, c61, c62, c63, f60, f61, f62, f63⟩ := h6.out.all4; have l6 := h6.out.lt; have n6 := Nat.ne_of_lt l6; clear hb; have s6 := Lib.hid trivial))
  have g1 := Lib.hid h1.out
  have g2 := Lib.hid h2.out
  have g3 := Lib.hid h3.out
  have g4 := Lib.hid h4.out
  have g5 := Lib.hid h5.out
  have g6 := Lib.hid h6.out
  have gW := Lib.hid hW.out
  clear h1 h2 h3 h4 h5 h6 hW
  clear c10 c11 c12 c13 f10 f11 f12 f13 l1 n1
  clear c20 c21 c22 c23 f20 f21 f22 f23 l2 n2
  clear c30 c31 c32 c33 f30 f31 f32 f33 l3 n3
  clear c40 c41 c42 c43 f40 f41 f42 f43 l4 n4
  clear c50 c51 c52 c53 f50 f51 f52 f53 l5 n5
  clear c60 c61 c62 c63 f60 f61 f62 f63 l6 n6
  obtain ⟨W0, hT⟩ : ∃ W0, w6 = W0 := ⟨_, rfl⟩
  rw [hT] at g1 g2 g3 g4 g5 g6 gW ⊢
  obtain ⟨c10, c11, c12, c13, f10, f11, f12, f13⟩ := g1.out.all4; have l1 := g1.out.lt; clear f10 f11 f12 f13
  obtain ⟨c20, c21, c22, c23, f20, f21, f22, f23⟩ := g2.out.all4; have l2 := g2.out.lt; clear f20 f21 f22 f23
  obtain ⟨c30, c31, c32, c33, f30, f31, f32, f33⟩ := g3.out.all4; have l3 := g3.out.lt; clear f30 f31 f32 f33
  obtain ⟨c40, c41, c42, c43, f40, f41, f42, f43⟩ := g4.out.all4; have l4 := g4.out.lt; clear f40 f41 f42 f43
  obtain ⟨c50, c51, c52, c53, f50, f51, f52, f53⟩ := g5.out.all4; have l5 := g5.out.lt; clear f50 f51 f52 f53
  obtain ⟨c60, c61, c62, c63, f60, f61, f62, f63⟩ := g6.out.all4; have l6 := g6.out.lt; clear f60 f61 f62 f63
  have HV0 : Hid (IntsAt W0 (.slice p6 n cap6) zs) := Lib.hid (hT ▸ HV6.out)
  clear hT HV6
  refine region_fork (o0 := { dst := some 45, op := Go.Op.load 27 (Go.Operand.tmp 7), type := 27, pos := "law.go:42", after := #[], guard := none }) (o1 := { dst := some 46, op := Go.Op.call { callee := Go.Callee.value (Go.Operand.func 17), args := #[Go.Operand.tmp 45], argTypes := #[27] }, type := 25, pos := "law.go:42", after := #[{ on := 0, ground := Go.Ground.data }], guard := none }) (o2 := { dst := some 47, op := Go.Op.move (Go.Operand.tmp 16), type := 25, pos := "law.go:42", after := #[], guard := none }) (S := Below W0.heap.size W0) (T := fun v W => IntsAt W v zs) (v0 := mv m) (v2 := .slice p6 n cap6) (by kernel_rfl) rfl ((Below.refl _ _).drew) rfl rfl rfl (by kernel_rfl) (by kernel_rfl) (by kernel_rfl) (by kernel_rfl) (by kernel_rfl) (by intro d hd; cases hd; decide) (by intro d hd; cases hd; decide) ?_ ?_ ?_ ?_
  · rintro x (rfl | rfl)
    all_goals (refine ⟨by rfl, fun W hS => ?_⟩; obtain ⟨hc, hf⟩ := bcell hS; go_simp; exact ⟨rfl, rfl⟩)
  · rintro x (rfl | rfl | ⟨v, rfl⟩)
    all_goals (refine ⟨by rfl, fun W hS => ?_⟩; go_simp; exact ⟨rfl, rfl⟩)
  · rintro x (rfl | rfl)
    all_goals (refine ⟨by rfl, fun W hS => ?_⟩; go_simp; show Calls _ _ _ _ _; refine (C6.out W).mono ?_; rintro e w9 ⟨v, rfl, hv, hb⟩; exact ⟨v, rfl, hS.trans (hb.mono hS.size), hv⟩)
  intro v W3 hS3 hV3
  have HV3 := Lib.hid hV3
  clear hV3
  dsimp only [mv]
  simp only [Act.put, List.setIfInBounds_toArray, List.set_cons_zero, List.set_cons_succ]
  refine any_only (i := 3) (oi := { dst := some 48, op := Go.Op.call { callee := Go.Callee.value (Go.Operand.func 16), args := #[Go.Operand.tmp 46, Go.Operand.tmp 47], argTypes := #[25, 25] }, type := 4, pos := "law.go:42", after := #[{ on := 1, ground := Go.Ground.data }, { on := 2, ground := Go.Ground.data }, { on := 1, ground := Go.Ground.chain }], guard := none }) (v := .bool true) (S := Below W0.heap.size W0) rfl (by kernel_rfl) (by rfl) ?_ ?_
  · go_simp
    show Calls _ _ _ _ _
    refine (C10.out _ _ W3 HV3.out (HV0.out.below hS3)).mono ?_
    rintro e w9 ⟨rfl, hb⟩
    exact ⟨rfl, hS3.trans (hb.mono hS3.size)⟩
  intro W4 hS4
  simp only [Act.put, List.setIfInBounds_toArray, List.set_cons_zero, List.set_cons_succ]
  refine wpAny_of_each (S := Below W0.heap.size W0) _ _ _ _ hS4 ?_
  clear hS4 hS3 HV3
  refine each_take (i := 4) (oi := { dst := some 49, op := Go.Op.move (Go.Operand.tmp 48), type := 4, pos := "law.go:42", after := #[{ on := 3, ground := Go.Ground.data }, { on := 3, ground := Go.Ground.chain }], guard := none }) (v := _) rfl (by kernel_rfl) (by kernel_rfl) (by kernel_rfl) (fun _ _ _ h => h) (by first
  | exact Or.inr ⟨by rfl, rfl⟩
  | (refine Or.inl ⟨by rfl, fun W hS => ?_⟩; obtain ⟨hc, hf⟩ := bcell hS; go_simp; exact ⟨rfl, hS⟩)) ?_
  simp only [Act.put, List.setIfInBounds_toArray, List.set_cons_zero, List.set_cons_succ]
  refine each_take (i := 5) (oi := { dst := some 50, op := Go.Op.load 27 (Go.Operand.tmp 7), type := 27, pos := "law.go:42", after := #[{ on := 4, ground := Go.Ground.guard }], guard := some (4, true) }) (v := _) rfl (by kernel_rfl) (by kernel_rfl) (by kernel_rfl) (fun _ _ _ h => h) (by first
  | exact Or.inr ⟨by rfl, rfl⟩
  | (refine Or.inl ⟨by rfl, fun W hS => ?_⟩; obtain ⟨hc, hf⟩ := bcell hS; go_simp; exact ⟨rfl, hS⟩)) ?_
  simp only [Act.put, List.setIfInBounds_toArray, List.set_cons_zero, List.set_cons_succ]
  refine each_take (i := 6) (oi := { dst := some 51, op := Go.Op.call { callee := Go.Callee.value (Go.Operand.func 18), args := #[Go.Operand.tmp 50], argTypes := #[27] }, type := 3, pos := "law.go:42", after := #[{ on := 5, ground := Go.Ground.data }, { on := 4, ground := Go.Ground.chain }, { on := 4, ground := Go.Ground.guard }], guard := some (4, true) }) (v := _) rfl (by kernel_rfl) (by kernel_rfl) (by kernel_rfl) (fun _ _ _ h => h) (by first
  | exact Or.inr ⟨by rfl, rfl⟩
  | (refine Or.inl ⟨by rfl, fun W hS => ?_⟩; go_simp; show Calls _ _ _ _ _; refine (C7.out _).mono ?_; rintro e w9 ⟨rfl, hb⟩; exact ⟨rfl, hS.trans (hb.mono hS.size)⟩)) ?_
  simp only [Act.put, List.setIfInBounds_toArray, List.set_cons_zero, List.set_cons_succ]
  refine each_take (i := 7) (oi := { dst := some 52, op := Go.Op.move (Go.Operand.tmp 16), type := 25, pos := "law.go:42", after := #[{ on := 4, ground := Go.Ground.guard }], guard := some (4, true) }) (v := _) rfl (by kernel_rfl) (by kernel_rfl) (by kernel_rfl) (fun _ _ _ h => h) (by first
  | exact Or.inr ⟨by rfl, rfl⟩
  | (refine Or.inl ⟨by rfl, fun W hS => ?_⟩; obtain ⟨hc, hf⟩ := bcell hS; go_simp; exact ⟨rfl, hS⟩)) ?_
  simp only [Act.put, List.setIfInBounds_toArray, List.set_cons_zero, List.set_cons_succ]
  refine each_take (i := 8) (oi := { dst := some 53, op := Go.Op.call { callee := Go.Callee.builtin Go.Builtin.len, args := #[Go.Operand.tmp 52], argTypes := #[25] }, type := 3, pos := "law.go:42", after := #[{ on := 7, ground := Go.Ground.data }, { on := 4, ground := Go.Ground.guard }], guard := some (4, true) }) (v := _) rfl (by kernel_rfl) (by kernel_rfl) (by kernel_rfl) (fun _ _ _ h => h) (by first
  | exact Or.inr ⟨by rfl, rfl⟩
  | (refine Or.inl ⟨by rfl, fun W hS => ?_⟩; obtain ⟨hc, hf⟩ := bcell hS; go_simp; exact ⟨rfl, hS⟩)) ?_
  simp only [Act.put, List.setIfInBounds_toArray, List.set_cons_zero, List.set_cons_succ]
  refine each_take (i := 9) (oi := { dst := some 54, op := Go.Op.binOp Go.BinOp.eql 3 (Go.Operand.tmp 51) (Go.Operand.tmp 53) 3, type := 4, pos := "law.go:42", after := #[{ on := 6, ground := Go.Ground.data }, { on := 8, ground := Go.Ground.data }, { on := 4, ground := Go.Ground.guard }], guard := some (4, true) }) (v := _) rfl (by kernel_rfl) (by kernel_rfl) (by kernel_rfl) (fun _ _ _ h => h) (by first
  | exact Or.inr ⟨by rfl, rfl⟩
  | (refine Or.inl ⟨by rfl, fun W hS => ?_⟩; obtain ⟨hc, hf⟩ := bcell hS; go_simp; exact ⟨rfl, hS⟩)) ?_
  simp only [Act.put, List.setIfInBounds_toArray, List.set_cons_zero, List.set_cons_succ]
  refine each_take (i := 10) (oi := { dst := some 55, op := Go.Op.pick (Go.Operand.tmp 49) (Go.Operand.tmp 54) (Go.Operand.const (Go.Value.bool false)), type := 4, pos := "law.go:42", after := #[{ on := 4, ground := Go.Ground.data }, { on := 9, ground := Go.Ground.data }], guard := none }) (v := _) rfl (by kernel_rfl) (by kernel_rfl) (by kernel_rfl) (fun _ _ _ h => h) (by first
  | exact Or.inr ⟨by rfl, rfl⟩
  | (refine Or.inl ⟨by rfl, fun W hS => ?_⟩; obtain ⟨hc, hf⟩ := bcell hS; go_simp; exact ⟨rfl, hS⟩)) ?_
  simp only [Act.put, List.setIfInBounds_toArray, List.set_cons_zero, List.set_cons_succ]
  refine each_take (i := 11) (oi := { dst := some 56, op := Go.Op.move (Go.Operand.tmp 55), type := 4, pos := "law.go:42", after := #[{ on := 10, ground := Go.Ground.data }, { on := 6, ground := Go.Ground.chain }], guard := none }) (v := _) rfl (by kernel_rfl) (by kernel_rfl) (by kernel_rfl) (fun _ _ _ h => h) (by first
  | exact Or.inr ⟨by rfl, rfl⟩
  | (refine Or.inl ⟨by rfl, fun W hS => ?_⟩; obtain ⟨hc, hf⟩ := bcell hS; go_simp; exact ⟨rfl, hS⟩)) ?_
  simp only [Act.put, List.setIfInBounds_toArray, List.set_cons_zero, List.set_cons_succ]
  refine each_take (i := 12) (oi := { dst := some 57, op := Go.Op.load 27 (Go.Operand.tmp 7), type := 27, pos := "law.go:42", after := #[{ on := 11, ground := Go.Ground.guard }], guard := some (11, true) }) (v := _) rfl (by kernel_rfl) (by kernel_rfl) (by kernel_rfl) (fun _ _ _ h => h) (by first
  | exact Or.inr ⟨by rfl, rfl⟩
  | (refine Or.inl ⟨by rfl, fun W hS => ?_⟩; obtain ⟨hc, hf⟩ := bcell hS; go_simp; exact ⟨rfl, hS⟩)) ?_
  simp only [Act.put, List.setIfInBounds_toArray, List.set_cons_zero, List.set_cons_succ]
  refine each_take (i := 13) (oi := { dst := some 58, op := Go.Op.move (Go.Operand.tmp 2), type := 3, pos := "law.go:42", after := #[{ on := 11, ground := Go.Ground.guard }], guard := some (11, true) }) (v := _) rfl (by kernel_rfl) (by kernel_rfl) (by kernel_rfl) (fun _ _ _ h => h) (by first
  | exact Or.inr ⟨by rfl, rfl⟩
  | (refine Or.inl ⟨by rfl, fun W hS => ?_⟩; obtain ⟨hc, hf⟩ := bcell hS; go_simp; exact ⟨rfl, hS⟩)) ?_
  simp only [Act.put, List.setIfInBounds_toArray, List.set_cons_zero, List.set_cons_succ]
  refine each_take (i := 14) (oi := { dst := some 59, op := Go.Op.call { callee := Go.Callee.value (Go.Operand.func 19), args := #[Go.Operand.tmp 57, Go.Operand.tmp 58], argTypes := #[27, 3] }, type := 4, pos := "law.go:42", after := #[{ on := 12, ground := Go.Ground.data }, { on := 13, ground := Go.Ground.data }, { on := 11, ground := Go.Ground.chain }, { on := 11, ground := Go.Ground.guard }], guard := some (11, true) }) (v := _) rfl (by kernel_rfl) (by kernel_rfl) (by kernel_rfl) (fun _ _ _ h => h) (by first
  | exact Or.inr ⟨by rfl, rfl⟩
  | (refine Or.inl ⟨by rfl, fun W hS => ?_⟩; go_simp; show Calls _ _ _ _ _; refine (C8.out _).mono ?_; rintro e w9 ⟨rfl, hb⟩; exact ⟨rfl, hS.trans (hb.mono hS.size)⟩)) ?_
  simp only [Act.put, List.setIfInBounds_toArray, List.set_cons_zero, List.set_cons_succ]
  refine each_take (i := 15) (oi := { dst := some 60, op := Go.Op.load 24 (Go.Operand.tmp 3), type := 24, pos := "law.go:42", after := #[{ on := 11, ground := Go.Ground.guard }], guard := some (11, true) }) (v := _) rfl (by kernel_rfl) (by kernel_rfl) (by kernel_rfl) (fun _ _ _ h => h) (by first
  | exact Or.inr ⟨by rfl, rfl⟩
  | (refine Or.inl ⟨by rfl, fun W hS => ?_⟩; obtain ⟨hc, hf⟩ := bcell hS; go_simp; exact ⟨rfl, hS⟩)) ?_
  simp only [Act.put, List.setIfInBounds_toArray, List.set_cons_zero, List.set_cons_succ]
  refine each_take (i := 16) (oi := { dst := some 61, op := Go.Op.move (Go.Operand.tmp 2), type := 3, pos := "law.go:42", after := #[{ on := 11, ground := Go.Ground.guard }], guard := some (11, true) }) (v := _) rfl (by kernel_rfl) (by kernel_rfl) (by kernel_rfl) (fun _ _ _ h => h) (by first
  | exact Or.inr ⟨by rfl, rfl⟩
  | (refine Or.inl ⟨by rfl, fun W hS => ?_⟩; obtain ⟨hc, hf⟩ := bcell hS; go_simp; exact ⟨rfl, hS⟩)) ?_
  simp only [Act.put, List.setIfInBounds_toArray, List.set_cons_zero, List.set_cons_succ]
  refine each_take (i := 17) (oi := { dst := some 62, op := Go.Op.call { callee := Go.Callee.value (Go.Operand.func 20), args := #[Go.Operand.tmp 60, Go.Operand.tmp 61], argTypes := #[24, 3] }, type := 4, pos := "law.go:42", after := #[{ on := 15, ground := Go.Ground.data }, { on := 16, ground := Go.Ground.data }, { on := 14, ground := Go.Ground.chain }, { on := 11, ground := Go.Ground.guard }], guard := some (11, true) }) (v := _) rfl (by kernel_rfl) (by kernel_rfl) (by kernel_rfl) (fun _ _ _ h => h) (by first
  | exact Or.inr ⟨by rfl, rfl⟩
  | (refine Or.inl ⟨by rfl, fun W hS => ?_⟩; go_simp; show Calls _ _ _ _ _; refine (C9.out _).mono ?_; rintro e w9 ⟨rfl, hb⟩; exact ⟨rfl, hS.trans (hb.mono hS.size)⟩)) ?_
  simp only [Act.put, List.setIfInBounds_toArray, List.set_cons_zero, List.set_cons_succ]
  refine each_take (i := 18) (oi := { dst := some 63, op := Go.Op.binOp Go.BinOp.eql 4 (Go.Operand.tmp 59) (Go.Operand.tmp 62) 4, type := 4, pos := "law.go:42", after := #[{ on := 14, ground := Go.Ground.data }, { on := 17, ground := Go.Ground.data }, { on := 11, ground := Go.Ground.guard }], guard := some (11, true) }) (v := _) rfl (by kernel_rfl) (by kernel_rfl) (by kernel_rfl) (fun _ _ _ h => h) (by first
  | exact Or.inr ⟨by rfl, rfl⟩
  | (refine Or.inl ⟨by rfl, fun W hS => ?_⟩; obtain ⟨hc, hf⟩ := bcell hS; go_simp; exact ⟨rfl, hS⟩)) ?_
  simp only [Act.put, List.setIfInBounds_toArray, List.set_cons_zero, List.set_cons_succ]
  refine each_take (i := 19) (oi := { dst := some 64, op := Go.Op.pick (Go.Operand.tmp 56) (Go.Operand.tmp 63) (Go.Operand.const (Go.Value.bool false)), type := 4, pos := "law.go:42", after := #[{ on := 11, ground := Go.Ground.data }, { on := 18, ground := Go.Ground.data }], guard := none }) (v := _) rfl (by kernel_rfl) (by kernel_rfl) (by kernel_rfl) (fun _ _ _ h => h) (by first
  | exact Or.inr ⟨by rfl, rfl⟩
  | (refine Or.inl ⟨by rfl, fun W hS => ?_⟩; obtain ⟨hc, hf⟩ := bcell hS; go_simp; exact ⟨rfl, hS⟩)) ?_
  simp only [Act.put, List.setIfInBounds_toArray, List.set_cons_zero, List.set_cons_succ]
  refine each_take (i := 20) (oi := { dst := some 65, op := Go.Op.move (Go.Operand.tmp 64), type := 4, pos := "law.go:42", after := #[{ on := 19, ground := Go.Ground.data }, { on := 17, ground := Go.Ground.chain }], guard := none }) (v := _) rfl (by kernel_rfl) (by kernel_rfl) (by kernel_rfl) (fun _ _ _ h => h) (by first
  | exact Or.inr ⟨by rfl, rfl⟩
  | (refine Or.inl ⟨by rfl, fun W hS => ?_⟩; obtain ⟨hc, hf⟩ := bcell hS; go_simp; exact ⟨rfl, hS⟩)) ?_
  simp only [Act.put, List.setIfInBounds_toArray, List.set_cons_zero, List.set_cons_succ]
  refine each_take (i := 21) (oi := { dst := some 66, op := Go.Op.load 27 (Go.Operand.tmp 8), type := 27, pos := "law.go:42", after := #[{ on := 20, ground := Go.Ground.guard }], guard := some (20, true) }) (v := _) rfl (by kernel_rfl) (by kernel_rfl) (by kernel_rfl) (fun _ _ _ h => h) (by first
  | exact Or.inr ⟨by rfl, rfl⟩
  | (refine Or.inl ⟨by rfl, fun W hS => ?_⟩; obtain ⟨hc, hf⟩ := bcell hS; go_simp; exact ⟨rfl, hS⟩)) ?_
  simp only [Act.put, List.setIfInBounds_toArray, List.set_cons_zero, List.set_cons_succ]
  refine each_take (i := 22) (oi := { dst := some 67, op := Go.Op.call { callee := Go.Callee.value (Go.Operand.func 21), args := #[Go.Operand.tmp 66], argTypes := #[27] }, type := 24, pos := "law.go:42", after := #[{ on := 21, ground := Go.Ground.data }, { on := 20, ground := Go.Ground.chain }, { on := 20, ground := Go.Ground.guard }], guard := some (20, true) }) (v := _) rfl (by kernel_rfl) (by kernel_rfl) (by kernel_rfl) (fun _ _ _ h => h) (by first
  | exact Or.inr ⟨by rfl, rfl⟩
  | (refine Or.inl ⟨by rfl, fun W hS => ?_⟩; go_simp; show Calls _ _ _ _ _; refine (told_any _ _ _ _ _).mono ?_; rintro e w9 ⟨rfl, hb⟩; exact ⟨rfl, hS.trans (hb.mono hS.size)⟩)) ?_
  simp only [Act.put, List.setIfInBounds_toArray, List.set_cons_zero, List.set_cons_succ]
  refine each_take (i := 23) (oi := { dst := some 68, op := Go.Op.load 24 (Go.Operand.tmp 10), type := 24, pos := "law.go:42", after := #[{ on := 20, ground := Go.Ground.guard }], guard := some (20, true) }) (v := _) rfl (by kernel_rfl) (by kernel_rfl) (by kernel_rfl) (fun _ _ _ h => h) (by first
  | exact Or.inr ⟨by rfl, rfl⟩
  | (refine Or.inl ⟨by rfl, fun W hS => ?_⟩; obtain ⟨hc, hf⟩ := bcell hS; go_simp; exact ⟨rfl, hS⟩)) ?_
  simp only [Act.put, List.setIfInBounds_toArray, List.set_cons_zero, List.set_cons_succ]
  refine each_take (i := 24) (oi := { dst := some 69, op := Go.Op.binOp Go.BinOp.eql 24 (Go.Operand.tmp 67) (Go.Operand.tmp 68) 24, type := 4, pos := "law.go:42", after := #[{ on := 22, ground := Go.Ground.data }, { on := 23, ground := Go.Ground.data }, { on := 20, ground := Go.Ground.guard }], guard := some (20, true) }) (v := _) rfl (by kernel_rfl) (by kernel_rfl) (by kernel_rfl) (fun _ _ _ h => h) (by first
  | exact Or.inr ⟨by rfl, rfl⟩
  | (refine Or.inl ⟨by rfl, fun W hS => ?_⟩; obtain ⟨hc, hf⟩ := bcell hS; go_simp; exact ⟨rfl, hS⟩)) ?_
  simp only [Act.put, List.setIfInBounds_toArray, List.set_cons_zero, List.set_cons_succ]
  refine each_take (i := 25) (oi := { dst := some 70, op := Go.Op.pick (Go.Operand.tmp 65) (Go.Operand.tmp 69) (Go.Operand.const (Go.Value.bool false)), type := 4, pos := "law.go:42", after := #[{ on := 20, ground := Go.Ground.data }, { on := 24, ground := Go.Ground.data }], guard := none }) (v := _) rfl (by kernel_rfl) (by kernel_rfl) (by kernel_rfl) (fun _ _ _ h => h) (by first
  | exact Or.inr ⟨by rfl, rfl⟩
  | (refine Or.inl ⟨by rfl, fun W hS => ?_⟩; obtain ⟨hc, hf⟩ := bcell hS; go_simp; exact ⟨rfl, hS⟩)) ?_
  simp only [Act.put, List.setIfInBounds_toArray, List.set_cons_zero, List.set_cons_succ]
  refine each_take (i := 26) (oi := { dst := some 71, op := Go.Op.move (Go.Operand.tmp 70), type := 4, pos := "law.go:42", after := #[{ on := 25, ground := Go.Ground.data }, { on := 22, ground := Go.Ground.chain }], guard := none }) (v := _) rfl (by kernel_rfl) (by kernel_rfl) (by kernel_rfl) (fun _ _ _ h => h) (by first
  | exact Or.inr ⟨by rfl, rfl⟩
  | (refine Or.inl ⟨by rfl, fun W hS => ?_⟩; obtain ⟨hc, hf⟩ := bcell hS; go_simp; exact ⟨rfl, hS⟩)) ?_
  simp only [Act.put, List.setIfInBounds_toArray, List.set_cons_zero, List.set_cons_succ]
  refine each_take (i := 27) (oi := { dst := some 72, op := Go.Op.move (Go.Operand.tmp 9), type := 29, pos := "law.go:42", after := #[{ on := 26, ground := Go.Ground.guard }], guard := some (26, true) }) (v := _) rfl (by kernel_rfl) (by kernel_rfl) (by kernel_rfl) (fun _ _ _ h => h) (by first
  | exact Or.inr ⟨by rfl, rfl⟩
  | (refine Or.inl ⟨by rfl, fun W hS => ?_⟩; obtain ⟨hc, hf⟩ := bcell hS; go_simp; exact ⟨rfl, hS⟩)) ?_
  simp only [Act.put, List.setIfInBounds_toArray, List.set_cons_zero, List.set_cons_succ]
  refine each_take (i := 28) (oi := { dst := some 73, op := Go.Op.move (Go.Operand.tmp 11), type := 29, pos := "law.go:42", after := #[{ on := 26, ground := Go.Ground.guard }], guard := some (26, true) }) (v := _) rfl (by kernel_rfl) (by kernel_rfl) (by kernel_rfl) (fun _ _ _ h => h) (by first
  | exact Or.inr ⟨by rfl, rfl⟩
  | (refine Or.inl ⟨by rfl, fun W hS => ?_⟩; obtain ⟨hc, hf⟩ := bcell hS; go_simp; exact ⟨rfl, hS⟩)) ?_
  simp only [Act.put, List.setIfInBounds_toArray, List.set_cons_zero, List.set_cons_succ]
  refine each_take (i := 29) (oi := { dst := some 74, op := Go.Op.binOp Go.BinOp.eql 29 (Go.Operand.tmp 72) (Go.Operand.tmp 73) 29, type := 4, pos := "law.go:42", after := #[{ on := 27, ground := Go.Ground.data }, { on := 28, ground := Go.Ground.data }, { on := 26, ground := Go.Ground.guard }], guard := some (26, true) }) (v := _) rfl (by kernel_rfl) (by kernel_rfl) (by kernel_rfl) (fun _ _ _ h => h) (by first
  | exact Or.inr ⟨by rfl, rfl⟩
  | (refine Or.inl ⟨by rfl, fun W hS => ?_⟩; obtain ⟨hc, hf⟩ := bcell hS; go_simp; exact ⟨rfl, hS⟩)) ?_
  simp only [Act.put, List.setIfInBounds_toArray, List.set_cons_zero, List.set_cons_succ]
  refine each_take (i := 30) (oi := { dst := some 75, op := Go.Op.pick (Go.Operand.tmp 71) (Go.Operand.tmp 74) (Go.Operand.const (Go.Value.bool false)), type := 4, pos := "law.go:42", after := #[{ on := 26, ground := Go.Ground.data }, { on := 29, ground := Go.Ground.data }], guard := none }) (v := _) rfl (by kernel_rfl) (by kernel_rfl) (by kernel_rfl) (fun _ _ _ h => h) (by first
  | exact Or.inr ⟨by rfl, rfl⟩
  | (refine Or.inl ⟨by rfl, fun W hS => ?_⟩; obtain ⟨hc, hf⟩ := bcell hS; go_simp; exact ⟨rfl, hS⟩)) ?_
  simp only [Act.put, List.setIfInBounds_toArray, List.set_cons_zero, List.set_cons_succ]
  refine each_take (i := 31) (oi := { dst := some 76, op := Go.Op.move (Go.Operand.tmp 75), type := 4, pos := "law.go:42", after := #[{ on := 30, ground := Go.Ground.data }, { on := 26, ground := Go.Ground.chain }], guard := none }) (v := _) rfl (by kernel_rfl) (by kernel_rfl) (by kernel_rfl) (fun _ _ _ h => h) (by first
  | exact Or.inr ⟨by rfl, rfl⟩
  | (refine Or.inl ⟨by rfl, fun W hS => ?_⟩; obtain ⟨hc, hf⟩ := bcell hS; go_simp; exact ⟨rfl, hS⟩)) ?_
  simp only [Act.put, List.setIfInBounds_toArray, List.set_cons_zero, List.set_cons_succ]
  refine each_take (i := 32) (oi := { dst := some 77, op := Go.Op.load 27 (Go.Operand.tmp 12), type := 27, pos := "law.go:42", after := #[{ on := 31, ground := Go.Ground.guard }], guard := some (31, true) }) (v := _) rfl (by kernel_rfl) (by kernel_rfl) (by kernel_rfl) (fun _ _ _ h => h) (by first
  | exact Or.inr ⟨by rfl, rfl⟩
  | (refine Or.inl ⟨by rfl, fun W hS => ?_⟩; obtain ⟨hc, hf⟩ := bcell hS; go_simp; exact ⟨rfl, hS⟩)) ?_
  simp only [Act.put, List.setIfInBounds_toArray, List.set_cons_zero, List.set_cons_succ]
  refine each_take (i := 33) (oi := { dst := some 78, op := Go.Op.call { callee := Go.Callee.value (Go.Operand.func 21), args := #[Go.Operand.tmp 77], argTypes := #[27] }, type := 24, pos := "law.go:42", after := #[{ on := 32, ground := Go.Ground.data }, { on := 31, ground := Go.Ground.chain }, { on := 31, ground := Go.Ground.guard }], guard := some (31, true) }) (v := _) rfl (by kernel_rfl) (by kernel_rfl) (by kernel_rfl) (fun _ _ _ h => h) (by first
  | exact Or.inr ⟨by rfl, rfl⟩
  | (refine Or.inl ⟨by rfl, fun W hS => ?_⟩; go_simp; show Calls _ _ _ _ _; refine (told_any _ _ _ _ _).mono ?_; rintro e w9 ⟨rfl, hb⟩; exact ⟨rfl, hS.trans (hb.mono hS.size)⟩)) ?_
  simp only [Act.put, List.setIfInBounds_toArray, List.set_cons_zero, List.set_cons_succ]
  refine each_take (i := 34) (oi := { dst := some 79, op := Go.Op.load 24 (Go.Operand.tmp 14), type := 24, pos := "law.go:42", after := #[{ on := 31, ground := Go.Ground.guard }], guard := some (31, true) }) (v := _) rfl (by kernel_rfl) (by kernel_rfl) (by kernel_rfl) (fun _ _ _ h => h) (by first
  | exact Or.inr ⟨by rfl, rfl⟩
  | (refine Or.inl ⟨by rfl, fun W hS => ?_⟩; obtain ⟨hc, hf⟩ := bcell hS; go_simp; exact ⟨rfl, hS⟩)) ?_
  simp only [Act.put, List.setIfInBounds_toArray, List.set_cons_zero, List.set_cons_succ]
  refine each_take (i := 35) (oi := { dst := some 80, op := Go.Op.binOp Go.BinOp.eql 24 (Go.Operand.tmp 78) (Go.Operand.tmp 79) 24, type := 4, pos := "law.go:42", after := #[{ on := 33, ground := Go.Ground.data }, { on := 34, ground := Go.Ground.data }, { on := 31, ground := Go.Ground.guard }], guard := some (31, true) }) (v := _) rfl (by kernel_rfl) (by kernel_rfl) (by kernel_rfl) (fun _ _ _ h => h) (by first
  | exact Or.inr ⟨by rfl, rfl⟩
  | (refine Or.inl ⟨by rfl, fun W hS => ?_⟩; obtain ⟨hc, hf⟩ := bcell hS; go_simp; exact ⟨rfl, hS⟩)) ?_
  simp only [Act.put, List.setIfInBounds_toArray, List.set_cons_zero, List.set_cons_succ]
  refine each_take (i := 36) (oi := { dst := some 81, op := Go.Op.pick (Go.Operand.tmp 76) (Go.Operand.tmp 80) (Go.Operand.const (Go.Value.bool false)), type := 4, pos := "law.go:42", after := #[{ on := 31, ground := Go.Ground.data }, { on := 35, ground := Go.Ground.data }], guard := none }) (v := _) rfl (by kernel_rfl) (by kernel_rfl) (by kernel_rfl) (fun _ _ _ h => h) (by first
  | exact Or.inr ⟨by rfl, rfl⟩
  | (refine Or.inl ⟨by rfl, fun W hS => ?_⟩; obtain ⟨hc, hf⟩ := bcell hS; go_simp; exact ⟨rfl, hS⟩)) ?_
  simp only [Act.put, List.setIfInBounds_toArray, List.set_cons_zero, List.set_cons_succ]
  refine each_take (i := 37) (oi := { dst := some 82, op := Go.Op.move (Go.Operand.tmp 81), type := 4, pos := "law.go:42", after := #[{ on := 36, ground := Go.Ground.data }, { on := 33, ground := Go.Ground.chain }], guard := none }) (v := _) rfl (by kernel_rfl) (by kernel_rfl) (by kernel_rfl) (fun _ _ _ h => h) (by first
  | exact Or.inr ⟨by rfl, rfl⟩
  | (refine Or.inl ⟨by rfl, fun W hS => ?_⟩; obtain ⟨hc, hf⟩ := bcell hS; go_simp; exact ⟨rfl, hS⟩)) ?_
  simp only [Act.put, List.setIfInBounds_toArray, List.set_cons_zero, List.set_cons_succ]
  refine each_take (i := 38) (oi := { dst := some 83, op := Go.Op.move (Go.Operand.tmp 13), type := 29, pos := "law.go:42", after := #[{ on := 37, ground := Go.Ground.guard }], guard := some (37, true) }) (v := _) rfl (by kernel_rfl) (by kernel_rfl) (by kernel_rfl) (fun _ _ _ h => h) (by first
  | exact Or.inr ⟨by rfl, rfl⟩
  | (refine Or.inl ⟨by rfl, fun W hS => ?_⟩; obtain ⟨hc, hf⟩ := bcell hS; go_simp; exact ⟨rfl, hS⟩)) ?_
  simp only [Act.put, List.setIfInBounds_toArray, List.set_cons_zero, List.set_cons_succ]
  refine each_take (i := 39) (oi := { dst := some 84, op := Go.Op.move (Go.Operand.tmp 15), type := 29, pos := "law.go:42", after := #[{ on := 37, ground := Go.Ground.guard }], guard := some (37, true) }) (v := _) rfl (by kernel_rfl) (by kernel_rfl) (by kernel_rfl) (fun _ _ _ h => h) (by first
  | exact Or.inr ⟨by rfl, rfl⟩
  | (refine Or.inl ⟨by rfl, fun W hS => ?_⟩; obtain ⟨hc, hf⟩ := bcell hS; go_simp; exact ⟨rfl, hS⟩)) ?_
  simp only [Act.put, List.setIfInBounds_toArray, List.set_cons_zero, List.set_cons_succ]
  refine each_take (i := 40) (oi := { dst := some 85, op := Go.Op.binOp Go.BinOp.eql 29 (Go.Operand.tmp 83) (Go.Operand.tmp 84) 29, type := 4, pos := "law.go:42", after := #[{ on := 38, ground := Go.Ground.data }, { on := 39, ground := Go.Ground.data }, { on := 37, ground := Go.Ground.guard }], guard := some (37, true) }) (v := _) rfl (by kernel_rfl) (by kernel_rfl) (by kernel_rfl) (fun _ _ _ h => h) (by first
  | exact Or.inr ⟨by rfl, rfl⟩
  | (refine Or.inl ⟨by rfl, fun W hS => ?_⟩; obtain ⟨hc, hf⟩ := bcell hS; go_simp; exact ⟨rfl, hS⟩)) ?_
  simp only [Act.put, List.setIfInBounds_toArray, List.set_cons_zero, List.set_cons_succ]
  refine each_take (i := 41) (oi := { dst := some 86, op := Go.Op.pick (Go.Operand.tmp 82) (Go.Operand.tmp 85) (Go.Operand.const (Go.Value.bool false)), type := 4, pos := "law.go:42", after := #[{ on := 37, ground := Go.Ground.data }, { on := 40, ground := Go.Ground.data }], guard := none }) (v := _) rfl (by kernel_rfl) (by kernel_rfl) (by kernel_rfl) (fun _ _ _ h => h) (by first
  | exact Or.inr ⟨by rfl, rfl⟩
  | (refine Or.inl ⟨by rfl, fun W hS => ?_⟩; obtain ⟨hc, hf⟩ := bcell hS; go_simp; exact ⟨rfl, hS⟩)) ?_
  simp only [Act.put, List.setIfInBounds_toArray, List.set_cons_zero, List.set_cons_succ]
  refine each_take (i := 42) (oi := { dst := some 87, op := Go.Op.move (Go.Operand.tmp 86), type := 4, pos := "law.go:42", after := #[{ on := 41, ground := Go.Ground.data }, { on := 37, ground := Go.Ground.chain }], guard := none }) (v := _) rfl (by kernel_rfl) (by kernel_rfl) (by kernel_rfl) (fun _ _ _ h => h) (by first
  | exact Or.inr ⟨by rfl, rfl⟩
  | (refine Or.inl ⟨by rfl, fun W hS => ?_⟩; obtain ⟨hc, hf⟩ := bcell hS; go_simp; exact ⟨rfl, hS⟩)) ?_
  simp only [Act.put, List.setIfInBounds_toArray, List.set_cons_zero, List.set_cons_succ]
  refine each_take (i := 43) (oi := { dst := some 88, op := Go.Op.call { callee := Go.Callee.value (Go.Operand.func 9), args := #[], argTypes := #[] }, type := 4, pos := "law.go:42", after := #[{ on := 42, ground := Go.Ground.chain }, { on := 42, ground := Go.Ground.guard }], guard := some (42, true) }) (v := _) rfl (by kernel_rfl) (by kernel_rfl) (by kernel_rfl) (fun _ _ _ h => h) (by first
  | exact Or.inr ⟨by rfl, rfl⟩
  | (refine Or.inl ⟨by rfl, fun W hS => ?_⟩; go_simp; show Calls _ _ _ _ _; refine (live_any _ (HE.out.below (gW.out.trans (hS.mono gW.out.size)))).mono ?_; rintro e w9 ⟨rfl, hb⟩; exact ⟨rfl, hS.trans (hb.mono hS.size)⟩)) ?_
  simp only [Act.put, List.setIfInBounds_toArray, List.set_cons_zero, List.set_cons_succ]
  refine each_take (i := 44) (oi := { dst := some 89, op := Go.Op.pick (Go.Operand.tmp 87) (Go.Operand.tmp 88) (Go.Operand.const (Go.Value.bool false)), type := 4, pos := "law.go:42", after := #[{ on := 42, ground := Go.Ground.data }, { on := 43, ground := Go.Ground.data }], guard := none }) (v := _) rfl (by kernel_rfl) (by kernel_rfl) (by kernel_rfl) (fun _ _ _ h => h) (by first
  | exact Or.inr ⟨by rfl, rfl⟩
  | (refine Or.inl ⟨by rfl, fun W hS => ?_⟩; obtain ⟨hc, hf⟩ := bcell hS; go_simp; exact ⟨rfl, hS⟩)) ?_
  simp only [Act.put, List.setIfInBounds_toArray, List.set_cons_zero, List.set_cons_succ]
  refine each_take (i := 45) (oi := { dst := some 6, op := Go.Op.assign (Go.Operand.tmp 89), type := 4, pos := "law.go:42", after := #[{ on := 44, ground := Go.Ground.data }, { on := 43, ground := Go.Ground.chain }, { on := 0, ground := Go.Ground.phase }, { on := 1, ground := Go.Ground.phase }, { on := 2, ground := Go.Ground.phase }, { on := 3, ground := Go.Ground.phase }, { on := 4, ground := Go.Ground.phase }, { on := 5, ground := Go.Ground.phase }, { on := 6, ground := Go.Ground.phase }, { on := 7, ground := Go.Ground.phase }, { on := 8, ground := Go.Ground.phase }, { on := 9, ground := Go.Ground.phase }, { on := 10, ground := Go.Ground.phase }, { on := 11, ground := Go.Ground.phase }, { on := 12, ground := Go.Ground.phase }, { on := 13, ground := Go.Ground.phase }, { on := 14, ground := Go.Ground.phase }, { on := 15, ground := Go.Ground.phase }, { on := 16, ground := Go.Ground.phase }, { on := 17, ground := Go.Ground.phase }, { on := 18, ground := Go.Ground.phase }, { on := 19, ground := Go.Ground.phase }, { on := 20, ground := Go.Ground.phase }, { on := 21, ground := Go.Ground.phase }, { on := 22, ground := Go.Ground.phase }, { on := 23, ground := Go.Ground.phase }, { on := 24, ground := Go.Ground.phase }, { on := 25, ground := Go.Ground.phase }, { on := 26, ground := Go.Ground.phase }, { on := 27, ground := Go.Ground.phase }, { on := 28, ground := Go.Ground.phase }, { on := 29, ground := Go.Ground.phase }, { on := 30, ground := Go.Ground.phase }, { on := 31, ground := Go.Ground.phase }, { on := 32, ground := Go.Ground.phase }, { on := 33, ground := Go.Ground.phase }, { on := 34, ground := Go.Ground.phase }, { on := 35, ground := Go.Ground.phase }, { on := 36, ground := Go.Ground.phase }, { on := 37, ground := Go.Ground.phase }, { on := 38, ground := Go.Ground.phase }, { on := 39, ground := Go.Ground.phase }, { on := 40, ground := Go.Ground.phase }, { on := 41, ground := Go.Ground.phase }, { on := 42, ground := Go.Ground.phase }, { on := 43, ground := Go.Ground.phase }, { on := 44, ground := Go.Ground.phase }], guard := none }) (v := _) rfl (by kernel_rfl) (by kernel_rfl) (by kernel_rfl) (fun _ _ _ h => h) (by first
  | exact Or.inr ⟨by rfl, rfl⟩
  | (refine Or.inl ⟨by rfl, fun W hS => ?_⟩; obtain ⟨hc, hf⟩ := bcell hS; go_simp; exact ⟨rfl, hS⟩)) ?_
  simp only [Act.put, List.setIfInBounds_toArray, List.set_cons_zero, List.set_cons_succ]
  refine each_done (by kernel_rfl) (fun W hS => ?_) _
  go_wp2
  exact bodyPost_ret (v := .bool true) (by simp [results, Tryd.results3, go_sem]) rfl ⟨rfl, gW.out.trans (hS.mono gW.out.size)⟩
theorem law3 (m : MK) (hm : mok m) (xs : List Int) (p : Option Addr) (cap : Nat) (c : Int) (w : World) (hv : SlIn w (.slice p xs.length cap) xs) (hE : Env w) : Calls Tryd.prog 3 #[mv m, .slice p xs.length cap, .int .i64 c] w fun e w' => e = .returned (.bool true) ∧ Below w.heap.size w w' := by
  by_cases h : xs.length ≤ 300
  · exact law3_short m hm xs p cap c h w hv hE
  · exact law3_long m xs p cap c (by omega) w hE
end Go.Proofs.YtbjeaebgnnljhaaDoor
