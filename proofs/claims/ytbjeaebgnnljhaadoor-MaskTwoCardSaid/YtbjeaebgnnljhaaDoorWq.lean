/- WALKS: MaskTwo. -/
import Derived.Test.YtbjeaebgnnljhaaDoorWo
import Derived.Test.YtbjeaebgnnljhaaDoorRe
import Derived.Test.YtbjeaebgnnljhaaDoorPb
import Derived.Test.YtbjeaebgnnljhaaDoorOrd
set_option linter.unusedSimpArgs false
namespace Go.Proofs.YtbjeaebgnnljhaaDoor
open Go.RowKit Go.Shelf
set_option maxHeartbeats 2000000
set_option maxRecDepth 100000

theorem low_same (m : MK) (n : Int) : rLowRes m n = lowRes m n := by
  unfold rLowRes lowRes
  have e : (coll (has m) 256).length = (upTo m 256).length := by rw [coll_ints, coreInts, List.length_map]
  rw [e]
  by_cases h : n < 0
  · rw [if_pos h, if_pos h]
  · rw [if_neg h, if_neg h]
    by_cases h2 : ((upTo m 256).length : Int) < n
    · rw [if_pos h2, if_pos h2]
    · rw [if_neg h2, if_neg h2, lowest_coll]
theorem law7 (a b : MK) (ha : mok a) (hb : mok b) (n : Int) (w : World) (hE : Env w) : Calls Tryd.prog 7 #[mv a, mv b, .int .i64 n] w fun e w' => e = .returned (.bool true) ∧ Below w.heap.size w w' := by
  have HE := Lib.hid hE
  have q1 := fun W => And_any a b ha hb W
  have q2 := fun W => rAnd_any a b ha hb W
  simp only [and_coll ha] at q2
  have q3 := fun W => Or_any a b ha hb W
  have q4 := fun W => rOr_any a b ha hb W
  simp only [or_coll ha hb] at q4
  have q5 := fun W => Minus_any a b W
  have q6 := fun W => rMinus_any a b ha hb W
  simp only [minus_coll] at q6
  have q7 := fun W => Lowest_any a ha n W
  have q8 := fun W => rLow_any a ha n W
  simp only [low_same] at q8
  generalize andM a b = X1 at q1 q2
  generalize orM a b = X2 at q3 q4
  generalize minusM a b = X3 at q5 q6
  generalize lowRes a n = L at q7 q8
  have C1 := Lib.hid q1
  have C2 := Lib.hid q2
  have C3 := Lib.hid q3
  have C4 := Lib.hid q4
  have C5 := Lib.hid q5
  have C6 := Lib.hid q6
  have C7 := Lib.hid q7
  have C8 := Lib.hid q8
  have hW := Lib.hid (Below.refl w.heap.size w)
  have s0 := Lib.hid trivial
  clear hE ha hb q1 q2 q3 q4 q5 q6 q7 q8
  have k1 := (Blk.new w #[.int .u64 a.1, .int .u64 a.2.1, .int .u64 a.2.2.1, .int .u64 a.2.2.2] 24).alloc (.cells #[.int .u64 b.1, .int .u64 b.2.1, .int .u64 b.2.2.1, .int .u64 b.2.2.2] 24)
  have k2 := Blk.new (w.alloc (.cells #[.int .u64 a.1, .int .u64 a.2.1, .int .u64 a.2.2.1, .int .u64 a.2.2.2] 24)) #[.int .u64 b.1, .int .u64 b.2.1, .int .u64 b.2.2.1, .int .u64 b.2.2.2] 24
  rw [World.size_alloc] at k2
  have K1 := Lib.hid k1
  have K2 := Lib.hid k2
  clear k1 k2
  unfold mv
  go_enter Tryd.func7, Tryd.ntmps7
  go_wp2_with (first
    | (go_at_call 10; (have q := s0; clear q); (fail_if_success (have q := s1)); refine (own_any _ _ _ _ _).mono ?_; rintro e w1 ⟨rfl, hb⟩; have lx := hW.out.size; have hx := Lib.hid (belowStep (w := w) hb (by repeat (first | with_reducible exact hW.out | with_reducible refine Below.setCell ?_ (by first | omega | (simp; done) | (simp; omega)) _ | with_reducible refine Below.alloc ?_ (by first | omega | (simp; done) | (simp; omega)) _ | with_reducible refine Below.drew ?_))); clear hW lx; have hW := hx; clear hx; have h1 := Lib.hid (blkThru hb K1.out); obtain ⟨c10, c11, c12, c13, f10, f11, f12, f13⟩ := h1.out.all4; have l1 := h1.out.lt; have n1 := Nat.ne_of_lt l1; have h2 := Lib.hid (blkThru hb K2.out); obtain ⟨c20, c21, c22, c23, f20, f21, f22, f23⟩ := h2.out.all4; have l2 := h2.out.lt; have n2 := Nat.ne_of_lt l2; clear hb; have s1 := Lib.hid trivial)
    | (go_at_call 10; (have q := s1; clear q); (fail_if_success (have q := s2)); refine (own_any _ _ _ _ _).mono ?_; rintro e w2 ⟨rfl, hb⟩; have lx := hW.out.size; have hx := Lib.hid (belowStep (w := w) hb (by repeat (first | with_reducible exact hW.out | with_reducible refine Below.setCell ?_ (by first | omega | (simp; done) | (simp; omega)) _ | with_reducible refine Below.alloc ?_ (by first | omega | (simp; done) | (simp; omega)) _ | with_reducible refine Below.drew ?_))); clear hW lx; have hW := hx; clear hx; have lx := h1.out.lt; have hx := Lib.hid (blkThru2 (h1.out) (hb := hb) (by intro q; repeat (first | with_reducible exact q | with_reducible refine Blk.far ?_ _ _ (by first | omega | (simp; done) | (simp; omega)) | with_reducible refine Blk.alloc ?_ _ | with_reducible refine Blk.drew ?_))); clear c10 c11 c12 c13 f10 f11 f12 f13 l1 n1 lx h1; have h1 := hx; clear hx; obtain ⟨c10, c11, c12, c13, f10, f11, f12, f13⟩ := h1.out.all4; have l1 := h1.out.lt; have n1 := Nat.ne_of_lt l1; have lx := h2.out.lt; have hx := Lib.hid (blkThru2 (h2.out) (hb := hb) (by intro q; repeat (first | with_reducible exact q | with_reducible refine Blk.far ?_ _ _ (by first | omega | (simp; done) | (simp; omega)) | with_reducible refine Blk.alloc ?_ _ | with_reducible refine Blk.drew ?_))); clear c20 c21 c22 c23 f20 f21 f22 f23 l2 n2 lx h2; have h2 := hx; clear hx; obtain ⟨c20, c21, c22, c23, f20, f21, f22, f23⟩ := h2.out.all4; have l2 := h2.out.lt; have n2 := Nat.ne_of_lt l2; have h3 := Lib.hid (blkThru hb (by repeat (first | with_reducible exact Blk.new _ _ 27 | with_reducible apply Blk.alloc))); obtain ⟨c30, c31, c32, c33, f30, f31, f32, f33⟩ := h3.out.all4; have l3 := h3.out.lt; have n3 := Nat.ne_of_lt l3; clear hb; have s2 := Lib.hid trivial)
    | (go_at_call 26; (have q := s2; clear q); (fail_if_success (have q := s3)); refine (C7.out _).mono ?_; rintro e w3 ⟨rfl, hb⟩; dsimp only [mv]; have lx := hW.out.size; have hx := Lib.hid (belowStep (w := w) hb (by repeat (first | with_reducible exact hW.out | with_reducible refine Below.setCell ?_ (by first | omega | (simp; done) | (simp; omega)) _ | with_reducible refine Below.alloc ?_ (by first | omega | (simp; done) | (simp; omega)) _ | with_reducible refine Below.drew ?_))); clear hW lx; have hW := hx; clear hx; have lx := h1.out.lt; have hx := Lib.hid (blkThru2 (h1.out) (hb := hb) (by intro q; repeat (first | with_reducible exact q | with_reducible refine Blk.far ?_ _ _ (by first | omega | (simp; done) | (simp; omega)) | with_reducible refine Blk.alloc ?_ _ | with_reducible refine Blk.drew ?_))); clear c10 c11 c12 c13 f10 f11 f12 f13 l1 n1 lx h1; have h1 := hx; clear hx; obtain ⟨c10, c11, c12, c13, f10, f11, f12, f13⟩ := h1.out.all4; have l1 := h1.out.lt; have n1 := Nat.ne_of_lt l1; have lx := h2.out.lt; have hx := Lib.hid (blkThru2 (h2.out) (hb := hb) (by intro q; repeat (first | with_reducible exact q | with_reducible refine Blk.far ?_ _ _ (by first | omega | (simp; done) | (simp; omega)) | with_reducible refine Blk.alloc ?_ _ | with_reducible refine Blk.drew ?_))); clear c20 c21 c22 c23 f20 f21 f22 f23 l2 n2 lx h2; have h2 := hx; clear hx; obtain ⟨c20, c21, c22, c23, f20, f21, f22, f23⟩ := h2.out.all4; have l2 := h2.out.lt; have n2 := Nat.ne_of_lt l2; have lx := h3.out.lt; have hx := Lib.hid (blkThru2 (h3.out) (hb := hb) (by intro q; repeat (first | with_reducible exact q | with_reducible refine Blk.far ?_ _ _ (by first | omega | (simp; done) | (simp; omega)) | with_reducible refine Blk.alloc ?_ _ | with_reducible refine Blk.drew ?_))); clear c30 c31 c32 c33 f30 f31 f32 f33 l3 n3 lx h3; have h3 := hx; clear hx; obtain ⟨c30, c31, c32, c33, f30, f31, f32, f33⟩ := h3.out.all4; have l3 := h3.out.lt; have n3 := Nat.ne_of_lt l3; have h4 := Lib.hid (blkThru hb (by repeat (first | with_reducible exact Blk.new _ _ 27 | with_reducible apply Blk.alloc))); obtain ⟨c40, c41, c42, c43, f40, f41, f42, f43⟩ := h4.out.all4; have l4 := h4.out.lt; have n4 := Nat.ne_of_lt l4; clear hb; have s3 := Lib.hid trivial)
    | (go_at_call 28; (have q := s3; clear q); (fail_if_success (have q := s4)); refine (C8.out _).mono ?_; rintro e w4 ⟨rfl, hb⟩; dsimp only [mv]; have lx := hW.out.size; have hx := Lib.hid (belowStep (w := w) hb (by repeat (first | with_reducible exact hW.out | with_reducible refine Below.setCell ?_ (by first | omega | (simp; done) | (simp; omega)) _ | with_reducible refine Below.alloc ?_ (by first | omega | (simp; done) | (simp; omega)) _ | with_reducible refine Below.drew ?_))); clear hW lx; have hW := hx; clear hx; have lx := h1.out.lt; have hx := Lib.hid (blkThru2 (h1.out) (hb := hb) (by intro q; repeat (first | with_reducible exact q | with_reducible refine Blk.far ?_ _ _ (by first | omega | (simp; done) | (simp; omega)) | with_reducible refine Blk.alloc ?_ _ | with_reducible refine Blk.drew ?_))); clear c10 c11 c12 c13 f10 f11 f12 f13 l1 n1 lx h1; have h1 := hx; clear hx; obtain ⟨c10, c11, c12, c13, f10, f11, f12, f13⟩ := h1.out.all4; have l1 := h1.out.lt; have n1 := Nat.ne_of_lt l1; have lx := h2.out.lt; have hx := Lib.hid (blkThru2 (h2.out) (hb := hb) (by intro q; repeat (first | with_reducible exact q | with_reducible refine Blk.far ?_ _ _ (by first | omega | (simp; done) | (simp; omega)) | with_reducible refine Blk.alloc ?_ _ | with_reducible refine Blk.drew ?_))); clear c20 c21 c22 c23 f20 f21 f22 f23 l2 n2 lx h2; have h2 := hx; clear hx; obtain ⟨c20, c21, c22, c23, f20, f21, f22, f23⟩ := h2.out.all4; have l2 := h2.out.lt; have n2 := Nat.ne_of_lt l2; have lx := h3.out.lt; have hx := Lib.hid (blkThru2 (h3.out) (hb := hb) (by intro q; repeat (first | with_reducible exact q | with_reducible refine Blk.far ?_ _ _ (by first | omega | (simp; done) | (simp; omega)) | with_reducible refine Blk.alloc ?_ _ | with_reducible refine Blk.drew ?_))); clear c30 c31 c32 c33 f30 f31 f32 f33 l3 n3 lx h3; have h3 := hx; clear hx; obtain ⟨c30, c31, c32, c33, f30, f31, f32, f33⟩ := h3.out.all4; have l3 := h3.out.lt; have n3 := Nat.ne_of_lt l3; have lx := h4.out.lt; have hx := Lib.hid (blkThru2 (h4.out) (hb := hb) (by intro q; repeat (first | with_reducible exact q | with_reducible refine Blk.far ?_ _ _ (by first | omega | (simp; done) | (simp; omega)) | with_reducible refine Blk.alloc ?_ _ | with_reducible refine Blk.drew ?_))); clear c40 c41 c42 c43 f40 f41 f42 f43 l4 n4 lx h4; have h4 := hx; clear hx; obtain ⟨c40, c41, c42, c43, f40, f41, f42, f43⟩ := h4.out.all4; have l4 := h4.out.lt; have n4 := Nat.ne_of_lt l4; have h5 := Lib.hid (blkThru hb (by repeat (first | with_reducible exact Blk.new _ _ 27 | with_reducible apply Blk.alloc))); obtain ⟨c50, c51, c52, c53, f50, f51, f52, f53⟩ := h5.out.all4; have l5 := h5.out.lt; have n5 := Nat.ne_of_lt l5; clear hb; have s4 := Lib.hid trivial))
  have g1 := Lib.hid (h1.out.alloc (.cells #[.int .u64 L.1.1, .int .u64 L.1.2.1, .int .u64 L.1.2.2.1, .int .u64 L.1.2.2.2] 24))
  have g2 := Lib.hid (h2.out.alloc (.cells #[.int .u64 L.1.1, .int .u64 L.1.2.1, .int .u64 L.1.2.2.1, .int .u64 L.1.2.2.2] 24))
  have g3 := Lib.hid (h3.out.alloc (.cells #[.int .u64 L.1.1, .int .u64 L.1.2.1, .int .u64 L.1.2.2.1, .int .u64 L.1.2.2.2] 24))
  have g4 := Lib.hid (h4.out.alloc (.cells #[.int .u64 L.1.1, .int .u64 L.1.2.1, .int .u64 L.1.2.2.1, .int .u64 L.1.2.2.2] 24))
  have g5 := Lib.hid (h5.out.alloc (.cells #[.int .u64 L.1.1, .int .u64 L.1.2.1, .int .u64 L.1.2.2.1, .int .u64 L.1.2.2.2] 24))
  have g6 := Lib.hid (Blk.new w4 #[.int .u64 L.1.1, .int .u64 L.1.2.1, .int .u64 L.1.2.2.1, .int .u64 L.1.2.2.2] 24)
  have gW := Lib.hid (hW.out.alloc hW.out.size (.cells #[.int .u64 L.1.1, .int .u64 L.1.2.1, .int .u64 L.1.2.2.1, .int .u64 L.1.2.2.2] 24))
  clear h1 h2 h3 h4 h5 hW
  clear c10 c11 c12 c13 f10 f11 f12 f13 l1 n1
  clear c20 c21 c22 c23 f20 f21 f22 f23 l2 n2
  clear c30 c31 c32 c33 f30 f31 f32 f33 l3 n3
  clear c40 c41 c42 c43 f40 f41 f42 f43 l4 n4
  clear c50 c51 c52 c53 f50 f51 f52 f53 l5 n5
  obtain ⟨W0, hT⟩ : ∃ W0, w4.alloc (.cells #[.int .u64 L.1.1, .int .u64 L.1.2.1, .int .u64 L.1.2.2.1, .int .u64 L.1.2.2.2] 24) = W0 := ⟨_, rfl⟩
  rw [hT] at g1 g2 g3 g4 g5 g6 gW ⊢
  clear hT
  obtain ⟨c10, c11, c12, c13, f10, f11, f12, f13⟩ := g1.out.all4; have l1 := g1.out.lt; clear f10 f11 f12 f13
  obtain ⟨c20, c21, c22, c23, f20, f21, f22, f23⟩ := g2.out.all4; have l2 := g2.out.lt; clear f20 f21 f22 f23
  obtain ⟨c30, c31, c32, c33, f30, f31, f32, f33⟩ := g3.out.all4; have l3 := g3.out.lt; clear f30 f31 f32 f33
  obtain ⟨c40, c41, c42, c43, f40, f41, f42, f43⟩ := g4.out.all4; have l4 := g4.out.lt; clear f40 f41 f42 f43
  obtain ⟨c50, c51, c52, c53, f50, f51, f52, f53⟩ := g5.out.all4; have l5 := g5.out.lt; clear f50 f51 f52 f53
  obtain ⟨c60, c61, c62, c63, f60, f61, f62, f63⟩ := g6.out.all4; have l6 := g6.out.lt; clear f60 f61 f62 f63
  refine wp_region_each (S := Below W0.heap.size W0) (by kernel_rfl) ((Below.refl _ _).drew) ?_
  refine each_take (i := 0) (oi := { dst := some 29, op := Go.Op.load 27 (Go.Operand.tmp 7), type := 27, pos := "law.go:51", after := #[], guard := none }) (v := _) rfl (by kernel_rfl) (by kernel_rfl) (by kernel_rfl) (fun _ _ _ h => h) (by first
  | exact Or.inr ⟨by rfl, rfl⟩
  | (refine Or.inl ⟨by rfl, fun W hS => ?_⟩; obtain ⟨hc, hf⟩ := bcell hS; go_simp; exact ⟨rfl, hS⟩)) ?_
  simp only [Act.put, List.setIfInBounds_toArray, List.set_cons_zero, List.set_cons_succ]
  refine each_take (i := 1) (oi := { dst := some 30, op := Go.Op.load 27 (Go.Operand.tmp 8), type := 27, pos := "law.go:51", after := #[], guard := none }) (v := _) rfl (by kernel_rfl) (by kernel_rfl) (by kernel_rfl) (fun _ _ _ h => h) (by first
  | exact Or.inr ⟨by rfl, rfl⟩
  | (refine Or.inl ⟨by rfl, fun W hS => ?_⟩; obtain ⟨hc, hf⟩ := bcell hS; go_simp; exact ⟨rfl, hS⟩)) ?_
  simp only [Act.put, List.setIfInBounds_toArray, List.set_cons_zero, List.set_cons_succ]
  refine each_take (i := 2) (oi := { dst := some 31, op := Go.Op.call { callee := Go.Callee.value (Go.Operand.func 29), args := #[Go.Operand.tmp 29, Go.Operand.tmp 30], argTypes := #[27, 27] }, type := 27, pos := "law.go:51", after := #[{ on := 0, ground := Go.Ground.data }, { on := 1, ground := Go.Ground.data }], guard := none }) (v := _) rfl (by kernel_rfl) (by kernel_rfl) (by kernel_rfl) (fun _ _ _ h => h) (by first
  | exact Or.inr ⟨by rfl, rfl⟩
  | (refine Or.inl ⟨by rfl, fun W hS => ?_⟩; go_simp; show Calls _ _ _ _ _; refine (C1.out _).mono ?_; rintro e w9 ⟨rfl, hb⟩; dsimp only [mv]; exact ⟨rfl, hS.trans (hb.mono hS.size)⟩)) ?_
  simp only [Act.put, List.setIfInBounds_toArray, List.set_cons_zero, List.set_cons_succ]
  refine each_take (i := 3) (oi := { dst := some 32, op := Go.Op.call { callee := Go.Callee.value (Go.Operand.func 21), args := #[Go.Operand.tmp 31], argTypes := #[27] }, type := 24, pos := "law.go:51", after := #[{ on := 2, ground := Go.Ground.data }, { on := 2, ground := Go.Ground.chain }], guard := none }) (v := _) rfl (by kernel_rfl) (by kernel_rfl) (by kernel_rfl) (fun _ _ _ h => h) (by first
  | exact Or.inr ⟨by rfl, rfl⟩
  | (refine Or.inl ⟨by rfl, fun W hS => ?_⟩; go_simp; show Calls _ _ _ _ _; refine (told_any _ _ _ _ _).mono ?_; rintro e w9 ⟨rfl, hb⟩; exact ⟨rfl, hS.trans (hb.mono hS.size)⟩)) ?_
  simp only [Act.put, List.setIfInBounds_toArray, List.set_cons_zero, List.set_cons_succ]
  refine each_take (i := 4) (oi := { dst := some 33, op := Go.Op.load 24 (Go.Operand.tmp 3), type := 24, pos := "law.go:51", after := #[], guard := none }) (v := _) rfl (by kernel_rfl) (by kernel_rfl) (by kernel_rfl) (fun _ _ _ h => h) (by first
  | exact Or.inr ⟨by rfl, rfl⟩
  | (refine Or.inl ⟨by rfl, fun W hS => ?_⟩; obtain ⟨hc, hf⟩ := bcell hS; go_simp; exact ⟨rfl, hS⟩)) ?_
  simp only [Act.put, List.setIfInBounds_toArray, List.set_cons_zero, List.set_cons_succ]
  refine each_take (i := 5) (oi := { dst := some 34, op := Go.Op.load 24 (Go.Operand.tmp 4), type := 24, pos := "law.go:51", after := #[], guard := none }) (v := _) rfl (by kernel_rfl) (by kernel_rfl) (by kernel_rfl) (fun _ _ _ h => h) (by first
  | exact Or.inr ⟨by rfl, rfl⟩
  | (refine Or.inl ⟨by rfl, fun W hS => ?_⟩; obtain ⟨hc, hf⟩ := bcell hS; go_simp; exact ⟨rfl, hS⟩)) ?_
  simp only [Act.put, List.setIfInBounds_toArray, List.set_cons_zero, List.set_cons_succ]
  refine each_take (i := 6) (oi := { dst := some 35, op := Go.Op.call { callee := Go.Callee.value (Go.Operand.func 30), args := #[Go.Operand.tmp 33, Go.Operand.tmp 34], argTypes := #[24, 24] }, type := 24, pos := "law.go:51", after := #[{ on := 4, ground := Go.Ground.data }, { on := 5, ground := Go.Ground.data }, { on := 3, ground := Go.Ground.chain }], guard := none }) (v := _) rfl (by kernel_rfl) (by kernel_rfl) (by kernel_rfl) (fun _ _ _ h => h) (by first
  | exact Or.inr ⟨by rfl, rfl⟩
  | (refine Or.inl ⟨by rfl, fun W hS => ?_⟩; go_simp; show Calls _ _ _ _ _; refine (C2.out _).mono ?_; rintro e w9 ⟨rfl, hb⟩; dsimp only [mv]; exact ⟨rfl, hS.trans (hb.mono hS.size)⟩)) ?_
  simp only [Act.put, List.setIfInBounds_toArray, List.set_cons_zero, List.set_cons_succ]
  refine each_take (i := 7) (oi := { dst := some 36, op := Go.Op.binOp Go.BinOp.eql 24 (Go.Operand.tmp 32) (Go.Operand.tmp 35) 24, type := 4, pos := "law.go:51", after := #[{ on := 3, ground := Go.Ground.data }, { on := 6, ground := Go.Ground.data }], guard := none }) (v := _) rfl (by kernel_rfl) (by kernel_rfl) (by kernel_rfl) (fun _ _ _ h => h) (by first
  | exact Or.inr ⟨by rfl, rfl⟩
  | (refine Or.inl ⟨by rfl, fun W hS => ?_⟩; obtain ⟨hc, hf⟩ := bcell hS; go_simp; exact ⟨rfl, hS⟩)) ?_
  simp only [Act.put, List.setIfInBounds_toArray, List.set_cons_zero, List.set_cons_succ]
  refine each_take (i := 8) (oi := { dst := some 37, op := Go.Op.move (Go.Operand.tmp 36), type := 4, pos := "law.go:51", after := #[{ on := 7, ground := Go.Ground.data }, { on := 6, ground := Go.Ground.chain }], guard := none }) (v := _) rfl (by kernel_rfl) (by kernel_rfl) (by kernel_rfl) (fun _ _ _ h => h) (by first
  | exact Or.inr ⟨by rfl, rfl⟩
  | (refine Or.inl ⟨by rfl, fun W hS => ?_⟩; obtain ⟨hc, hf⟩ := bcell hS; go_simp; exact ⟨rfl, hS⟩)) ?_
  simp only [Act.put, List.setIfInBounds_toArray, List.set_cons_zero, List.set_cons_succ]
  refine each_take (i := 9) (oi := { dst := some 38, op := Go.Op.load 27 (Go.Operand.tmp 7), type := 27, pos := "law.go:51", after := #[{ on := 8, ground := Go.Ground.guard }], guard := some (8, true) }) (v := _) rfl (by kernel_rfl) (by kernel_rfl) (by kernel_rfl) (fun _ _ _ h => h) (by first
  | exact Or.inr ⟨by rfl, rfl⟩
  | (refine Or.inl ⟨by rfl, fun W hS => ?_⟩; obtain ⟨hc, hf⟩ := bcell hS; go_simp; exact ⟨rfl, hS⟩)) ?_
  simp only [Act.put, List.setIfInBounds_toArray, List.set_cons_zero, List.set_cons_succ]
  refine each_take (i := 10) (oi := { dst := some 39, op := Go.Op.load 27 (Go.Operand.tmp 8), type := 27, pos := "law.go:51", after := #[{ on := 8, ground := Go.Ground.guard }], guard := some (8, true) }) (v := _) rfl (by kernel_rfl) (by kernel_rfl) (by kernel_rfl) (fun _ _ _ h => h) (by first
  | exact Or.inr ⟨by rfl, rfl⟩
  | (refine Or.inl ⟨by rfl, fun W hS => ?_⟩; obtain ⟨hc, hf⟩ := bcell hS; go_simp; exact ⟨rfl, hS⟩)) ?_
  simp only [Act.put, List.setIfInBounds_toArray, List.set_cons_zero, List.set_cons_succ]
  refine each_take (i := 11) (oi := { dst := some 40, op := Go.Op.call { callee := Go.Callee.value (Go.Operand.func 31), args := #[Go.Operand.tmp 38, Go.Operand.tmp 39], argTypes := #[27, 27] }, type := 27, pos := "law.go:51", after := #[{ on := 9, ground := Go.Ground.data }, { on := 10, ground := Go.Ground.data }, { on := 8, ground := Go.Ground.chain }, { on := 8, ground := Go.Ground.guard }], guard := some (8, true) }) (v := _) rfl (by kernel_rfl) (by kernel_rfl) (by kernel_rfl) (fun _ _ _ h => h) (by first
  | exact Or.inr ⟨by rfl, rfl⟩
  | (refine Or.inl ⟨by rfl, fun W hS => ?_⟩; go_simp; show Calls _ _ _ _ _; refine (C3.out _).mono ?_; rintro e w9 ⟨rfl, hb⟩; dsimp only [mv]; exact ⟨rfl, hS.trans (hb.mono hS.size)⟩)) ?_
  simp only [Act.put, List.setIfInBounds_toArray, List.set_cons_zero, List.set_cons_succ]
  refine each_take (i := 12) (oi := { dst := some 41, op := Go.Op.call { callee := Go.Callee.value (Go.Operand.func 21), args := #[Go.Operand.tmp 40], argTypes := #[27] }, type := 24, pos := "law.go:51", after := #[{ on := 11, ground := Go.Ground.data }, { on := 11, ground := Go.Ground.chain }, { on := 8, ground := Go.Ground.guard }], guard := some (8, true) }) (v := _) rfl (by kernel_rfl) (by kernel_rfl) (by kernel_rfl) (fun _ _ _ h => h) (by first
  | exact Or.inr ⟨by rfl, rfl⟩
  | (refine Or.inl ⟨by rfl, fun W hS => ?_⟩; go_simp; show Calls _ _ _ _ _; refine (told_any _ _ _ _ _).mono ?_; rintro e w9 ⟨rfl, hb⟩; exact ⟨rfl, hS.trans (hb.mono hS.size)⟩)) ?_
  simp only [Act.put, List.setIfInBounds_toArray, List.set_cons_zero, List.set_cons_succ]
  refine each_take (i := 13) (oi := { dst := some 42, op := Go.Op.load 24 (Go.Operand.tmp 3), type := 24, pos := "law.go:51", after := #[{ on := 8, ground := Go.Ground.guard }], guard := some (8, true) }) (v := _) rfl (by kernel_rfl) (by kernel_rfl) (by kernel_rfl) (fun _ _ _ h => h) (by first
  | exact Or.inr ⟨by rfl, rfl⟩
  | (refine Or.inl ⟨by rfl, fun W hS => ?_⟩; obtain ⟨hc, hf⟩ := bcell hS; go_simp; exact ⟨rfl, hS⟩)) ?_
  simp only [Act.put, List.setIfInBounds_toArray, List.set_cons_zero, List.set_cons_succ]
  refine each_take (i := 14) (oi := { dst := some 43, op := Go.Op.load 24 (Go.Operand.tmp 4), type := 24, pos := "law.go:51", after := #[{ on := 8, ground := Go.Ground.guard }], guard := some (8, true) }) (v := _) rfl (by kernel_rfl) (by kernel_rfl) (by kernel_rfl) (fun _ _ _ h => h) (by first
  | exact Or.inr ⟨by rfl, rfl⟩
  | (refine Or.inl ⟨by rfl, fun W hS => ?_⟩; obtain ⟨hc, hf⟩ := bcell hS; go_simp; exact ⟨rfl, hS⟩)) ?_
  simp only [Act.put, List.setIfInBounds_toArray, List.set_cons_zero, List.set_cons_succ]
  refine each_take (i := 15) (oi := { dst := some 44, op := Go.Op.call { callee := Go.Callee.value (Go.Operand.func 32), args := #[Go.Operand.tmp 42, Go.Operand.tmp 43], argTypes := #[24, 24] }, type := 24, pos := "law.go:51", after := #[{ on := 13, ground := Go.Ground.data }, { on := 14, ground := Go.Ground.data }, { on := 12, ground := Go.Ground.chain }, { on := 8, ground := Go.Ground.guard }], guard := some (8, true) }) (v := _) rfl (by kernel_rfl) (by kernel_rfl) (by kernel_rfl) (fun _ _ _ h => h) (by first
  | exact Or.inr ⟨by rfl, rfl⟩
  | (refine Or.inl ⟨by rfl, fun W hS => ?_⟩; go_simp; show Calls _ _ _ _ _; refine (C4.out _).mono ?_; rintro e w9 ⟨rfl, hb⟩; dsimp only [mv]; exact ⟨rfl, hS.trans (hb.mono hS.size)⟩)) ?_
  simp only [Act.put, List.setIfInBounds_toArray, List.set_cons_zero, List.set_cons_succ]
  refine each_take (i := 16) (oi := { dst := some 45, op := Go.Op.binOp Go.BinOp.eql 24 (Go.Operand.tmp 41) (Go.Operand.tmp 44) 24, type := 4, pos := "law.go:51", after := #[{ on := 12, ground := Go.Ground.data }, { on := 15, ground := Go.Ground.data }, { on := 8, ground := Go.Ground.guard }], guard := some (8, true) }) (v := _) rfl (by kernel_rfl) (by kernel_rfl) (by kernel_rfl) (fun _ _ _ h => h) (by first
  | exact Or.inr ⟨by rfl, rfl⟩
  | (refine Or.inl ⟨by rfl, fun W hS => ?_⟩; obtain ⟨hc, hf⟩ := bcell hS; go_simp; exact ⟨rfl, hS⟩)) ?_
  simp only [Act.put, List.setIfInBounds_toArray, List.set_cons_zero, List.set_cons_succ]
  refine each_take (i := 17) (oi := { dst := some 46, op := Go.Op.pick (Go.Operand.tmp 37) (Go.Operand.tmp 45) (Go.Operand.const (Go.Value.bool false)), type := 4, pos := "law.go:51", after := #[{ on := 8, ground := Go.Ground.data }, { on := 16, ground := Go.Ground.data }], guard := none }) (v := _) rfl (by kernel_rfl) (by kernel_rfl) (by kernel_rfl) (fun _ _ _ h => h) (by first
  | exact Or.inr ⟨by rfl, rfl⟩
  | (refine Or.inl ⟨by rfl, fun W hS => ?_⟩; obtain ⟨hc, hf⟩ := bcell hS; go_simp; exact ⟨rfl, hS⟩)) ?_
  simp only [Act.put, List.setIfInBounds_toArray, List.set_cons_zero, List.set_cons_succ]
  refine each_take (i := 18) (oi := { dst := some 47, op := Go.Op.move (Go.Operand.tmp 46), type := 4, pos := "law.go:51", after := #[{ on := 17, ground := Go.Ground.data }, { on := 15, ground := Go.Ground.chain }], guard := none }) (v := _) rfl (by kernel_rfl) (by kernel_rfl) (by kernel_rfl) (fun _ _ _ h => h) (by first
  | exact Or.inr ⟨by rfl, rfl⟩
  | (refine Or.inl ⟨by rfl, fun W hS => ?_⟩; obtain ⟨hc, hf⟩ := bcell hS; go_simp; exact ⟨rfl, hS⟩)) ?_
  simp only [Act.put, List.setIfInBounds_toArray, List.set_cons_zero, List.set_cons_succ]
  refine each_take (i := 19) (oi := { dst := some 48, op := Go.Op.load 27 (Go.Operand.tmp 7), type := 27, pos := "law.go:51", after := #[{ on := 18, ground := Go.Ground.guard }], guard := some (18, true) }) (v := _) rfl (by kernel_rfl) (by kernel_rfl) (by kernel_rfl) (fun _ _ _ h => h) (by first
  | exact Or.inr ⟨by rfl, rfl⟩
  | (refine Or.inl ⟨by rfl, fun W hS => ?_⟩; obtain ⟨hc, hf⟩ := bcell hS; go_simp; exact ⟨rfl, hS⟩)) ?_
  simp only [Act.put, List.setIfInBounds_toArray, List.set_cons_zero, List.set_cons_succ]
  refine each_take (i := 20) (oi := { dst := some 49, op := Go.Op.load 27 (Go.Operand.tmp 8), type := 27, pos := "law.go:51", after := #[{ on := 18, ground := Go.Ground.guard }], guard := some (18, true) }) (v := _) rfl (by kernel_rfl) (by kernel_rfl) (by kernel_rfl) (fun _ _ _ h => h) (by first
  | exact Or.inr ⟨by rfl, rfl⟩
  | (refine Or.inl ⟨by rfl, fun W hS => ?_⟩; obtain ⟨hc, hf⟩ := bcell hS; go_simp; exact ⟨rfl, hS⟩)) ?_
  simp only [Act.put, List.setIfInBounds_toArray, List.set_cons_zero, List.set_cons_succ]
  refine each_take (i := 21) (oi := { dst := some 50, op := Go.Op.call { callee := Go.Callee.value (Go.Operand.func 27), args := #[Go.Operand.tmp 48, Go.Operand.tmp 49], argTypes := #[27, 27] }, type := 27, pos := "law.go:51", after := #[{ on := 19, ground := Go.Ground.data }, { on := 20, ground := Go.Ground.data }, { on := 18, ground := Go.Ground.chain }, { on := 18, ground := Go.Ground.guard }], guard := some (18, true) }) (v := _) rfl (by kernel_rfl) (by kernel_rfl) (by kernel_rfl) (fun _ _ _ h => h) (by first
  | exact Or.inr ⟨by rfl, rfl⟩
  | (refine Or.inl ⟨by rfl, fun W hS => ?_⟩; go_simp; show Calls _ _ _ _ _; refine (C5.out _).mono ?_; rintro e w9 ⟨rfl, hb⟩; dsimp only [mv]; exact ⟨rfl, hS.trans (hb.mono hS.size)⟩)) ?_
  simp only [Act.put, List.setIfInBounds_toArray, List.set_cons_zero, List.set_cons_succ]
  refine each_take (i := 22) (oi := { dst := some 51, op := Go.Op.call { callee := Go.Callee.value (Go.Operand.func 21), args := #[Go.Operand.tmp 50], argTypes := #[27] }, type := 24, pos := "law.go:51", after := #[{ on := 21, ground := Go.Ground.data }, { on := 21, ground := Go.Ground.chain }, { on := 18, ground := Go.Ground.guard }], guard := some (18, true) }) (v := _) rfl (by kernel_rfl) (by kernel_rfl) (by kernel_rfl) (fun _ _ _ h => h) (by first
  | exact Or.inr ⟨by rfl, rfl⟩
  | (refine Or.inl ⟨by rfl, fun W hS => ?_⟩; go_simp; show Calls _ _ _ _ _; refine (told_any _ _ _ _ _).mono ?_; rintro e w9 ⟨rfl, hb⟩; exact ⟨rfl, hS.trans (hb.mono hS.size)⟩)) ?_
  simp only [Act.put, List.setIfInBounds_toArray, List.set_cons_zero, List.set_cons_succ]
  refine each_take (i := 23) (oi := { dst := some 52, op := Go.Op.load 24 (Go.Operand.tmp 3), type := 24, pos := "law.go:51", after := #[{ on := 18, ground := Go.Ground.guard }], guard := some (18, true) }) (v := _) rfl (by kernel_rfl) (by kernel_rfl) (by kernel_rfl) (fun _ _ _ h => h) (by first
  | exact Or.inr ⟨by rfl, rfl⟩
  | (refine Or.inl ⟨by rfl, fun W hS => ?_⟩; obtain ⟨hc, hf⟩ := bcell hS; go_simp; exact ⟨rfl, hS⟩)) ?_
  simp only [Act.put, List.setIfInBounds_toArray, List.set_cons_zero, List.set_cons_succ]
  refine each_take (i := 24) (oi := { dst := some 53, op := Go.Op.load 24 (Go.Operand.tmp 4), type := 24, pos := "law.go:51", after := #[{ on := 18, ground := Go.Ground.guard }], guard := some (18, true) }) (v := _) rfl (by kernel_rfl) (by kernel_rfl) (by kernel_rfl) (fun _ _ _ h => h) (by first
  | exact Or.inr ⟨by rfl, rfl⟩
  | (refine Or.inl ⟨by rfl, fun W hS => ?_⟩; obtain ⟨hc, hf⟩ := bcell hS; go_simp; exact ⟨rfl, hS⟩)) ?_
  simp only [Act.put, List.setIfInBounds_toArray, List.set_cons_zero, List.set_cons_succ]
  refine each_take (i := 25) (oi := { dst := some 54, op := Go.Op.call { callee := Go.Callee.value (Go.Operand.func 33), args := #[Go.Operand.tmp 52, Go.Operand.tmp 53], argTypes := #[24, 24] }, type := 24, pos := "law.go:51", after := #[{ on := 23, ground := Go.Ground.data }, { on := 24, ground := Go.Ground.data }, { on := 22, ground := Go.Ground.chain }, { on := 18, ground := Go.Ground.guard }], guard := some (18, true) }) (v := _) rfl (by kernel_rfl) (by kernel_rfl) (by kernel_rfl) (fun _ _ _ h => h) (by first
  | exact Or.inr ⟨by rfl, rfl⟩
  | (refine Or.inl ⟨by rfl, fun W hS => ?_⟩; go_simp; show Calls _ _ _ _ _; refine (C6.out _).mono ?_; rintro e w9 ⟨rfl, hb⟩; dsimp only [mv]; exact ⟨rfl, hS.trans (hb.mono hS.size)⟩)) ?_
  simp only [Act.put, List.setIfInBounds_toArray, List.set_cons_zero, List.set_cons_succ]
  refine each_take (i := 26) (oi := { dst := some 55, op := Go.Op.binOp Go.BinOp.eql 24 (Go.Operand.tmp 51) (Go.Operand.tmp 54) 24, type := 4, pos := "law.go:51", after := #[{ on := 22, ground := Go.Ground.data }, { on := 25, ground := Go.Ground.data }, { on := 18, ground := Go.Ground.guard }], guard := some (18, true) }) (v := _) rfl (by kernel_rfl) (by kernel_rfl) (by kernel_rfl) (fun _ _ _ h => h) (by first
  | exact Or.inr ⟨by rfl, rfl⟩
  | (refine Or.inl ⟨by rfl, fun W hS => ?_⟩; obtain ⟨hc, hf⟩ := bcell hS; go_simp; exact ⟨rfl, hS⟩)) ?_
  simp only [Act.put, List.setIfInBounds_toArray, List.set_cons_zero, List.set_cons_succ]
  refine each_take (i := 27) (oi := { dst := some 56, op := Go.Op.pick (Go.Operand.tmp 47) (Go.Operand.tmp 55) (Go.Operand.const (Go.Value.bool false)), type := 4, pos := "law.go:51", after := #[{ on := 18, ground := Go.Ground.data }, { on := 26, ground := Go.Ground.data }], guard := none }) (v := _) rfl (by kernel_rfl) (by kernel_rfl) (by kernel_rfl) (fun _ _ _ h => h) (by first
  | exact Or.inr ⟨by rfl, rfl⟩
  | (refine Or.inl ⟨by rfl, fun W hS => ?_⟩; obtain ⟨hc, hf⟩ := bcell hS; go_simp; exact ⟨rfl, hS⟩)) ?_
  simp only [Act.put, List.setIfInBounds_toArray, List.set_cons_zero, List.set_cons_succ]
  refine each_take (i := 28) (oi := { dst := some 57, op := Go.Op.move (Go.Operand.tmp 56), type := 4, pos := "law.go:51", after := #[{ on := 27, ground := Go.Ground.data }, { on := 25, ground := Go.Ground.chain }], guard := none }) (v := _) rfl (by kernel_rfl) (by kernel_rfl) (by kernel_rfl) (fun _ _ _ h => h) (by first
  | exact Or.inr ⟨by rfl, rfl⟩
  | (refine Or.inl ⟨by rfl, fun W hS => ?_⟩; obtain ⟨hc, hf⟩ := bcell hS; go_simp; exact ⟨rfl, hS⟩)) ?_
  simp only [Act.put, List.setIfInBounds_toArray, List.set_cons_zero, List.set_cons_succ]
  refine each_take (i := 29) (oi := { dst := some 58, op := Go.Op.load 27 (Go.Operand.tmp 9), type := 27, pos := "law.go:51", after := #[{ on := 28, ground := Go.Ground.guard }], guard := some (28, true) }) (v := _) rfl (by kernel_rfl) (by kernel_rfl) (by kernel_rfl) (fun _ _ _ h => h) (by first
  | exact Or.inr ⟨by rfl, rfl⟩
  | (refine Or.inl ⟨by rfl, fun W hS => ?_⟩; obtain ⟨hc, hf⟩ := bcell hS; go_simp; exact ⟨rfl, hS⟩)) ?_
  simp only [Act.put, List.setIfInBounds_toArray, List.set_cons_zero, List.set_cons_succ]
  refine each_take (i := 30) (oi := { dst := some 59, op := Go.Op.call { callee := Go.Callee.value (Go.Operand.func 21), args := #[Go.Operand.tmp 58], argTypes := #[27] }, type := 24, pos := "law.go:51", after := #[{ on := 29, ground := Go.Ground.data }, { on := 28, ground := Go.Ground.chain }, { on := 28, ground := Go.Ground.guard }], guard := some (28, true) }) (v := _) rfl (by kernel_rfl) (by kernel_rfl) (by kernel_rfl) (fun _ _ _ h => h) (by first
  | exact Or.inr ⟨by rfl, rfl⟩
  | (refine Or.inl ⟨by rfl, fun W hS => ?_⟩; go_simp; show Calls _ _ _ _ _; refine (told_any _ _ _ _ _).mono ?_; rintro e w9 ⟨rfl, hb⟩; exact ⟨rfl, hS.trans (hb.mono hS.size)⟩)) ?_
  simp only [Act.put, List.setIfInBounds_toArray, List.set_cons_zero, List.set_cons_succ]
  refine each_take (i := 31) (oi := { dst := some 60, op := Go.Op.load 24 (Go.Operand.tmp 11), type := 24, pos := "law.go:51", after := #[{ on := 28, ground := Go.Ground.guard }], guard := some (28, true) }) (v := _) rfl (by kernel_rfl) (by kernel_rfl) (by kernel_rfl) (fun _ _ _ h => h) (by first
  | exact Or.inr ⟨by rfl, rfl⟩
  | (refine Or.inl ⟨by rfl, fun W hS => ?_⟩; obtain ⟨hc, hf⟩ := bcell hS; go_simp; exact ⟨rfl, hS⟩)) ?_
  simp only [Act.put, List.setIfInBounds_toArray, List.set_cons_zero, List.set_cons_succ]
  refine each_take (i := 32) (oi := { dst := some 61, op := Go.Op.binOp Go.BinOp.eql 24 (Go.Operand.tmp 59) (Go.Operand.tmp 60) 24, type := 4, pos := "law.go:51", after := #[{ on := 30, ground := Go.Ground.data }, { on := 31, ground := Go.Ground.data }, { on := 28, ground := Go.Ground.guard }], guard := some (28, true) }) (v := _) rfl (by kernel_rfl) (by kernel_rfl) (by kernel_rfl) (fun _ _ _ h => h) (by first
  | exact Or.inr ⟨by rfl, rfl⟩
  | (refine Or.inl ⟨by rfl, fun W hS => ?_⟩; obtain ⟨hc, hf⟩ := bcell hS; go_simp; exact ⟨rfl, hS⟩)) ?_
  simp only [Act.put, List.setIfInBounds_toArray, List.set_cons_zero, List.set_cons_succ]
  refine each_take (i := 33) (oi := { dst := some 62, op := Go.Op.pick (Go.Operand.tmp 57) (Go.Operand.tmp 61) (Go.Operand.const (Go.Value.bool false)), type := 4, pos := "law.go:51", after := #[{ on := 28, ground := Go.Ground.data }, { on := 32, ground := Go.Ground.data }], guard := none }) (v := _) rfl (by kernel_rfl) (by kernel_rfl) (by kernel_rfl) (fun _ _ _ h => h) (by first
  | exact Or.inr ⟨by rfl, rfl⟩
  | (refine Or.inl ⟨by rfl, fun W hS => ?_⟩; obtain ⟨hc, hf⟩ := bcell hS; go_simp; exact ⟨rfl, hS⟩)) ?_
  simp only [Act.put, List.setIfInBounds_toArray, List.set_cons_zero, List.set_cons_succ]
  refine each_take (i := 34) (oi := { dst := some 63, op := Go.Op.move (Go.Operand.tmp 62), type := 4, pos := "law.go:51", after := #[{ on := 33, ground := Go.Ground.data }, { on := 30, ground := Go.Ground.chain }], guard := none }) (v := _) rfl (by kernel_rfl) (by kernel_rfl) (by kernel_rfl) (fun _ _ _ h => h) (by first
  | exact Or.inr ⟨by rfl, rfl⟩
  | (refine Or.inl ⟨by rfl, fun W hS => ?_⟩; obtain ⟨hc, hf⟩ := bcell hS; go_simp; exact ⟨rfl, hS⟩)) ?_
  simp only [Act.put, List.setIfInBounds_toArray, List.set_cons_zero, List.set_cons_succ]
  refine each_take (i := 35) (oi := { dst := some 64, op := Go.Op.move (Go.Operand.tmp 10), type := 29, pos := "law.go:51", after := #[{ on := 34, ground := Go.Ground.guard }], guard := some (34, true) }) (v := _) rfl (by kernel_rfl) (by kernel_rfl) (by kernel_rfl) (fun _ _ _ h => h) (by first
  | exact Or.inr ⟨by rfl, rfl⟩
  | (refine Or.inl ⟨by rfl, fun W hS => ?_⟩; obtain ⟨hc, hf⟩ := bcell hS; go_simp; exact ⟨rfl, hS⟩)) ?_
  simp only [Act.put, List.setIfInBounds_toArray, List.set_cons_zero, List.set_cons_succ]
  refine each_take (i := 36) (oi := { dst := some 65, op := Go.Op.move (Go.Operand.tmp 12), type := 29, pos := "law.go:51", after := #[{ on := 34, ground := Go.Ground.guard }], guard := some (34, true) }) (v := _) rfl (by kernel_rfl) (by kernel_rfl) (by kernel_rfl) (fun _ _ _ h => h) (by first
  | exact Or.inr ⟨by rfl, rfl⟩
  | (refine Or.inl ⟨by rfl, fun W hS => ?_⟩; obtain ⟨hc, hf⟩ := bcell hS; go_simp; exact ⟨rfl, hS⟩)) ?_
  simp only [Act.put, List.setIfInBounds_toArray, List.set_cons_zero, List.set_cons_succ]
  refine each_take (i := 37) (oi := { dst := some 66, op := Go.Op.binOp Go.BinOp.eql 29 (Go.Operand.tmp 64) (Go.Operand.tmp 65) 29, type := 4, pos := "law.go:51", after := #[{ on := 35, ground := Go.Ground.data }, { on := 36, ground := Go.Ground.data }, { on := 34, ground := Go.Ground.guard }], guard := some (34, true) }) (v := _) rfl (by kernel_rfl) (by kernel_rfl) (by kernel_rfl) (fun _ _ _ h => h) (by first
  | exact Or.inr ⟨by rfl, rfl⟩
  | (refine Or.inl ⟨by rfl, fun W hS => ?_⟩; obtain ⟨hc, hf⟩ := bcell hS; go_simp; exact ⟨rfl, hS⟩)) ?_
  simp only [Act.put, List.setIfInBounds_toArray, List.set_cons_zero, List.set_cons_succ]
  refine each_take (i := 38) (oi := { dst := some 67, op := Go.Op.pick (Go.Operand.tmp 63) (Go.Operand.tmp 66) (Go.Operand.const (Go.Value.bool false)), type := 4, pos := "law.go:51", after := #[{ on := 34, ground := Go.Ground.data }, { on := 37, ground := Go.Ground.data }], guard := none }) (v := _) rfl (by kernel_rfl) (by kernel_rfl) (by kernel_rfl) (fun _ _ _ h => h) (by first
  | exact Or.inr ⟨by rfl, rfl⟩
  | (refine Or.inl ⟨by rfl, fun W hS => ?_⟩; obtain ⟨hc, hf⟩ := bcell hS; go_simp; exact ⟨rfl, hS⟩)) ?_
  simp only [Act.put, List.setIfInBounds_toArray, List.set_cons_zero, List.set_cons_succ]
  refine each_take (i := 39) (oi := { dst := some 68, op := Go.Op.move (Go.Operand.tmp 67), type := 4, pos := "law.go:51", after := #[{ on := 38, ground := Go.Ground.data }, { on := 34, ground := Go.Ground.chain }], guard := none }) (v := _) rfl (by kernel_rfl) (by kernel_rfl) (by kernel_rfl) (fun _ _ _ h => h) (by first
  | exact Or.inr ⟨by rfl, rfl⟩
  | (refine Or.inl ⟨by rfl, fun W hS => ?_⟩; obtain ⟨hc, hf⟩ := bcell hS; go_simp; exact ⟨rfl, hS⟩)) ?_
  simp only [Act.put, List.setIfInBounds_toArray, List.set_cons_zero, List.set_cons_succ]
  refine each_take (i := 40) (oi := { dst := some 69, op := Go.Op.call { callee := Go.Callee.value (Go.Operand.func 9), args := #[], argTypes := #[] }, type := 4, pos := "law.go:51", after := #[{ on := 39, ground := Go.Ground.chain }, { on := 39, ground := Go.Ground.guard }], guard := some (39, true) }) (v := _) rfl (by kernel_rfl) (by kernel_rfl) (by kernel_rfl) (fun _ _ _ h => h) (by first
  | exact Or.inr ⟨by rfl, rfl⟩
  | (refine Or.inl ⟨by rfl, fun W hS => ?_⟩; go_simp; show Calls _ _ _ _ _; refine (live_any _ (HE.out.below (gW.out.trans (hS.mono gW.out.size)))).mono ?_; rintro e w9 ⟨rfl, hb⟩; exact ⟨rfl, hS.trans (hb.mono hS.size)⟩)) ?_
  simp only [Act.put, List.setIfInBounds_toArray, List.set_cons_zero, List.set_cons_succ]
  refine each_take (i := 41) (oi := { dst := some 70, op := Go.Op.pick (Go.Operand.tmp 68) (Go.Operand.tmp 69) (Go.Operand.const (Go.Value.bool false)), type := 4, pos := "law.go:51", after := #[{ on := 39, ground := Go.Ground.data }, { on := 40, ground := Go.Ground.data }], guard := none }) (v := _) rfl (by kernel_rfl) (by kernel_rfl) (by kernel_rfl) (fun _ _ _ h => h) (by first
  | exact Or.inr ⟨by rfl, rfl⟩
  | (refine Or.inl ⟨by rfl, fun W hS => ?_⟩; obtain ⟨hc, hf⟩ := bcell hS; go_simp; exact ⟨rfl, hS⟩)) ?_
  simp only [Act.put, List.setIfInBounds_toArray, List.set_cons_zero, List.set_cons_succ]
  refine each_take (i := 42) (oi := { dst := some 6, op := Go.Op.assign (Go.Operand.tmp 70), type := 4, pos := "law.go:51", after := #[{ on := 41, ground := Go.Ground.data }, { on := 40, ground := Go.Ground.chain }, { on := 0, ground := Go.Ground.phase }, { on := 1, ground := Go.Ground.phase }, { on := 2, ground := Go.Ground.phase }, { on := 3, ground := Go.Ground.phase }, { on := 4, ground := Go.Ground.phase }, { on := 5, ground := Go.Ground.phase }, { on := 6, ground := Go.Ground.phase }, { on := 7, ground := Go.Ground.phase }, { on := 8, ground := Go.Ground.phase }, { on := 9, ground := Go.Ground.phase }, { on := 10, ground := Go.Ground.phase }, { on := 11, ground := Go.Ground.phase }, { on := 12, ground := Go.Ground.phase }, { on := 13, ground := Go.Ground.phase }, { on := 14, ground := Go.Ground.phase }, { on := 15, ground := Go.Ground.phase }, { on := 16, ground := Go.Ground.phase }, { on := 17, ground := Go.Ground.phase }, { on := 18, ground := Go.Ground.phase }, { on := 19, ground := Go.Ground.phase }, { on := 20, ground := Go.Ground.phase }, { on := 21, ground := Go.Ground.phase }, { on := 22, ground := Go.Ground.phase }, { on := 23, ground := Go.Ground.phase }, { on := 24, ground := Go.Ground.phase }, { on := 25, ground := Go.Ground.phase }, { on := 26, ground := Go.Ground.phase }, { on := 27, ground := Go.Ground.phase }, { on := 28, ground := Go.Ground.phase }, { on := 29, ground := Go.Ground.phase }, { on := 30, ground := Go.Ground.phase }, { on := 31, ground := Go.Ground.phase }, { on := 32, ground := Go.Ground.phase }, { on := 33, ground := Go.Ground.phase }, { on := 34, ground := Go.Ground.phase }, { on := 35, ground := Go.Ground.phase }, { on := 36, ground := Go.Ground.phase }, { on := 37, ground := Go.Ground.phase }, { on := 38, ground := Go.Ground.phase }, { on := 39, ground := Go.Ground.phase }, { on := 40, ground := Go.Ground.phase }, { on := 41, ground := Go.Ground.phase }], guard := none }) (v := _) rfl (by kernel_rfl) (by kernel_rfl) (by kernel_rfl) (fun _ _ _ h => h) (by first
  | exact Or.inr ⟨by rfl, rfl⟩
  | (refine Or.inl ⟨by rfl, fun W hS => ?_⟩; obtain ⟨hc, hf⟩ := bcell hS; go_simp; exact ⟨rfl, hS⟩)) ?_
  simp only [Act.put, List.setIfInBounds_toArray, List.set_cons_zero, List.set_cons_succ]
  refine each_done (by kernel_rfl) (fun W hS => ?_) _
  go_wp2
  exact bodyPost_ret (v := .bool true) (by simp [results, Tryd.results7, go_sem]) rfl ⟨rfl, gW.out.trans (hS.mono gW.out.size)⟩
end Go.Proofs.YtbjeaebgnnljhaaDoor
