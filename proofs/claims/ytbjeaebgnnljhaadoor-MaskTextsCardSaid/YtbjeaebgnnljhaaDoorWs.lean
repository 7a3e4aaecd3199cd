/- WALKS: MaskTexts. -/
import Derived.Test.YtbjeaebgnnljhaaDoorWo
import Derived.Test.YtbjeaebgnnljhaaDoorPd
import Derived.Test.YtbjeaebgnnljhaaDoorOrd
set_option linter.unusedSimpArgs false
namespace Go.Proofs.YtbjeaebgnnljhaaDoor
open Go.RowKit Go.Shelf
set_option maxHeartbeats 2000000
set_option maxRecDepth 100000

theorem law4_long (m : MK) (s : ByteArray) (hs : 200 < s.size) (w : World) (hE : Env w) : Calls Tryd.prog 4 #[mv m, .string s] w fun e w' => e = .returned (.bool true) ∧ Below w.heap.size w w' := by
  have hsi : (200 : Int) < (s.size : Nat) := by omega
  have HE := Lib.hid hE
  clear hE
  unfold mv
  go_enter Tryd.func4, Tryd.ntmps4
  go_wp2_with (go_at_call 9; refine (live_any _ (HE.out.below ((Below.refl _ _).alloc (Nat.le_refl _) _))).mono ?_; rintro e w1 ⟨rfl, hb⟩)
  exact bodyPost_ret (v := .bool true) (by simp [results, Tryd.results4, go_sem]) rfl ⟨rfl, ((Below.refl _ _).alloc (Nat.le_refl _) _).trans (hb.mono (by simp))⟩
theorem law4_short (m : MK) (hm : mok m) (s : ByteArray) (hs : s.size ≤ 200) (w : World) (hE : Env w) : Calls Tryd.prog 4 #[mv m, .string s] w fun e w' => e = .returned (.bool true) ∧ Below w.heap.size w w' := by
  have hsi : ((s.size : Nat) : Int) ≤ 200 := by omega
  have q1 := fun W hE => Parse_any s (by omega) W hE
  have q2 := fun W => rParse_any s (by omega) W
  have q3 := fun W hE => Text_any m hm W hE
  have q4 := fun W => rText_any m hm W
  simp only [← parse_same] at q2
  simp only [← textM_rT] at q4
  generalize parseRes s.data.toList = P at q1 q2
  generalize textM m = T at q3 q4
  have C1 := Lib.hid q1
  have C2 := Lib.hid q2
  have C3 := Lib.hid q3
  have C4 := Lib.hid q4
  have HE := Lib.hid hE
  have hW := Lib.hid (Below.refl w.heap.size w)
  have K1 := Lib.hid (Blk.new w #[.int .u64 m.1, .int .u64 m.2.1, .int .u64 m.2.2.1, .int .u64 m.2.2.2] 24)
  have s0 := Lib.hid trivial
  clear hE hm q1 q2 q3 q4
  unfold mv
  go_enter Tryd.func4, Tryd.ntmps4
  go_wp2_with (first
    | (go_at_call 22; (have q := s0; clear q); (fail_if_success (have q := s1)); refine (C1.out _ (HE.out.below (by have lx := hW.out.size; repeat (first | with_reducible exact hW.out | with_reducible refine Below.setCell ?_ (by first | omega | (simp; done) | (simp; omega)) _ | with_reducible refine Below.alloc ?_ (by first | omega | (simp; done) | (simp; omega)) _ | with_reducible refine Below.drew ?_)))).mono ?_; rintro e w1 ⟨rfl, hb⟩; dsimp only [mv]; have lx := hW.out.size; have hx := Lib.hid (belowStep (w := w) hb (by repeat (first | with_reducible exact hW.out | with_reducible refine Below.setCell ?_ (by first | omega | (simp; done) | (simp; omega)) _ | with_reducible refine Below.alloc ?_ (by first | omega | (simp; done) | (simp; omega)) _ | with_reducible refine Below.drew ?_))); clear hW lx; have hW := hx; clear hx; have h1 := Lib.hid (blkThru hb K1.out); obtain ⟨c10, c11, c12, c13, f10, f11, f12, f13⟩ := h1.out.all4; have l1 := h1.out.lt; have n1 := Nat.ne_of_lt l1; clear hb; have s1 := Lib.hid trivial)
    | (go_at_call 23; (have q := s1; clear q); (fail_if_success (have q := s2)); refine (C2.out _).mono ?_; rintro e w2 ⟨rfl, hb⟩; dsimp only [mv]; have lx := hW.out.size; have hx := Lib.hid (belowStep (w := w) hb (by repeat (first | with_reducible exact hW.out | with_reducible refine Below.setCell ?_ (by first | omega | (simp; done) | (simp; omega)) _ | with_reducible refine Below.alloc ?_ (by first | omega | (simp; done) | (simp; omega)) _ | with_reducible refine Below.drew ?_))); clear hW lx; have hW := hx; clear hx; have lx := h1.out.lt; have hx := Lib.hid (blkThru2 (h1.out) (hb := hb) (by intro q; repeat (first | with_reducible exact q | with_reducible refine Blk.far ?_ _ _ (by first | omega | (simp; done) | (simp; omega)) | with_reducible refine Blk.alloc ?_ _ | with_reducible refine Blk.drew ?_))); clear c10 c11 c12 c13 f10 f11 f12 f13 l1 n1 lx h1; have h1 := hx; clear hx; obtain ⟨c10, c11, c12, c13, f10, f11, f12, f13⟩ := h1.out.all4; have l1 := h1.out.lt; have n1 := Nat.ne_of_lt l1; have h2 := Lib.hid (blkThru hb (by repeat (first | with_reducible exact Blk.new _ _ 27 | with_reducible apply Blk.alloc))); obtain ⟨c20, c21, c22, c23, f20, f21, f22, f23⟩ := h2.out.all4; have l2 := h2.out.lt; have n2 := Nat.ne_of_lt l2; clear hb; have s2 := Lib.hid trivial))
  have g1 := Lib.hid (h1.out.alloc (.cells #[.int .u64 P.1.1, .int .u64 P.1.2.1, .int .u64 P.1.2.2.1, .int .u64 P.1.2.2.2] 24))
  have g2 := Lib.hid (h2.out.alloc (.cells #[.int .u64 P.1.1, .int .u64 P.1.2.1, .int .u64 P.1.2.2.1, .int .u64 P.1.2.2.2] 24))
  have g3 := Lib.hid (Blk.new w2 #[.int .u64 P.1.1, .int .u64 P.1.2.1, .int .u64 P.1.2.2.1, .int .u64 P.1.2.2.2] 24)
  have gW := Lib.hid (hW.out.alloc hW.out.size (.cells #[.int .u64 P.1.1, .int .u64 P.1.2.1, .int .u64 P.1.2.2.1, .int .u64 P.1.2.2.2] 24))
  clear h1 h2 hW
  clear c10 c11 c12 c13 f10 f11 f12 f13 l1 n1
  clear c20 c21 c22 c23 f20 f21 f22 f23 l2 n2
  obtain ⟨W0, hT⟩ : ∃ W0, w2.alloc (.cells #[.int .u64 P.1.1, .int .u64 P.1.2.1, .int .u64 P.1.2.2.1, .int .u64 P.1.2.2.2] 24) = W0 := ⟨_, rfl⟩
  rw [hT] at g1 g2 g3 gW ⊢
  clear hT
  obtain ⟨c10, c11, c12, c13, f10, f11, f12, f13⟩ := g1.out.all4; have l1 := g1.out.lt; clear f10 f11 f12 f13
  obtain ⟨c20, c21, c22, c23, f20, f21, f22, f23⟩ := g2.out.all4; have l2 := g2.out.lt; clear f20 f21 f22 f23
  obtain ⟨c30, c31, c32, c33, f30, f31, f32, f33⟩ := g3.out.all4; have l3 := g3.out.lt; clear f30 f31 f32 f33
  refine wp_region_each (S := Below W0.heap.size W0) (by kernel_rfl) ((Below.refl _ _).drew) ?_
  refine each_take (i := 0) (oi := { dst := some 23, op := Go.Op.load 24 (Go.Operand.tmp 2), type := 24, pos := "law.go:61", after := #[], guard := none }) (v := _) rfl (by kernel_rfl) (by kernel_rfl) (by kernel_rfl) (fun _ _ _ h => h) (by first
  | exact Or.inr ⟨by rfl, rfl⟩
  | (refine Or.inl ⟨by rfl, fun W hS => ?_⟩; obtain ⟨hc, hf⟩ := bcell hS; go_simp; exact ⟨rfl, hS⟩)) ?_
  simp only [Act.put, List.setIfInBounds_toArray, List.set_cons_zero, List.set_cons_succ]
  refine each_take (i := 1) (oi := { dst := some 24, op := Go.Op.call { callee := Go.Callee.value (Go.Operand.func 10), args := #[Go.Operand.tmp 23], argTypes := #[24] }, type := 27, pos := "law.go:61", after := #[{ on := 0, ground := Go.Ground.data }], guard := none }) (v := _) rfl (by kernel_rfl) (by kernel_rfl) (by kernel_rfl) (fun _ _ _ h => h) (by first
  | exact Or.inr ⟨by rfl, rfl⟩
  | (refine Or.inl ⟨by rfl, fun W hS => ?_⟩; go_simp; show Calls _ _ _ _ _; refine (own_any _ _ _ _ _).mono ?_; rintro e w9 ⟨rfl, hb⟩; exact ⟨rfl, hS.trans (hb.mono hS.size)⟩)) ?_
  simp only [Act.put, List.setIfInBounds_toArray, List.set_cons_zero, List.set_cons_succ]
  refine each_take (i := 2) (oi := { dst := some 25, op := Go.Op.call { callee := Go.Callee.value (Go.Operand.func 24), args := #[Go.Operand.tmp 24], argTypes := #[27] }, type := 9, pos := "law.go:61", after := #[{ on := 1, ground := Go.Ground.data }, { on := 1, ground := Go.Ground.chain }], guard := none }) (v := _) rfl (by kernel_rfl) (by kernel_rfl) (by kernel_rfl) (fun _ _ _ h => h) (by first
  | exact Or.inr ⟨by rfl, rfl⟩
  | (refine Or.inl ⟨by rfl, fun W hS => ?_⟩; go_simp; show Calls _ _ _ _ _; refine (C3.out _ (HE.out.below (gW.out.trans (hS.mono gW.out.size)))).mono ?_; rintro e w9 ⟨rfl, hb⟩; dsimp only [strV]; exact ⟨rfl, hS.trans (hb.mono hS.size)⟩)) ?_
  simp only [Act.put, List.setIfInBounds_toArray, List.set_cons_zero, List.set_cons_succ]
  refine each_take (i := 3) (oi := { dst := some 26, op := Go.Op.load 24 (Go.Operand.tmp 2), type := 24, pos := "law.go:61", after := #[], guard := none }) (v := _) rfl (by kernel_rfl) (by kernel_rfl) (by kernel_rfl) (fun _ _ _ h => h) (by first
  | exact Or.inr ⟨by rfl, rfl⟩
  | (refine Or.inl ⟨by rfl, fun W hS => ?_⟩; obtain ⟨hc, hf⟩ := bcell hS; go_simp; exact ⟨rfl, hS⟩)) ?_
  simp only [Act.put, List.setIfInBounds_toArray, List.set_cons_zero, List.set_cons_succ]
  refine each_take (i := 4) (oi := { dst := some 27, op := Go.Op.call { callee := Go.Callee.value (Go.Operand.func 25), args := #[Go.Operand.tmp 26], argTypes := #[24] }, type := 9, pos := "law.go:61", after := #[{ on := 3, ground := Go.Ground.data }, { on := 2, ground := Go.Ground.chain }], guard := none }) (v := _) rfl (by kernel_rfl) (by kernel_rfl) (by kernel_rfl) (fun _ _ _ h => h) (by first
  | exact Or.inr ⟨by rfl, rfl⟩
  | (refine Or.inl ⟨by rfl, fun W hS => ?_⟩; go_simp; show Calls _ _ _ _ _; refine (C4.out _).mono ?_; rintro e w9 ⟨rfl, hb⟩; dsimp only [strV]; exact ⟨rfl, hS.trans (hb.mono hS.size)⟩)) ?_
  simp only [Act.put, List.setIfInBounds_toArray, List.set_cons_zero, List.set_cons_succ]
  refine each_take (i := 5) (oi := { dst := some 28, op := Go.Op.binOp Go.BinOp.eql 9 (Go.Operand.tmp 25) (Go.Operand.tmp 27) 9, type := 4, pos := "law.go:61", after := #[{ on := 2, ground := Go.Ground.data }, { on := 4, ground := Go.Ground.data }], guard := none }) (v := _) rfl (by kernel_rfl) (by kernel_rfl) (by kernel_rfl) (fun _ _ _ h => h) (by first
  | exact Or.inr ⟨by rfl, rfl⟩
  | (refine Or.inl ⟨by rfl, fun W hS => ?_⟩; obtain ⟨hc, hf⟩ := bcell hS; go_simp; exact ⟨rfl, hS⟩)) ?_
  simp only [Act.put, List.setIfInBounds_toArray, List.set_cons_zero, List.set_cons_succ]
  refine each_take (i := 6) (oi := { dst := some 29, op := Go.Op.move (Go.Operand.tmp 28), type := 4, pos := "law.go:61", after := #[{ on := 5, ground := Go.Ground.data }, { on := 4, ground := Go.Ground.chain }], guard := none }) (v := _) rfl (by kernel_rfl) (by kernel_rfl) (by kernel_rfl) (fun _ _ _ h => h) (by first
  | exact Or.inr ⟨by rfl, rfl⟩
  | (refine Or.inl ⟨by rfl, fun W hS => ?_⟩; obtain ⟨hc, hf⟩ := bcell hS; go_simp; exact ⟨rfl, hS⟩)) ?_
  simp only [Act.put, List.setIfInBounds_toArray, List.set_cons_zero, List.set_cons_succ]
  refine each_take (i := 7) (oi := { dst := some 30, op := Go.Op.load 27 (Go.Operand.tmp 5), type := 27, pos := "law.go:61", after := #[{ on := 6, ground := Go.Ground.guard }], guard := some (6, true) }) (v := _) rfl (by kernel_rfl) (by kernel_rfl) (by kernel_rfl) (fun _ _ _ h => h) (by first
  | exact Or.inr ⟨by rfl, rfl⟩
  | (refine Or.inl ⟨by rfl, fun W hS => ?_⟩; obtain ⟨hc, hf⟩ := bcell hS; go_simp; exact ⟨rfl, hS⟩)) ?_
  simp only [Act.put, List.setIfInBounds_toArray, List.set_cons_zero, List.set_cons_succ]
  refine each_take (i := 8) (oi := { dst := some 31, op := Go.Op.call { callee := Go.Callee.value (Go.Operand.func 21), args := #[Go.Operand.tmp 30], argTypes := #[27] }, type := 24, pos := "law.go:61", after := #[{ on := 7, ground := Go.Ground.data }, { on := 6, ground := Go.Ground.chain }, { on := 6, ground := Go.Ground.guard }], guard := some (6, true) }) (v := _) rfl (by kernel_rfl) (by kernel_rfl) (by kernel_rfl) (fun _ _ _ h => h) (by first
  | exact Or.inr ⟨by rfl, rfl⟩
  | (refine Or.inl ⟨by rfl, fun W hS => ?_⟩; go_simp; show Calls _ _ _ _ _; refine (told_any _ _ _ _ _).mono ?_; rintro e w9 ⟨rfl, hb⟩; exact ⟨rfl, hS.trans (hb.mono hS.size)⟩)) ?_
  simp only [Act.put, List.setIfInBounds_toArray, List.set_cons_zero, List.set_cons_succ]
  refine each_take (i := 9) (oi := { dst := some 32, op := Go.Op.load 24 (Go.Operand.tmp 7), type := 24, pos := "law.go:61", after := #[{ on := 6, ground := Go.Ground.guard }], guard := some (6, true) }) (v := _) rfl (by kernel_rfl) (by kernel_rfl) (by kernel_rfl) (fun _ _ _ h => h) (by first
  | exact Or.inr ⟨by rfl, rfl⟩
  | (refine Or.inl ⟨by rfl, fun W hS => ?_⟩; obtain ⟨hc, hf⟩ := bcell hS; go_simp; exact ⟨rfl, hS⟩)) ?_
  simp only [Act.put, List.setIfInBounds_toArray, List.set_cons_zero, List.set_cons_succ]
  refine each_take (i := 10) (oi := { dst := some 33, op := Go.Op.binOp Go.BinOp.eql 24 (Go.Operand.tmp 31) (Go.Operand.tmp 32) 24, type := 4, pos := "law.go:61", after := #[{ on := 8, ground := Go.Ground.data }, { on := 9, ground := Go.Ground.data }, { on := 6, ground := Go.Ground.guard }], guard := some (6, true) }) (v := _) rfl (by kernel_rfl) (by kernel_rfl) (by kernel_rfl) (fun _ _ _ h => h) (by first
  | exact Or.inr ⟨by rfl, rfl⟩
  | (refine Or.inl ⟨by rfl, fun W hS => ?_⟩; obtain ⟨hc, hf⟩ := bcell hS; go_simp; exact ⟨rfl, hS⟩)) ?_
  simp only [Act.put, List.setIfInBounds_toArray, List.set_cons_zero, List.set_cons_succ]
  refine each_take (i := 11) (oi := { dst := some 34, op := Go.Op.pick (Go.Operand.tmp 29) (Go.Operand.tmp 33) (Go.Operand.const (Go.Value.bool false)), type := 4, pos := "law.go:61", after := #[{ on := 6, ground := Go.Ground.data }, { on := 10, ground := Go.Ground.data }], guard := none }) (v := _) rfl (by kernel_rfl) (by kernel_rfl) (by kernel_rfl) (fun _ _ _ h => h) (by first
  | exact Or.inr ⟨by rfl, rfl⟩
  | (refine Or.inl ⟨by rfl, fun W hS => ?_⟩; obtain ⟨hc, hf⟩ := bcell hS; go_simp; exact ⟨rfl, hS⟩)) ?_
  simp only [Act.put, List.setIfInBounds_toArray, List.set_cons_zero, List.set_cons_succ]
  refine each_take (i := 12) (oi := { dst := some 35, op := Go.Op.move (Go.Operand.tmp 34), type := 4, pos := "law.go:61", after := #[{ on := 11, ground := Go.Ground.data }, { on := 8, ground := Go.Ground.chain }], guard := none }) (v := _) rfl (by kernel_rfl) (by kernel_rfl) (by kernel_rfl) (fun _ _ _ h => h) (by first
  | exact Or.inr ⟨by rfl, rfl⟩
  | (refine Or.inl ⟨by rfl, fun W hS => ?_⟩; obtain ⟨hc, hf⟩ := bcell hS; go_simp; exact ⟨rfl, hS⟩)) ?_
  simp only [Act.put, List.setIfInBounds_toArray, List.set_cons_zero, List.set_cons_succ]
  refine each_take (i := 13) (oi := { dst := some 36, op := Go.Op.move (Go.Operand.tmp 6), type := 29, pos := "law.go:61", after := #[{ on := 12, ground := Go.Ground.guard }], guard := some (12, true) }) (v := _) rfl (by kernel_rfl) (by kernel_rfl) (by kernel_rfl) (fun _ _ _ h => h) (by first
  | exact Or.inr ⟨by rfl, rfl⟩
  | (refine Or.inl ⟨by rfl, fun W hS => ?_⟩; obtain ⟨hc, hf⟩ := bcell hS; go_simp; exact ⟨rfl, hS⟩)) ?_
  simp only [Act.put, List.setIfInBounds_toArray, List.set_cons_zero, List.set_cons_succ]
  refine each_take (i := 14) (oi := { dst := some 37, op := Go.Op.move (Go.Operand.tmp 8), type := 29, pos := "law.go:61", after := #[{ on := 12, ground := Go.Ground.guard }], guard := some (12, true) }) (v := _) rfl (by kernel_rfl) (by kernel_rfl) (by kernel_rfl) (fun _ _ _ h => h) (by first
  | exact Or.inr ⟨by rfl, rfl⟩
  | (refine Or.inl ⟨by rfl, fun W hS => ?_⟩; obtain ⟨hc, hf⟩ := bcell hS; go_simp; exact ⟨rfl, hS⟩)) ?_
  simp only [Act.put, List.setIfInBounds_toArray, List.set_cons_zero, List.set_cons_succ]
  refine each_take (i := 15) (oi := { dst := some 38, op := Go.Op.binOp Go.BinOp.eql 29 (Go.Operand.tmp 36) (Go.Operand.tmp 37) 29, type := 4, pos := "law.go:61", after := #[{ on := 13, ground := Go.Ground.data }, { on := 14, ground := Go.Ground.data }, { on := 12, ground := Go.Ground.guard }], guard := some (12, true) }) (v := _) rfl (by kernel_rfl) (by kernel_rfl) (by kernel_rfl) (fun _ _ _ h => h) (by first
  | exact Or.inr ⟨by rfl, rfl⟩
  | (refine Or.inl ⟨by rfl, fun W hS => ?_⟩; obtain ⟨hc, hf⟩ := bcell hS; go_simp; exact ⟨rfl, hS⟩)) ?_
  simp only [Act.put, List.setIfInBounds_toArray, List.set_cons_zero, List.set_cons_succ]
  refine each_take (i := 16) (oi := { dst := some 39, op := Go.Op.pick (Go.Operand.tmp 35) (Go.Operand.tmp 38) (Go.Operand.const (Go.Value.bool false)), type := 4, pos := "law.go:61", after := #[{ on := 12, ground := Go.Ground.data }, { on := 15, ground := Go.Ground.data }], guard := none }) (v := _) rfl (by kernel_rfl) (by kernel_rfl) (by kernel_rfl) (fun _ _ _ h => h) (by first
  | exact Or.inr ⟨by rfl, rfl⟩
  | (refine Or.inl ⟨by rfl, fun W hS => ?_⟩; obtain ⟨hc, hf⟩ := bcell hS; go_simp; exact ⟨rfl, hS⟩)) ?_
  simp only [Act.put, List.setIfInBounds_toArray, List.set_cons_zero, List.set_cons_succ]
  refine each_take (i := 17) (oi := { dst := some 40, op := Go.Op.move (Go.Operand.tmp 39), type := 4, pos := "law.go:61", after := #[{ on := 16, ground := Go.Ground.data }, { on := 12, ground := Go.Ground.chain }], guard := none }) (v := _) rfl (by kernel_rfl) (by kernel_rfl) (by kernel_rfl) (fun _ _ _ h => h) (by first
  | exact Or.inr ⟨by rfl, rfl⟩
  | (refine Or.inl ⟨by rfl, fun W hS => ?_⟩; obtain ⟨hc, hf⟩ := bcell hS; go_simp; exact ⟨rfl, hS⟩)) ?_
  simp only [Act.put, List.setIfInBounds_toArray, List.set_cons_zero, List.set_cons_succ]
  refine each_take (i := 18) (oi := { dst := some 41, op := Go.Op.call { callee := Go.Callee.value (Go.Operand.func 9), args := #[], argTypes := #[] }, type := 4, pos := "law.go:61", after := #[{ on := 17, ground := Go.Ground.chain }, { on := 17, ground := Go.Ground.guard }], guard := some (17, true) }) (v := _) rfl (by kernel_rfl) (by kernel_rfl) (by kernel_rfl) (fun _ _ _ h => h) (by first
  | exact Or.inr ⟨by rfl, rfl⟩
  | (refine Or.inl ⟨by rfl, fun W hS => ?_⟩; go_simp; show Calls _ _ _ _ _; refine (live_any _ (HE.out.below (gW.out.trans (hS.mono gW.out.size)))).mono ?_; rintro e w9 ⟨rfl, hb⟩; exact ⟨rfl, hS.trans (hb.mono hS.size)⟩)) ?_
  simp only [Act.put, List.setIfInBounds_toArray, List.set_cons_zero, List.set_cons_succ]
  refine each_take (i := 19) (oi := { dst := some 42, op := Go.Op.pick (Go.Operand.tmp 40) (Go.Operand.tmp 41) (Go.Operand.const (Go.Value.bool false)), type := 4, pos := "law.go:61", after := #[{ on := 17, ground := Go.Ground.data }, { on := 18, ground := Go.Ground.data }], guard := none }) (v := _) rfl (by kernel_rfl) (by kernel_rfl) (by kernel_rfl) (fun _ _ _ h => h) (by first
  | exact Or.inr ⟨by rfl, rfl⟩
  | (refine Or.inl ⟨by rfl, fun W hS => ?_⟩; obtain ⟨hc, hf⟩ := bcell hS; go_simp; exact ⟨rfl, hS⟩)) ?_
  simp only [Act.put, List.setIfInBounds_toArray, List.set_cons_zero, List.set_cons_succ]
  refine each_take (i := 20) (oi := { dst := some 4, op := Go.Op.assign (Go.Operand.tmp 42), type := 4, pos := "law.go:61", after := #[{ on := 19, ground := Go.Ground.data }, { on := 18, ground := Go.Ground.chain }, { on := 0, ground := Go.Ground.phase }, { on := 1, ground := Go.Ground.phase }, { on := 2, ground := Go.Ground.phase }, { on := 3, ground := Go.Ground.phase }, { on := 4, ground := Go.Ground.phase }, { on := 5, ground := Go.Ground.phase }, { on := 6, ground := Go.Ground.phase }, { on := 7, ground := Go.Ground.phase }, { on := 8, ground := Go.Ground.phase }, { on := 9, ground := Go.Ground.phase }, { on := 10, ground := Go.Ground.phase }, { on := 11, ground := Go.Ground.phase }, { on := 12, ground := Go.Ground.phase }, { on := 13, ground := Go.Ground.phase }, { on := 14, ground := Go.Ground.phase }, { on := 15, ground := Go.Ground.phase }, { on := 16, ground := Go.Ground.phase }, { on := 17, ground := Go.Ground.phase }, { on := 18, ground := Go.Ground.phase }, { on := 19, ground := Go.Ground.phase }], guard := none }) (v := _) rfl (by kernel_rfl) (by kernel_rfl) (by kernel_rfl) (fun _ _ _ h => h) (by first
  | exact Or.inr ⟨by rfl, rfl⟩
  | (refine Or.inl ⟨by rfl, fun W hS => ?_⟩; obtain ⟨hc, hf⟩ := bcell hS; go_simp; exact ⟨rfl, hS⟩)) ?_
  simp only [Act.put, List.setIfInBounds_toArray, List.set_cons_zero, List.set_cons_succ]
  refine each_done (by kernel_rfl) (fun W hS => ?_) _
  go_wp2
  exact bodyPost_ret (v := .bool true) (by simp [results, Tryd.results4, go_sem]) rfl ⟨rfl, gW.out.trans (hS.mono gW.out.size)⟩
theorem law4 (m : MK) (hm : mok m) (s : ByteArray) (w : World) (hE : Env w) : Calls Tryd.prog 4 #[mv m, .string s] w fun e w' => e = .returned (.bool true) ∧ Below w.heap.size w w' := by
  by_cases h : s.size ≤ 200
  · exact law4_short m hm s h w hE
  · exact law4_long m s (by omega) w hE
end Go.Proofs.YtbjeaebgnnljhaaDoor
