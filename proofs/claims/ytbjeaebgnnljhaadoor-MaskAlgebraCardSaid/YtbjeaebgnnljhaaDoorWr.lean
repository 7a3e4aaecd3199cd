/- WALKS: MaskAlgebra. -/
import Derived.Test.YtbjeaebgnnljhaaDoorWo
import Derived.Test.YtbjeaebgnnljhaaDoorRe
import Derived.Test.YtbjeaebgnnljhaaDoorPb
import Derived.Test.YtbjeaebgnnljhaaDoorOrd
set_option linter.unusedSimpArgs false
namespace Go.Proofs.YtbjeaebgnnljhaaDoor
open Go.RowKit Go.Shelf
set_option maxHeartbeats 2000000
set_option maxRecDepth 100000

theorem has_ext {m m' : MK} (h : mok m) (h' : mok m') (e : ∀ c, has m c = has m' c) : m = m' := mk_ext h h' fun c _ => e c
theorem count_bits (f g : Nat → Bool) (l : List Nat) : (l.filter fun c => f c && g c).length + (l.filter fun c => f c || g c).length = (l.filter f).length + (l.filter g).length := by
  induction l with
  | nil => rfl
  | cons c l ih =>
    simp only [List.filter_cons]
    cases f c <;> cases g c <;> simp <;> omega
theorem upTo_len (m : MK) : (upTo m 256).length = ((List.range 256).filter (has m)).length := by rw [← coreN_length]; rfl
theorem count_and_or (a b : MK) : (upTo (andM a b) 256).length + (upTo (orM a b) 256).length = (upTo a 256).length + (upTo b 256).length := by
  simp only [upTo_len]
  rw [← count_bits (has a) (has b)]
  congr 2
  · exact List.filter_congr fun c _ => has_andM a b c
  · exact List.filter_congr fun c _ => has_orM a b c
theorem law8 (a b c : MK) (ha : mok a) (hb : mok b) (hc : mok c) (w : World) (hE : Env w) : Calls Tryd.prog 8 #[mv a, mv b, mv c] w fun e w' => e = .returned (.bool true) ∧ Below w.heap.size w w' := by
  have HE := Lib.hid hE
  have A1 := fun W => And_any a b ha hb W
  have A2 := fun W => And_any b a hb ha W
  rw [show andM b a = andM a b from has_ext (mok_andM hb) (mok_andM ha) fun x => by rw [has_andM, has_andM, Bool.and_comm]] at A2
  have O1 := fun W => Or_any a b ha hb W
  have O2 := fun W => Or_any b a hb ha W
  rw [show orM b a = orM a b from has_ext (mok_orM hb ha) (mok_orM ha hb) fun x => by rw [has_orM, has_orM, Bool.or_comm]] at O2
  have O3 := fun W => Or_any b c hb hc W
  have A3 := fun W => And_any a (orM b c) ha (mok_orM hb hc) W
  have A4 := fun W => And_any a c ha hc W
  have O4 := fun W => Or_any (andM a b) (andM a c) (mok_andM ha) (mok_andM ha) W
  rw [show orM (andM a b) (andM a c) = andM a (orM b c) from has_ext (mok_orM (mok_andM ha) (mok_andM ha)) (mok_andM ha) fun x => by simp only [has_andM, has_orM]; cases has a x <;> rfl] at O4
  have M1 := fun W => Minus_any a (orM b c) W
  have M2 := fun W => Minus_any a b W
  have M3 := fun W => Minus_any (minusM a b) c W
  rw [show minusM (minusM a b) c = minusM a (orM b c) from has_ext (mok_minusM _ _) (mok_minusM _ _) fun x => by simp only [has_minusM, has_orM]; cases has a x <;> cases has b x <;> rfl] at M3
  have N1 := fun W => Count_any (andM a b) (mok_andM ha) W
  have N2 := fun W => Count_any (orM a b) (mok_orM ha hb) W
  have N3 := fun W => Count_any a ha W
  have N4 := fun W => Count_any b hb W
  have hsum := count_and_or a b
  have O5 := fun W => Or_any (minusM a b) (andM a b) (mok_minusM _ _) (mok_andM ha) W
  rw [show orM (minusM a b) (andM a b) = a from has_ext (mok_orM (mok_minusM _ _) (mok_andM ha)) ha fun x => by simp only [has_minusM, has_orM, has_andM]; cases has a x <;> cases has b x <;> rfl] at O5
  have A5 := fun W => And_any (minusM a b) b (mok_minusM _ _) hb W
  rw [show andM (minusM a b) b = mk0 from has_ext (mok_andM (mok_minusM _ _)) mok_mk0 fun x => by simp only [has_minusM, has_andM, has_mk0]; cases has a x <;> cases has b x <;> rfl] at A5
  have b1 := upTo_length (andM a b) 256
  have b2 := upTo_length (orM a b) 256
  have b3 := upTo_length a 256
  have b4 := upTo_length b 256
  generalize (upTo (andM a b) 256).length = n1 at N1 hsum b1
  generalize (upTo (orM a b) 256).length = n2 at N2 hsum b2
  generalize (upTo a 256).length = n3 at N3 hsum b3
  generalize (upTo b 256).length = n4 at N4 hsum b4
  generalize minusM a (orM b c) = X6 at M1 M3
  generalize andM a (orM b c) = X4 at A3 O4
  generalize orM b c = X3 at O3 A3 M1
  generalize andM a c = X5 at A4 O4
  generalize minusM a b = X7 at M2 M3 O5 A5
  generalize andM a b = X1 at A1 A2 O4 N1 O5
  generalize orM a b = X2 at O1 O2 N2
  have HSUM : Hid ((((n1 : Nat) : Int) + (n2 : Nat) == ((n3 : Nat) : Int) + (n4 : Nat)) = true) := Lib.hid (by simp; omega)
  clear hsum
  have CA1 := Lib.hid A1
  have CA2 := Lib.hid A2
  have CA3 := Lib.hid A3
  have CA4 := Lib.hid A4
  have CA5 := Lib.hid A5
  have CO1 := Lib.hid O1
  have CO2 := Lib.hid O2
  have CO3 := Lib.hid O3
  have CO4 := Lib.hid O4
  have CO5 := Lib.hid O5
  have CM1 := Lib.hid M1
  have CM2 := Lib.hid M2
  have CM3 := Lib.hid M3
  have CN1 := Lib.hid N1
  have CN2 := Lib.hid N2
  have CN3 := Lib.hid N3
  have CN4 := Lib.hid N4
  clear A1 A2 A3 A4 A5 O1 O2 O3 O4 O5 M1 M2 M3 N1 N2 N3 N4
  have hW := Lib.hid (Below.refl w.heap.size w)
  have s0 := Lib.hid trivial
  clear hE ha hb hc
  have k1 := ((Blk.new w #[.int .u64 a.1, .int .u64 a.2.1, .int .u64 a.2.2.1, .int .u64 a.2.2.2] 24).alloc (.cells #[.int .u64 b.1, .int .u64 b.2.1, .int .u64 b.2.2.1, .int .u64 b.2.2.2] 24)).alloc (.cells #[.int .u64 c.1, .int .u64 c.2.1, .int .u64 c.2.2.1, .int .u64 c.2.2.2] 24)
  have k2 := (Blk.new (w.alloc (.cells #[.int .u64 a.1, .int .u64 a.2.1, .int .u64 a.2.2.1, .int .u64 a.2.2.2] 24)) #[.int .u64 b.1, .int .u64 b.2.1, .int .u64 b.2.2.1, .int .u64 b.2.2.2] 24).alloc (.cells #[.int .u64 c.1, .int .u64 c.2.1, .int .u64 c.2.2.1, .int .u64 c.2.2.2] 24)
  have k3 := Blk.new ((w.alloc (.cells #[.int .u64 a.1, .int .u64 a.2.1, .int .u64 a.2.2.1, .int .u64 a.2.2.2] 24)).alloc (.cells #[.int .u64 b.1, .int .u64 b.2.1, .int .u64 b.2.2.1, .int .u64 b.2.2.2] 24)) #[.int .u64 c.1, .int .u64 c.2.1, .int .u64 c.2.2.1, .int .u64 c.2.2.2] 24
  rw [World.size_alloc] at k2
  rw [World.size_alloc, World.size_alloc] at k3
  have K1 := Lib.hid k1
  have K2 := Lib.hid k2
  have K3 := Lib.hid k3
  clear k1 k2 k3
  unfold mv
  go_enter Tryd.func8, Tryd.ntmps8
  go_wp2_with (first
    | (go_at_call 10; (have q := s0; clear q); (fail_if_success (have q := s1)); refine (own_any _ _ _ _ _).mono ?_; rintro e w1 ⟨rfl, hb⟩; have lx := hW.out.size; have hx := Lib.hid (belowStep (w := w) hb (by repeat (first | with_reducible exact hW.out | with_reducible refine Below.setCell ?_ (by first | omega | (simp; done) | (simp; omega)) _ | with_reducible refine Below.alloc ?_ (by first | omega | (simp; done) | (simp; omega)) _ | with_reducible refine Below.drew ?_))); clear hW lx; have hW := hx; clear hx; have h1 := Lib.hid (blkThru hb K1.out); obtain ⟨c10, c11, c12, c13, f10, f11, f12, f13⟩ := h1.out.all4; have l1 := h1.out.lt; have n1 := Nat.ne_of_lt l1; have h2 := Lib.hid (blkThru hb K2.out); obtain ⟨c20, c21, c22, c23, f20, f21, f22, f23⟩ := h2.out.all4; have l2 := h2.out.lt; have n2 := Nat.ne_of_lt l2; have h3 := Lib.hid (blkThru hb K3.out); obtain ⟨c30, c31, c32, c33, f30, f31, f32, f33⟩ := h3.out.all4; have l3 := h3.out.lt; have n3 := Nat.ne_of_lt l3; clear hb; have s1 := Lib.hid trivial)
    | (go_at_call 10; (have q := s1; clear q); (fail_if_success (have q := s2)); refine (own_any _ _ _ _ _).mono ?_; rintro e w2 ⟨rfl, hb⟩; have lx := hW.out.size; have hx := Lib.hid (belowStep (w := w) hb (by repeat (first | with_reducible exact hW.out | with_reducible refine Below.setCell ?_ (by first | omega | (simp; done) | (simp; omega)) _ | with_reducible refine Below.alloc ?_ (by first | omega | (simp; done) | (simp; omega)) _ | with_reducible refine Below.drew ?_))); clear hW lx; have hW := hx; clear hx; have lx := h1.out.lt; have hx := Lib.hid (blkThru2 (h1.out) (hb := hb) (by intro q; repeat (first | with_reducible exact q | with_reducible refine Blk.far ?_ _ _ (by first | omega | (simp; done) | (simp; omega)) | with_reducible refine Blk.alloc ?_ _ | with_reducible refine Blk.drew ?_))); clear c10 c11 c12 c13 f10 f11 f12 f13 l1 n1 lx h1; have h1 := hx; clear hx; obtain ⟨c10, c11, c12, c13, f10, f11, f12, f13⟩ := h1.out.all4; have l1 := h1.out.lt; have n1 := Nat.ne_of_lt l1; have lx := h2.out.lt; have hx := Lib.hid (blkThru2 (h2.out) (hb := hb) (by intro q; repeat (first | with_reducible exact q | with_reducible refine Blk.far ?_ _ _ (by first | omega | (simp; done) | (simp; omega)) | with_reducible refine Blk.alloc ?_ _ | with_reducible refine Blk.drew ?_))); clear c20 c21 c22 c23 f20 f21 f22 f23 l2 n2 lx h2; have h2 := hx; clear hx; obtain ⟨c20, c21, c22, c23, f20, f21, f22, f23⟩ := h2.out.all4; have l2 := h2.out.lt; have n2 := Nat.ne_of_lt l2; have lx := h3.out.lt; have hx := Lib.hid (blkThru2 (h3.out) (hb := hb) (by intro q; repeat (first | with_reducible exact q | with_reducible refine Blk.far ?_ _ _ (by first | omega | (simp; done) | (simp; omega)) | with_reducible refine Blk.alloc ?_ _ | with_reducible refine Blk.drew ?_))); clear c30 c31 c32 c33 f30 f31 f32 f33 l3 n3 lx h3; have h3 := hx; clear hx; obtain ⟨c30, c31, c32, c33, f30, f31, f32, f33⟩ := h3.out.all4; have l3 := h3.out.lt; have n3 := Nat.ne_of_lt l3; have h4 := Lib.hid (blkThru hb (by repeat (first | with_reducible exact Blk.new _ _ 27 | with_reducible apply Blk.alloc))); obtain ⟨c40, c41, c42, c43, f40, f41, f42, f43⟩ := h4.out.all4; have l4 := h4.out.lt; have n4 := Nat.ne_of_lt l4; clear hb; have s2 := Lib.hid trivial)
    | (go_at_call 10; (have q := s2; clear q); (fail_if_success (have q := s3)); refine (own_any _ _ _ _ _).mono ?_; rintro e w3 ⟨rfl, hb⟩; have lx := hW.out.size; have hx := Lib.hid (belowStep (w := w) hb (by repeat (first | with_reducible exact hW.out | with_reducible refine Below.setCell ?_ (by first | omega | (simp; done) | (simp; omega)) _ | with_reducible refine Below.alloc ?_ (by first | omega | (simp; done) | (simp; omega)) _ | with_reducible refine Below.drew ?_))); clear hW lx; have hW := hx; clear hx; have lx := h1.out.lt; have hx := Lib.hid (blkThru2 (h1.out) (hb := hb) (by intro q; repeat (first | with_reducible exact q | with_reducible refine Blk.far ?_ _ _ (by first | omega | (simp; done) | (simp; omega)) | with_reducible refine Blk.alloc ?_ _ | with_reducible refine Blk.drew ?_))); clear c10 c11 c12 c13 f10 f11 f12 f13 l1 n1 lx h1; have h1 := hx; clear hx; obtain ⟨c10, c11, c12, c13, f10, f11, f12, f13⟩ := h1.out.all4; have l1 := h1.out.lt; have n1 := Nat.ne_of_lt l1; have lx := h2.out.lt; have hx := Lib.hid (blkThru2 (h2.out) (hb := hb) (by intro q; repeat (first | with_reducible exact q | with_reducible refine Blk.far ?_ _ _ (by first | omega | (simp; done) | (simp; omega)) | with_reducible refine Blk.alloc ?_ _ | with_reducible refine Blk.drew ?_))); clear c20 c21 c22 c23 f20 f21 f22 f23 l2 n2 lx h2; have h2 := hx; clear hx; obtain ⟨c20, c21, c22, c23, f20, f21, f22, f23⟩ := h2.out.all4; have l2 := h2.out.lt; have n2 := Nat.ne_of_lt l2; have lx := h3.out.lt; have hx := Lib.hid (blkThru2 (h3.out) (hb := hb) (by intro q; repeat (first | with_reducible exact q | with_reducible refine Blk.far ?_ _ _ (by first | omega | (simp; done) | (simp; omega)) | with_reducible refine Blk.alloc ?_ _ | with_reducible refine Blk.drew ?_))); clear c30 c31 c32 c33 f30 f31 f32 f33 l3 n3 lx h3; have h3 := hx; clear hx; obtain ⟨c30, c31, c32, c33, f30, f31, f32, f33⟩ := h3.out.all4; have l3 := h3.out.lt; have n3 := Nat.ne_of_lt l3; have lx := h4.out.lt; have hx := Lib.hid (blkThru2 (h4.out) (hb := hb) (by intro q; repeat (first | with_reducible exact q | with_reducible refine Blk.far ?_ _ _ (by first | omega | (simp; done) | (simp; omega)) | with_reducible refine Blk.alloc ?_ _ | with_reducible refine Blk.drew ?_))); clear c40 c41 c42 c43 f40 f41 f42 f43 l4 n4 lx h4; have h4 := hx; clear hx; obtain ⟨c40, c41, c42, c43, f40, f41, f42, f43⟩ := h4.out.all4; have l4 := h4.out.lt; have n4 := Nat.ne_of_lt l4; have h5 := Lib.hid (blkThru hb (by repeat (first | with_reducible exact Blk.new _ _ 27 | with_reducible apply Blk.alloc))); obtain ⟨c50, c51, c52, c53, f50, f51, f52, f53⟩ := h5.out.all4; have l5 := h5.out.lt; have n5 := Nat.ne_of_lt l5; clear hb; have s3 := Lib.hid trivial))
  have g1 := Lib.hid (h1.out.alloc (.cells #[.int .u64 c.1, .int .u64 c.2.1, .int .u64 c.2.2.1, .int .u64 c.2.2.2] 27))
  have g2 := Lib.hid (h2.out.alloc (.cells #[.int .u64 c.1, .int .u64 c.2.1, .int .u64 c.2.2.1, .int .u64 c.2.2.2] 27))
  have g3 := Lib.hid (h3.out.alloc (.cells #[.int .u64 c.1, .int .u64 c.2.1, .int .u64 c.2.2.1, .int .u64 c.2.2.2] 27))
  have g4 := Lib.hid (h4.out.alloc (.cells #[.int .u64 c.1, .int .u64 c.2.1, .int .u64 c.2.2.1, .int .u64 c.2.2.2] 27))
  have g5 := Lib.hid (h5.out.alloc (.cells #[.int .u64 c.1, .int .u64 c.2.1, .int .u64 c.2.2.1, .int .u64 c.2.2.2] 27))
  have g6 := Lib.hid (Blk.new w3 #[.int .u64 c.1, .int .u64 c.2.1, .int .u64 c.2.2.1, .int .u64 c.2.2.2] 27)
  have gW := Lib.hid (hW.out.alloc hW.out.size (.cells #[.int .u64 c.1, .int .u64 c.2.1, .int .u64 c.2.2.1, .int .u64 c.2.2.2] 27))
  clear h1 h2 h3 h4 h5 hW
  clear c10 c11 c12 c13 f10 f11 f12 f13 l1 n1
  clear c20 c21 c22 c23 f20 f21 f22 f23 l2 n2
  clear c30 c31 c32 c33 f30 f31 f32 f33 l3 n3
  clear c40 c41 c42 c43 f40 f41 f42 f43 l4 n4
  clear c50 c51 c52 c53 f50 f51 f52 f53 l5 n5
  obtain ⟨W0, hT⟩ : ∃ W0, w3.alloc (.cells #[.int .u64 c.1, .int .u64 c.2.1, .int .u64 c.2.2.1, .int .u64 c.2.2.2] 27) = W0 := ⟨_, rfl⟩
  rw [hT] at g1 g2 g3 g4 g5 g6 gW ⊢
  clear hT
  obtain ⟨c10, c11, c12, c13, f10, f11, f12, f13⟩ := g1.out.all4; have l1 := g1.out.lt; clear f10 f11 f12 f13
  obtain ⟨c20, c21, c22, c23, f20, f21, f22, f23⟩ := g2.out.all4; have l2 := g2.out.lt; clear f20 f21 f22 f23
  obtain ⟨c30, c31, c32, c33, f30, f31, f32, f33⟩ := g3.out.all4; have l3 := g3.out.lt; clear f30 f31 f32 f33
  obtain ⟨c40, c41, c42, c43, f40, f41, f42, f43⟩ := g4.out.all4; have l4 := g4.out.lt; clear f40 f41 f42 f43
  obtain ⟨c50, c51, c52, c53, f50, f51, f52, f53⟩ := g5.out.all4; have l5 := g5.out.lt; clear f50 f51 f52 f53
  obtain ⟨c60, c61, c62, c63, f60, f61, f62, f63⟩ := g6.out.all4; have l6 := g6.out.lt; clear f60 f61 f62 f63
  refine wp_region_each (S := Below W0.heap.size W0) (by kernel_rfl) ((Below.refl _ _).drew) ?_
  refine each_take (i := 0) (oi := { dst := some 16, op := Go.Op.load 27 (Go.Operand.tmp 7), type := 27, pos := "law.go:84", after := #[], guard := none }) (v := _) rfl (by kernel_rfl) (by kernel_rfl) (by kernel_rfl) (fun _ _ _ h => h) (by first
  | exact Or.inr ⟨by rfl, rfl⟩
  | (refine Or.inl ⟨by rfl, fun W hS => ?_⟩; obtain ⟨hc, hf⟩ := bcell hS; go_simp; exact ⟨rfl, hS⟩)) ?_
  simp only [Act.put, List.setIfInBounds_toArray, List.set_cons_zero, List.set_cons_succ]
  refine each_take (i := 1) (oi := { dst := some 17, op := Go.Op.load 27 (Go.Operand.tmp 8), type := 27, pos := "law.go:84", after := #[], guard := none }) (v := _) rfl (by kernel_rfl) (by kernel_rfl) (by kernel_rfl) (fun _ _ _ h => h) (by first
  | exact Or.inr ⟨by rfl, rfl⟩
  | (refine Or.inl ⟨by rfl, fun W hS => ?_⟩; obtain ⟨hc, hf⟩ := bcell hS; go_simp; exact ⟨rfl, hS⟩)) ?_
  simp only [Act.put, List.setIfInBounds_toArray, List.set_cons_zero, List.set_cons_succ]
  refine each_take (i := 2) (oi := { dst := some 18, op := Go.Op.call { callee := Go.Callee.value (Go.Operand.func 29), args := #[Go.Operand.tmp 16, Go.Operand.tmp 17], argTypes := #[27, 27] }, type := 27, pos := "law.go:84", after := #[{ on := 0, ground := Go.Ground.data }, { on := 1, ground := Go.Ground.data }], guard := none }) (v := _) rfl (by kernel_rfl) (by kernel_rfl) (by kernel_rfl) (fun _ _ _ h => h) (by first
  | exact Or.inr ⟨by rfl, rfl⟩
  | (refine Or.inl ⟨by rfl, fun W hS => ?_⟩; go_simp; show Calls _ _ _ _ _; refine (CA1.out _).mono ?_; rintro e w9 ⟨rfl, hb⟩; dsimp only [mv, mk0]; exact ⟨rfl, hS.trans (hb.mono hS.size)⟩)) ?_
  simp only [Act.put, List.setIfInBounds_toArray, List.set_cons_zero, List.set_cons_succ]
  refine each_take (i := 3) (oi := { dst := some 19, op := Go.Op.load 27 (Go.Operand.tmp 8), type := 27, pos := "law.go:84", after := #[], guard := none }) (v := _) rfl (by kernel_rfl) (by kernel_rfl) (by kernel_rfl) (fun _ _ _ h => h) (by first
  | exact Or.inr ⟨by rfl, rfl⟩
  | (refine Or.inl ⟨by rfl, fun W hS => ?_⟩; obtain ⟨hc, hf⟩ := bcell hS; go_simp; exact ⟨rfl, hS⟩)) ?_
  simp only [Act.put, List.setIfInBounds_toArray, List.set_cons_zero, List.set_cons_succ]
  refine each_take (i := 4) (oi := { dst := some 20, op := Go.Op.load 27 (Go.Operand.tmp 7), type := 27, pos := "law.go:84", after := #[], guard := none }) (v := _) rfl (by kernel_rfl) (by kernel_rfl) (by kernel_rfl) (fun _ _ _ h => h) (by first
  | exact Or.inr ⟨by rfl, rfl⟩
  | (refine Or.inl ⟨by rfl, fun W hS => ?_⟩; obtain ⟨hc, hf⟩ := bcell hS; go_simp; exact ⟨rfl, hS⟩)) ?_
  simp only [Act.put, List.setIfInBounds_toArray, List.set_cons_zero, List.set_cons_succ]
  refine each_take (i := 5) (oi := { dst := some 21, op := Go.Op.call { callee := Go.Callee.value (Go.Operand.func 29), args := #[Go.Operand.tmp 19, Go.Operand.tmp 20], argTypes := #[27, 27] }, type := 27, pos := "law.go:84", after := #[{ on := 3, ground := Go.Ground.data }, { on := 4, ground := Go.Ground.data }, { on := 2, ground := Go.Ground.chain }], guard := none }) (v := _) rfl (by kernel_rfl) (by kernel_rfl) (by kernel_rfl) (fun _ _ _ h => h) (by first
  | exact Or.inr ⟨by rfl, rfl⟩
  | (refine Or.inl ⟨by rfl, fun W hS => ?_⟩; go_simp; show Calls _ _ _ _ _; refine (CA2.out _).mono ?_; rintro e w9 ⟨rfl, hb⟩; dsimp only [mv, mk0]; exact ⟨rfl, hS.trans (hb.mono hS.size)⟩)) ?_
  simp only [Act.put, List.setIfInBounds_toArray, List.set_cons_zero, List.set_cons_succ]
  refine each_take (i := 6) (oi := { dst := some 22, op := Go.Op.binOp Go.BinOp.neq 27 (Go.Operand.tmp 18) (Go.Operand.tmp 21) 27, type := 4, pos := "law.go:84", after := #[{ on := 2, ground := Go.Ground.data }, { on := 5, ground := Go.Ground.data }], guard := none }) (v := _) rfl (by kernel_rfl) (by kernel_rfl) (by kernel_rfl) (fun _ _ _ h => h) (by first
  | exact Or.inr ⟨by rfl, rfl⟩
  | (refine Or.inl ⟨by rfl, fun W hS => ?_⟩; obtain ⟨hc, hf⟩ := bcell hS; go_simp; exact ⟨rfl, hS⟩)) ?_
  simp only [Act.put, List.setIfInBounds_toArray, List.set_cons_zero, List.set_cons_succ]
  refine each_take (i := 7) (oi := { dst := some 23, op := Go.Op.move (Go.Operand.tmp 22), type := 4, pos := "law.go:84", after := #[{ on := 6, ground := Go.Ground.data }, { on := 5, ground := Go.Ground.chain }], guard := none }) (v := _) rfl (by kernel_rfl) (by kernel_rfl) (by kernel_rfl) (fun _ _ _ h => h) (by first
  | exact Or.inr ⟨by rfl, rfl⟩
  | (refine Or.inl ⟨by rfl, fun W hS => ?_⟩; obtain ⟨hc, hf⟩ := bcell hS; go_simp; exact ⟨rfl, hS⟩)) ?_
  simp only [Act.put, List.setIfInBounds_toArray, List.set_cons_zero, List.set_cons_succ]
  refine each_take (i := 8) (oi := { dst := some 24, op := Go.Op.load 27 (Go.Operand.tmp 7), type := 27, pos := "law.go:84", after := #[{ on := 7, ground := Go.Ground.guard }], guard := some (7, false) }) (v := _) rfl (by kernel_rfl) (by kernel_rfl) (by kernel_rfl) (fun _ _ _ h => h) (by first
  | exact Or.inr ⟨by rfl, rfl⟩
  | (refine Or.inl ⟨by rfl, fun W hS => ?_⟩; obtain ⟨hc, hf⟩ := bcell hS; go_simp; exact ⟨rfl, hS⟩)) ?_
  simp only [Act.put, List.setIfInBounds_toArray, List.set_cons_zero, List.set_cons_succ]
  refine each_take (i := 9) (oi := { dst := some 25, op := Go.Op.load 27 (Go.Operand.tmp 8), type := 27, pos := "law.go:84", after := #[{ on := 7, ground := Go.Ground.guard }], guard := some (7, false) }) (v := _) rfl (by kernel_rfl) (by kernel_rfl) (by kernel_rfl) (fun _ _ _ h => h) (by first
  | exact Or.inr ⟨by rfl, rfl⟩
  | (refine Or.inl ⟨by rfl, fun W hS => ?_⟩; obtain ⟨hc, hf⟩ := bcell hS; go_simp; exact ⟨rfl, hS⟩)) ?_
  simp only [Act.put, List.setIfInBounds_toArray, List.set_cons_zero, List.set_cons_succ]
  refine each_take (i := 10) (oi := { dst := some 26, op := Go.Op.call { callee := Go.Callee.value (Go.Operand.func 31), args := #[Go.Operand.tmp 24, Go.Operand.tmp 25], argTypes := #[27, 27] }, type := 27, pos := "law.go:84", after := #[{ on := 8, ground := Go.Ground.data }, { on := 9, ground := Go.Ground.data }, { on := 7, ground := Go.Ground.chain }, { on := 7, ground := Go.Ground.guard }], guard := some (7, false) }) (v := _) rfl (by kernel_rfl) (by kernel_rfl) (by kernel_rfl) (fun _ _ _ h => h) (by first
  | exact Or.inr ⟨by rfl, rfl⟩
  | (refine Or.inl ⟨by rfl, fun W hS => ?_⟩; go_simp; show Calls _ _ _ _ _; refine (CO1.out _).mono ?_; rintro e w9 ⟨rfl, hb⟩; dsimp only [mv, mk0]; exact ⟨rfl, hS.trans (hb.mono hS.size)⟩)) ?_
  simp only [Act.put, List.setIfInBounds_toArray, List.set_cons_zero, List.set_cons_succ]
  refine each_take (i := 11) (oi := { dst := some 27, op := Go.Op.load 27 (Go.Operand.tmp 8), type := 27, pos := "law.go:84", after := #[{ on := 7, ground := Go.Ground.guard }], guard := some (7, false) }) (v := _) rfl (by kernel_rfl) (by kernel_rfl) (by kernel_rfl) (fun _ _ _ h => h) (by first
  | exact Or.inr ⟨by rfl, rfl⟩
  | (refine Or.inl ⟨by rfl, fun W hS => ?_⟩; obtain ⟨hc, hf⟩ := bcell hS; go_simp; exact ⟨rfl, hS⟩)) ?_
  simp only [Act.put, List.setIfInBounds_toArray, List.set_cons_zero, List.set_cons_succ]
  refine each_take (i := 12) (oi := { dst := some 28, op := Go.Op.load 27 (Go.Operand.tmp 7), type := 27, pos := "law.go:84", after := #[{ on := 7, ground := Go.Ground.guard }], guard := some (7, false) }) (v := _) rfl (by kernel_rfl) (by kernel_rfl) (by kernel_rfl) (fun _ _ _ h => h) (by first
  | exact Or.inr ⟨by rfl, rfl⟩
  | (refine Or.inl ⟨by rfl, fun W hS => ?_⟩; obtain ⟨hc, hf⟩ := bcell hS; go_simp; exact ⟨rfl, hS⟩)) ?_
  simp only [Act.put, List.setIfInBounds_toArray, List.set_cons_zero, List.set_cons_succ]
  refine each_take (i := 13) (oi := { dst := some 29, op := Go.Op.call { callee := Go.Callee.value (Go.Operand.func 31), args := #[Go.Operand.tmp 27, Go.Operand.tmp 28], argTypes := #[27, 27] }, type := 27, pos := "law.go:84", after := #[{ on := 11, ground := Go.Ground.data }, { on := 12, ground := Go.Ground.data }, { on := 10, ground := Go.Ground.chain }, { on := 7, ground := Go.Ground.guard }], guard := some (7, false) }) (v := _) rfl (by kernel_rfl) (by kernel_rfl) (by kernel_rfl) (fun _ _ _ h => h) (by first
  | exact Or.inr ⟨by rfl, rfl⟩
  | (refine Or.inl ⟨by rfl, fun W hS => ?_⟩; go_simp; show Calls _ _ _ _ _; refine (CO2.out _).mono ?_; rintro e w9 ⟨rfl, hb⟩; dsimp only [mv, mk0]; exact ⟨rfl, hS.trans (hb.mono hS.size)⟩)) ?_
  simp only [Act.put, List.setIfInBounds_toArray, List.set_cons_zero, List.set_cons_succ]
  refine each_take (i := 14) (oi := { dst := some 30, op := Go.Op.binOp Go.BinOp.neq 27 (Go.Operand.tmp 26) (Go.Operand.tmp 29) 27, type := 4, pos := "law.go:84", after := #[{ on := 10, ground := Go.Ground.data }, { on := 13, ground := Go.Ground.data }, { on := 7, ground := Go.Ground.guard }], guard := some (7, false) }) (v := _) rfl (by kernel_rfl) (by kernel_rfl) (by kernel_rfl) (fun _ _ _ h => h) (by first
  | exact Or.inr ⟨by rfl, rfl⟩
  | (refine Or.inl ⟨by rfl, fun W hS => ?_⟩; obtain ⟨hc, hf⟩ := bcell hS; go_simp; exact ⟨rfl, hS⟩)) ?_
  simp only [Act.put, List.setIfInBounds_toArray, List.set_cons_zero, List.set_cons_succ]
  refine each_take (i := 15) (oi := { dst := some 31, op := Go.Op.pick (Go.Operand.tmp 23) (Go.Operand.const (Go.Value.bool true)) (Go.Operand.tmp 30), type := 4, pos := "law.go:84", after := #[{ on := 7, ground := Go.Ground.data }, { on := 14, ground := Go.Ground.data }], guard := none }) (v := _) rfl (by kernel_rfl) (by kernel_rfl) (by kernel_rfl) (fun _ _ _ h => h) (by first
  | exact Or.inr ⟨by rfl, rfl⟩
  | (refine Or.inl ⟨by rfl, fun W hS => ?_⟩; obtain ⟨hc, hf⟩ := bcell hS; go_simp; exact ⟨rfl, hS⟩)) ?_
  simp only [Act.put, List.setIfInBounds_toArray, List.set_cons_zero, List.set_cons_succ]
  refine each_take (i := 16) (oi := { dst := some 32, op := Go.Op.move (Go.Operand.tmp 31), type := 4, pos := "law.go:84", after := #[{ on := 15, ground := Go.Ground.data }, { on := 13, ground := Go.Ground.chain }], guard := none }) (v := _) rfl (by kernel_rfl) (by kernel_rfl) (by kernel_rfl) (fun _ _ _ h => h) (by first
  | exact Or.inr ⟨by rfl, rfl⟩
  | (refine Or.inl ⟨by rfl, fun W hS => ?_⟩; obtain ⟨hc, hf⟩ := bcell hS; go_simp; exact ⟨rfl, hS⟩)) ?_
  simp only [Act.put, List.setIfInBounds_toArray, List.set_cons_zero, List.set_cons_succ]
  refine each_take (i := 17) (oi := { dst := some 33, op := Go.Op.load 27 (Go.Operand.tmp 7), type := 27, pos := "law.go:84", after := #[{ on := 16, ground := Go.Ground.guard }], guard := some (16, false) }) (v := _) rfl (by kernel_rfl) (by kernel_rfl) (by kernel_rfl) (fun _ _ _ h => h) (by first
  | exact Or.inr ⟨by rfl, rfl⟩
  | (refine Or.inl ⟨by rfl, fun W hS => ?_⟩; obtain ⟨hc, hf⟩ := bcell hS; go_simp; exact ⟨rfl, hS⟩)) ?_
  simp only [Act.put, List.setIfInBounds_toArray, List.set_cons_zero, List.set_cons_succ]
  refine each_take (i := 18) (oi := { dst := some 34, op := Go.Op.load 27 (Go.Operand.tmp 8), type := 27, pos := "law.go:84", after := #[{ on := 16, ground := Go.Ground.guard }], guard := some (16, false) }) (v := _) rfl (by kernel_rfl) (by kernel_rfl) (by kernel_rfl) (fun _ _ _ h => h) (by first
  | exact Or.inr ⟨by rfl, rfl⟩
  | (refine Or.inl ⟨by rfl, fun W hS => ?_⟩; obtain ⟨hc, hf⟩ := bcell hS; go_simp; exact ⟨rfl, hS⟩)) ?_
  simp only [Act.put, List.setIfInBounds_toArray, List.set_cons_zero, List.set_cons_succ]
  refine each_take (i := 19) (oi := { dst := some 35, op := Go.Op.load 27 (Go.Operand.tmp 9), type := 27, pos := "law.go:84", after := #[{ on := 16, ground := Go.Ground.guard }], guard := some (16, false) }) (v := _) rfl (by kernel_rfl) (by kernel_rfl) (by kernel_rfl) (fun _ _ _ h => h) (by first
  | exact Or.inr ⟨by rfl, rfl⟩
  | (refine Or.inl ⟨by rfl, fun W hS => ?_⟩; obtain ⟨hc, hf⟩ := bcell hS; go_simp; exact ⟨rfl, hS⟩)) ?_
  simp only [Act.put, List.setIfInBounds_toArray, List.set_cons_zero, List.set_cons_succ]
  refine each_take (i := 20) (oi := { dst := some 36, op := Go.Op.call { callee := Go.Callee.value (Go.Operand.func 31), args := #[Go.Operand.tmp 34, Go.Operand.tmp 35], argTypes := #[27, 27] }, type := 27, pos := "law.go:84", after := #[{ on := 18, ground := Go.Ground.data }, { on := 19, ground := Go.Ground.data }, { on := 16, ground := Go.Ground.chain }, { on := 16, ground := Go.Ground.guard }], guard := some (16, false) }) (v := _) rfl (by kernel_rfl) (by kernel_rfl) (by kernel_rfl) (fun _ _ _ h => h) (by first
  | exact Or.inr ⟨by rfl, rfl⟩
  | (refine Or.inl ⟨by rfl, fun W hS => ?_⟩; go_simp; show Calls _ _ _ _ _; refine (CO3.out _).mono ?_; rintro e w9 ⟨rfl, hb⟩; dsimp only [mv, mk0]; exact ⟨rfl, hS.trans (hb.mono hS.size)⟩)) ?_
  simp only [Act.put, List.setIfInBounds_toArray, List.set_cons_zero, List.set_cons_succ]
  refine each_take (i := 21) (oi := { dst := some 37, op := Go.Op.call { callee := Go.Callee.value (Go.Operand.func 29), args := #[Go.Operand.tmp 33, Go.Operand.tmp 36], argTypes := #[27, 27] }, type := 27, pos := "law.go:84", after := #[{ on := 17, ground := Go.Ground.data }, { on := 20, ground := Go.Ground.data }, { on := 20, ground := Go.Ground.chain }, { on := 16, ground := Go.Ground.guard }], guard := some (16, false) }) (v := _) rfl (by kernel_rfl) (by kernel_rfl) (by kernel_rfl) (fun _ _ _ h => h) (by first
  | exact Or.inr ⟨by rfl, rfl⟩
  | (refine Or.inl ⟨by rfl, fun W hS => ?_⟩; go_simp; show Calls _ _ _ _ _; refine (CA3.out _).mono ?_; rintro e w9 ⟨rfl, hb⟩; dsimp only [mv, mk0]; exact ⟨rfl, hS.trans (hb.mono hS.size)⟩)) ?_
  simp only [Act.put, List.setIfInBounds_toArray, List.set_cons_zero, List.set_cons_succ]
  refine each_take (i := 22) (oi := { dst := some 38, op := Go.Op.load 27 (Go.Operand.tmp 7), type := 27, pos := "law.go:84", after := #[{ on := 16, ground := Go.Ground.guard }], guard := some (16, false) }) (v := _) rfl (by kernel_rfl) (by kernel_rfl) (by kernel_rfl) (fun _ _ _ h => h) (by first
  | exact Or.inr ⟨by rfl, rfl⟩
  | (refine Or.inl ⟨by rfl, fun W hS => ?_⟩; obtain ⟨hc, hf⟩ := bcell hS; go_simp; exact ⟨rfl, hS⟩)) ?_
  simp only [Act.put, List.setIfInBounds_toArray, List.set_cons_zero, List.set_cons_succ]
  refine each_take (i := 23) (oi := { dst := some 39, op := Go.Op.load 27 (Go.Operand.tmp 8), type := 27, pos := "law.go:84", after := #[{ on := 16, ground := Go.Ground.guard }], guard := some (16, false) }) (v := _) rfl (by kernel_rfl) (by kernel_rfl) (by kernel_rfl) (fun _ _ _ h => h) (by first
  | exact Or.inr ⟨by rfl, rfl⟩
  | (refine Or.inl ⟨by rfl, fun W hS => ?_⟩; obtain ⟨hc, hf⟩ := bcell hS; go_simp; exact ⟨rfl, hS⟩)) ?_
  simp only [Act.put, List.setIfInBounds_toArray, List.set_cons_zero, List.set_cons_succ]
  refine each_take (i := 24) (oi := { dst := some 40, op := Go.Op.call { callee := Go.Callee.value (Go.Operand.func 29), args := #[Go.Operand.tmp 38, Go.Operand.tmp 39], argTypes := #[27, 27] }, type := 27, pos := "law.go:84", after := #[{ on := 22, ground := Go.Ground.data }, { on := 23, ground := Go.Ground.data }, { on := 21, ground := Go.Ground.chain }, { on := 16, ground := Go.Ground.guard }], guard := some (16, false) }) (v := _) rfl (by kernel_rfl) (by kernel_rfl) (by kernel_rfl) (fun _ _ _ h => h) (by first
  | exact Or.inr ⟨by rfl, rfl⟩
  | (refine Or.inl ⟨by rfl, fun W hS => ?_⟩; go_simp; show Calls _ _ _ _ _; refine (CA1.out _).mono ?_; rintro e w9 ⟨rfl, hb⟩; dsimp only [mv, mk0]; exact ⟨rfl, hS.trans (hb.mono hS.size)⟩)) ?_
  simp only [Act.put, List.setIfInBounds_toArray, List.set_cons_zero, List.set_cons_succ]
  refine each_take (i := 25) (oi := { dst := some 41, op := Go.Op.load 27 (Go.Operand.tmp 7), type := 27, pos := "law.go:84", after := #[{ on := 16, ground := Go.Ground.guard }], guard := some (16, false) }) (v := _) rfl (by kernel_rfl) (by kernel_rfl) (by kernel_rfl) (fun _ _ _ h => h) (by first
  | exact Or.inr ⟨by rfl, rfl⟩
  | (refine Or.inl ⟨by rfl, fun W hS => ?_⟩; obtain ⟨hc, hf⟩ := bcell hS; go_simp; exact ⟨rfl, hS⟩)) ?_
  simp only [Act.put, List.setIfInBounds_toArray, List.set_cons_zero, List.set_cons_succ]
  refine each_take (i := 26) (oi := { dst := some 42, op := Go.Op.load 27 (Go.Operand.tmp 9), type := 27, pos := "law.go:84", after := #[{ on := 16, ground := Go.Ground.guard }], guard := some (16, false) }) (v := _) rfl (by kernel_rfl) (by kernel_rfl) (by kernel_rfl) (fun _ _ _ h => h) (by first
  | exact Or.inr ⟨by rfl, rfl⟩
  | (refine Or.inl ⟨by rfl, fun W hS => ?_⟩; obtain ⟨hc, hf⟩ := bcell hS; go_simp; exact ⟨rfl, hS⟩)) ?_
  simp only [Act.put, List.setIfInBounds_toArray, List.set_cons_zero, List.set_cons_succ]
  refine each_take (i := 27) (oi := { dst := some 43, op := Go.Op.call { callee := Go.Callee.value (Go.Operand.func 29), args := #[Go.Operand.tmp 41, Go.Operand.tmp 42], argTypes := #[27, 27] }, type := 27, pos := "law.go:84", after := #[{ on := 25, ground := Go.Ground.data }, { on := 26, ground := Go.Ground.data }, { on := 24, ground := Go.Ground.chain }, { on := 16, ground := Go.Ground.guard }], guard := some (16, false) }) (v := _) rfl (by kernel_rfl) (by kernel_rfl) (by kernel_rfl) (fun _ _ _ h => h) (by first
  | exact Or.inr ⟨by rfl, rfl⟩
  | (refine Or.inl ⟨by rfl, fun W hS => ?_⟩; go_simp; show Calls _ _ _ _ _; refine (CA4.out _).mono ?_; rintro e w9 ⟨rfl, hb⟩; dsimp only [mv, mk0]; exact ⟨rfl, hS.trans (hb.mono hS.size)⟩)) ?_
  simp only [Act.put, List.setIfInBounds_toArray, List.set_cons_zero, List.set_cons_succ]
  refine each_take (i := 28) (oi := { dst := some 44, op := Go.Op.call { callee := Go.Callee.value (Go.Operand.func 31), args := #[Go.Operand.tmp 40, Go.Operand.tmp 43], argTypes := #[27, 27] }, type := 27, pos := "law.go:84", after := #[{ on := 24, ground := Go.Ground.data }, { on := 27, ground := Go.Ground.data }, { on := 27, ground := Go.Ground.chain }, { on := 16, ground := Go.Ground.guard }], guard := some (16, false) }) (v := _) rfl (by kernel_rfl) (by kernel_rfl) (by kernel_rfl) (fun _ _ _ h => h) (by first
  | exact Or.inr ⟨by rfl, rfl⟩
  | (refine Or.inl ⟨by rfl, fun W hS => ?_⟩; go_simp; show Calls _ _ _ _ _; refine (CO4.out _).mono ?_; rintro e w9 ⟨rfl, hb⟩; dsimp only [mv, mk0]; exact ⟨rfl, hS.trans (hb.mono hS.size)⟩)) ?_
  simp only [Act.put, List.setIfInBounds_toArray, List.set_cons_zero, List.set_cons_succ]
  refine each_take (i := 29) (oi := { dst := some 45, op := Go.Op.binOp Go.BinOp.neq 27 (Go.Operand.tmp 37) (Go.Operand.tmp 44) 27, type := 4, pos := "law.go:84", after := #[{ on := 21, ground := Go.Ground.data }, { on := 28, ground := Go.Ground.data }, { on := 16, ground := Go.Ground.guard }], guard := some (16, false) }) (v := _) rfl (by kernel_rfl) (by kernel_rfl) (by kernel_rfl) (fun _ _ _ h => h) (by first
  | exact Or.inr ⟨by rfl, rfl⟩
  | (refine Or.inl ⟨by rfl, fun W hS => ?_⟩; obtain ⟨hc, hf⟩ := bcell hS; go_simp; exact ⟨rfl, hS⟩)) ?_
  simp only [Act.put, List.setIfInBounds_toArray, List.set_cons_zero, List.set_cons_succ]
  refine each_take (i := 30) (oi := { dst := some 46, op := Go.Op.pick (Go.Operand.tmp 32) (Go.Operand.const (Go.Value.bool true)) (Go.Operand.tmp 45), type := 4, pos := "law.go:84", after := #[{ on := 16, ground := Go.Ground.data }, { on := 29, ground := Go.Ground.data }], guard := none }) (v := _) rfl (by kernel_rfl) (by kernel_rfl) (by kernel_rfl) (fun _ _ _ h => h) (by first
  | exact Or.inr ⟨by rfl, rfl⟩
  | (refine Or.inl ⟨by rfl, fun W hS => ?_⟩; obtain ⟨hc, hf⟩ := bcell hS; go_simp; exact ⟨rfl, hS⟩)) ?_
  simp only [Act.put, List.setIfInBounds_toArray, List.set_cons_zero, List.set_cons_succ]
  refine each_take (i := 31) (oi := { dst := some 47, op := Go.Op.move (Go.Operand.tmp 46), type := 4, pos := "law.go:84", after := #[{ on := 30, ground := Go.Ground.data }, { on := 28, ground := Go.Ground.chain }], guard := none }) (v := _) rfl (by kernel_rfl) (by kernel_rfl) (by kernel_rfl) (fun _ _ _ h => h) (by first
  | exact Or.inr ⟨by rfl, rfl⟩
  | (refine Or.inl ⟨by rfl, fun W hS => ?_⟩; obtain ⟨hc, hf⟩ := bcell hS; go_simp; exact ⟨rfl, hS⟩)) ?_
  simp only [Act.put, List.setIfInBounds_toArray, List.set_cons_zero, List.set_cons_succ]
  refine each_take (i := 32) (oi := { dst := some 48, op := Go.Op.load 27 (Go.Operand.tmp 7), type := 27, pos := "law.go:84", after := #[{ on := 31, ground := Go.Ground.guard }], guard := some (31, false) }) (v := _) rfl (by kernel_rfl) (by kernel_rfl) (by kernel_rfl) (fun _ _ _ h => h) (by first
  | exact Or.inr ⟨by rfl, rfl⟩
  | (refine Or.inl ⟨by rfl, fun W hS => ?_⟩; obtain ⟨hc, hf⟩ := bcell hS; go_simp; exact ⟨rfl, hS⟩)) ?_
  simp only [Act.put, List.setIfInBounds_toArray, List.set_cons_zero, List.set_cons_succ]
  refine each_take (i := 33) (oi := { dst := some 49, op := Go.Op.load 27 (Go.Operand.tmp 8), type := 27, pos := "law.go:84", after := #[{ on := 31, ground := Go.Ground.guard }], guard := some (31, false) }) (v := _) rfl (by kernel_rfl) (by kernel_rfl) (by kernel_rfl) (fun _ _ _ h => h) (by first
  | exact Or.inr ⟨by rfl, rfl⟩
  | (refine Or.inl ⟨by rfl, fun W hS => ?_⟩; obtain ⟨hc, hf⟩ := bcell hS; go_simp; exact ⟨rfl, hS⟩)) ?_
  simp only [Act.put, List.setIfInBounds_toArray, List.set_cons_zero, List.set_cons_succ]
  refine each_take (i := 34) (oi := { dst := some 50, op := Go.Op.load 27 (Go.Operand.tmp 9), type := 27, pos := "law.go:84", after := #[{ on := 31, ground := Go.Ground.guard }], guard := some (31, false) }) (v := _) rfl (by kernel_rfl) (by kernel_rfl) (by kernel_rfl) (fun _ _ _ h => h) (by first
  | exact Or.inr ⟨by rfl, rfl⟩
  | (refine Or.inl ⟨by rfl, fun W hS => ?_⟩; obtain ⟨hc, hf⟩ := bcell hS; go_simp; exact ⟨rfl, hS⟩)) ?_
  simp only [Act.put, List.setIfInBounds_toArray, List.set_cons_zero, List.set_cons_succ]
  refine each_take (i := 35) (oi := { dst := some 51, op := Go.Op.call { callee := Go.Callee.value (Go.Operand.func 31), args := #[Go.Operand.tmp 49, Go.Operand.tmp 50], argTypes := #[27, 27] }, type := 27, pos := "law.go:84", after := #[{ on := 33, ground := Go.Ground.data }, { on := 34, ground := Go.Ground.data }, { on := 31, ground := Go.Ground.chain }, { on := 31, ground := Go.Ground.guard }], guard := some (31, false) }) (v := _) rfl (by kernel_rfl) (by kernel_rfl) (by kernel_rfl) (fun _ _ _ h => h) (by first
  | exact Or.inr ⟨by rfl, rfl⟩
  | (refine Or.inl ⟨by rfl, fun W hS => ?_⟩; go_simp; show Calls _ _ _ _ _; refine (CO3.out _).mono ?_; rintro e w9 ⟨rfl, hb⟩; dsimp only [mv, mk0]; exact ⟨rfl, hS.trans (hb.mono hS.size)⟩)) ?_
  simp only [Act.put, List.setIfInBounds_toArray, List.set_cons_zero, List.set_cons_succ]
  refine each_take (i := 36) (oi := { dst := some 52, op := Go.Op.call { callee := Go.Callee.value (Go.Operand.func 27), args := #[Go.Operand.tmp 48, Go.Operand.tmp 51], argTypes := #[27, 27] }, type := 27, pos := "law.go:84", after := #[{ on := 32, ground := Go.Ground.data }, { on := 35, ground := Go.Ground.data }, { on := 35, ground := Go.Ground.chain }, { on := 31, ground := Go.Ground.guard }], guard := some (31, false) }) (v := _) rfl (by kernel_rfl) (by kernel_rfl) (by kernel_rfl) (fun _ _ _ h => h) (by first
  | exact Or.inr ⟨by rfl, rfl⟩
  | (refine Or.inl ⟨by rfl, fun W hS => ?_⟩; go_simp; show Calls _ _ _ _ _; refine (CM1.out _).mono ?_; rintro e w9 ⟨rfl, hb⟩; dsimp only [mv, mk0]; exact ⟨rfl, hS.trans (hb.mono hS.size)⟩)) ?_
  simp only [Act.put, List.setIfInBounds_toArray, List.set_cons_zero, List.set_cons_succ]
  refine each_take (i := 37) (oi := { dst := some 53, op := Go.Op.load 27 (Go.Operand.tmp 7), type := 27, pos := "law.go:84", after := #[{ on := 31, ground := Go.Ground.guard }], guard := some (31, false) }) (v := _) rfl (by kernel_rfl) (by kernel_rfl) (by kernel_rfl) (fun _ _ _ h => h) (by first
  | exact Or.inr ⟨by rfl, rfl⟩
  | (refine Or.inl ⟨by rfl, fun W hS => ?_⟩; obtain ⟨hc, hf⟩ := bcell hS; go_simp; exact ⟨rfl, hS⟩)) ?_
  simp only [Act.put, List.setIfInBounds_toArray, List.set_cons_zero, List.set_cons_succ]
  refine each_take (i := 38) (oi := { dst := some 54, op := Go.Op.load 27 (Go.Operand.tmp 8), type := 27, pos := "law.go:84", after := #[{ on := 31, ground := Go.Ground.guard }], guard := some (31, false) }) (v := _) rfl (by kernel_rfl) (by kernel_rfl) (by kernel_rfl) (fun _ _ _ h => h) (by first
  | exact Or.inr ⟨by rfl, rfl⟩
  | (refine Or.inl ⟨by rfl, fun W hS => ?_⟩; obtain ⟨hc, hf⟩ := bcell hS; go_simp; exact ⟨rfl, hS⟩)) ?_
  simp only [Act.put, List.setIfInBounds_toArray, List.set_cons_zero, List.set_cons_succ]
  refine each_take (i := 39) (oi := { dst := some 55, op := Go.Op.call { callee := Go.Callee.value (Go.Operand.func 27), args := #[Go.Operand.tmp 53, Go.Operand.tmp 54], argTypes := #[27, 27] }, type := 27, pos := "law.go:84", after := #[{ on := 37, ground := Go.Ground.data }, { on := 38, ground := Go.Ground.data }, { on := 36, ground := Go.Ground.chain }, { on := 31, ground := Go.Ground.guard }], guard := some (31, false) }) (v := _) rfl (by kernel_rfl) (by kernel_rfl) (by kernel_rfl) (fun _ _ _ h => h) (by first
  | exact Or.inr ⟨by rfl, rfl⟩
  | (refine Or.inl ⟨by rfl, fun W hS => ?_⟩; go_simp; show Calls _ _ _ _ _; refine (CM2.out _).mono ?_; rintro e w9 ⟨rfl, hb⟩; dsimp only [mv, mk0]; exact ⟨rfl, hS.trans (hb.mono hS.size)⟩)) ?_
  simp only [Act.put, List.setIfInBounds_toArray, List.set_cons_zero, List.set_cons_succ]
  refine each_take (i := 40) (oi := { dst := some 56, op := Go.Op.load 27 (Go.Operand.tmp 9), type := 27, pos := "law.go:84", after := #[{ on := 31, ground := Go.Ground.guard }], guard := some (31, false) }) (v := _) rfl (by kernel_rfl) (by kernel_rfl) (by kernel_rfl) (fun _ _ _ h => h) (by first
  | exact Or.inr ⟨by rfl, rfl⟩
  | (refine Or.inl ⟨by rfl, fun W hS => ?_⟩; obtain ⟨hc, hf⟩ := bcell hS; go_simp; exact ⟨rfl, hS⟩)) ?_
  simp only [Act.put, List.setIfInBounds_toArray, List.set_cons_zero, List.set_cons_succ]
  refine each_take (i := 41) (oi := { dst := some 57, op := Go.Op.call { callee := Go.Callee.value (Go.Operand.func 27), args := #[Go.Operand.tmp 55, Go.Operand.tmp 56], argTypes := #[27, 27] }, type := 27, pos := "law.go:84", after := #[{ on := 39, ground := Go.Ground.data }, { on := 40, ground := Go.Ground.data }, { on := 39, ground := Go.Ground.chain }, { on := 31, ground := Go.Ground.guard }], guard := some (31, false) }) (v := _) rfl (by kernel_rfl) (by kernel_rfl) (by kernel_rfl) (fun _ _ _ h => h) (by first
  | exact Or.inr ⟨by rfl, rfl⟩
  | (refine Or.inl ⟨by rfl, fun W hS => ?_⟩; go_simp; show Calls _ _ _ _ _; refine (CM3.out _).mono ?_; rintro e w9 ⟨rfl, hb⟩; dsimp only [mv, mk0]; exact ⟨rfl, hS.trans (hb.mono hS.size)⟩)) ?_
  simp only [Act.put, List.setIfInBounds_toArray, List.set_cons_zero, List.set_cons_succ]
  refine each_take (i := 42) (oi := { dst := some 58, op := Go.Op.binOp Go.BinOp.neq 27 (Go.Operand.tmp 52) (Go.Operand.tmp 57) 27, type := 4, pos := "law.go:84", after := #[{ on := 36, ground := Go.Ground.data }, { on := 41, ground := Go.Ground.data }, { on := 31, ground := Go.Ground.guard }], guard := some (31, false) }) (v := _) rfl (by kernel_rfl) (by kernel_rfl) (by kernel_rfl) (fun _ _ _ h => h) (by first
  | exact Or.inr ⟨by rfl, rfl⟩
  | (refine Or.inl ⟨by rfl, fun W hS => ?_⟩; obtain ⟨hc, hf⟩ := bcell hS; go_simp; exact ⟨rfl, hS⟩)) ?_
  simp only [Act.put, List.setIfInBounds_toArray, List.set_cons_zero, List.set_cons_succ]
  refine each_take (i := 43) (oi := { dst := some 59, op := Go.Op.pick (Go.Operand.tmp 47) (Go.Operand.const (Go.Value.bool true)) (Go.Operand.tmp 58), type := 4, pos := "law.go:84", after := #[{ on := 31, ground := Go.Ground.data }, { on := 42, ground := Go.Ground.data }], guard := none }) (v := _) rfl (by kernel_rfl) (by kernel_rfl) (by kernel_rfl) (fun _ _ _ h => h) (by first
  | exact Or.inr ⟨by rfl, rfl⟩
  | (refine Or.inl ⟨by rfl, fun W hS => ?_⟩; obtain ⟨hc, hf⟩ := bcell hS; go_simp; exact ⟨rfl, hS⟩)) ?_
  simp only [Act.put, List.setIfInBounds_toArray, List.set_cons_zero, List.set_cons_succ]
  refine each_done (by kernel_rfl) (fun W1 hS => ?_) _
  have k1 := Lib.hid (g1.out.below hS g1.out.lt)
  have k2 := Lib.hid (g2.out.below hS g2.out.lt)
  have k3 := Lib.hid (g3.out.below hS g3.out.lt)
  have k4 := Lib.hid (g4.out.below hS g4.out.lt)
  have k5 := Lib.hid (g5.out.below hS g5.out.lt)
  have k6 := Lib.hid (g6.out.below hS g6.out.lt)
  have kW := Lib.hid (gW.out.trans (hS.mono gW.out.size))
  clear g1 c10 c11 c12 c13 l1 g2 c20 c21 c22 c23 l2 g3 c30 c31 c32 c33 l3 g4 c40 c41 c42 c43 l4 g5 c50 c51 c52 c53 l5 g6 c60 c61 c62 c63 l6 gW hS
  go_wp2
  obtain ⟨c10, c11, c12, c13, f10, f11, f12, f13⟩ := k1.out.all4; have l1 := k1.out.lt; clear f10 f11 f12 f13
  obtain ⟨c20, c21, c22, c23, f20, f21, f22, f23⟩ := k2.out.all4; have l2 := k2.out.lt; clear f20 f21 f22 f23
  obtain ⟨c30, c31, c32, c33, f30, f31, f32, f33⟩ := k3.out.all4; have l3 := k3.out.lt; clear f30 f31 f32 f33
  obtain ⟨c40, c41, c42, c43, f40, f41, f42, f43⟩ := k4.out.all4; have l4 := k4.out.lt; clear f40 f41 f42 f43
  obtain ⟨c50, c51, c52, c53, f50, f51, f52, f53⟩ := k5.out.all4; have l5 := k5.out.lt; clear f50 f51 f52 f53
  obtain ⟨c60, c61, c62, c63, f60, f61, f62, f63⟩ := k6.out.all4; have l6 := k6.out.lt; clear f60 f61 f62 f63
  have hsm := HSUM.out
  have hw1 : IntKind.i64.wrap (((n1 : Nat) : Int) + (n2 : Nat)) = ((n1 : Nat) : Int) + (n2 : Nat) := by simp [IntKind.wrap, IntKind.signed, IntKind.bits]; omega
  have hw2 : IntKind.i64.wrap (((n3 : Nat) : Int) + (n4 : Nat)) = ((n3 : Nat) : Int) + (n4 : Nat) := by simp [IntKind.wrap, IntKind.signed, IntKind.bits]; omega
  clear b1 b2 b3 b4
  refine wp_region_each (S := Below W1.heap.size W1) (by kernel_rfl) ((Below.refl _ _).drew) ?_
  refine each_take (i := 0) (oi := { dst := some 60, op := Go.Op.load 27 (Go.Operand.tmp 7), type := 27, pos := "law.go:87", after := #[], guard := none }) (v := _) rfl (by kernel_rfl) (by kernel_rfl) (by kernel_rfl) (fun _ _ _ h => h) (by first
  | exact Or.inr ⟨by rfl, rfl⟩
  | (refine Or.inl ⟨by rfl, fun W hS => ?_⟩; obtain ⟨hc, hf⟩ := bcell hS; go_simp; exact ⟨rfl, hS⟩)) ?_
  simp only [Act.put, List.setIfInBounds_toArray, List.set_cons_zero, List.set_cons_succ]
  refine each_take (i := 1) (oi := { dst := some 61, op := Go.Op.load 27 (Go.Operand.tmp 8), type := 27, pos := "law.go:87", after := #[], guard := none }) (v := _) rfl (by kernel_rfl) (by kernel_rfl) (by kernel_rfl) (fun _ _ _ h => h) (by first
  | exact Or.inr ⟨by rfl, rfl⟩
  | (refine Or.inl ⟨by rfl, fun W hS => ?_⟩; obtain ⟨hc, hf⟩ := bcell hS; go_simp; exact ⟨rfl, hS⟩)) ?_
  simp only [Act.put, List.setIfInBounds_toArray, List.set_cons_zero, List.set_cons_succ]
  refine each_take (i := 2) (oi := { dst := some 62, op := Go.Op.call { callee := Go.Callee.value (Go.Operand.func 29), args := #[Go.Operand.tmp 60, Go.Operand.tmp 61], argTypes := #[27, 27] }, type := 27, pos := "law.go:87", after := #[{ on := 0, ground := Go.Ground.data }, { on := 1, ground := Go.Ground.data }], guard := none }) (v := _) rfl (by kernel_rfl) (by kernel_rfl) (by kernel_rfl) (fun _ _ _ h => h) (by first
  | exact Or.inr ⟨by rfl, rfl⟩
  | (refine Or.inl ⟨by rfl, fun W hS => ?_⟩; go_simp; show Calls _ _ _ _ _; refine (CA1.out _).mono ?_; rintro e w9 ⟨rfl, hb⟩; dsimp only [mv, mk0]; exact ⟨rfl, hS.trans (hb.mono hS.size)⟩)) ?_
  simp only [Act.put, List.setIfInBounds_toArray, List.set_cons_zero, List.set_cons_succ]
  refine each_take (i := 3) (oi := { dst := some 63, op := Go.Op.call { callee := Go.Callee.value (Go.Operand.func 18), args := #[Go.Operand.tmp 62], argTypes := #[27] }, type := 3, pos := "law.go:87", after := #[{ on := 2, ground := Go.Ground.data }, { on := 2, ground := Go.Ground.chain }], guard := none }) (v := _) rfl (by kernel_rfl) (by kernel_rfl) (by kernel_rfl) (fun _ _ _ h => h) (by first
  | exact Or.inr ⟨by rfl, rfl⟩
  | (refine Or.inl ⟨by rfl, fun W hS => ?_⟩; go_simp; show Calls _ _ _ _ _; refine (CN1.out _).mono ?_; rintro e w9 ⟨rfl, hb⟩; exact ⟨rfl, hS.trans (hb.mono hS.size)⟩)) ?_
  simp only [Act.put, List.setIfInBounds_toArray, List.set_cons_zero, List.set_cons_succ]
  refine each_take (i := 4) (oi := { dst := some 64, op := Go.Op.load 27 (Go.Operand.tmp 7), type := 27, pos := "law.go:87", after := #[], guard := none }) (v := _) rfl (by kernel_rfl) (by kernel_rfl) (by kernel_rfl) (fun _ _ _ h => h) (by first
  | exact Or.inr ⟨by rfl, rfl⟩
  | (refine Or.inl ⟨by rfl, fun W hS => ?_⟩; obtain ⟨hc, hf⟩ := bcell hS; go_simp; exact ⟨rfl, hS⟩)) ?_
  simp only [Act.put, List.setIfInBounds_toArray, List.set_cons_zero, List.set_cons_succ]
  refine each_take (i := 5) (oi := { dst := some 65, op := Go.Op.load 27 (Go.Operand.tmp 8), type := 27, pos := "law.go:87", after := #[], guard := none }) (v := _) rfl (by kernel_rfl) (by kernel_rfl) (by kernel_rfl) (fun _ _ _ h => h) (by first
  | exact Or.inr ⟨by rfl, rfl⟩
  | (refine Or.inl ⟨by rfl, fun W hS => ?_⟩; obtain ⟨hc, hf⟩ := bcell hS; go_simp; exact ⟨rfl, hS⟩)) ?_
  simp only [Act.put, List.setIfInBounds_toArray, List.set_cons_zero, List.set_cons_succ]
  refine each_take (i := 6) (oi := { dst := some 66, op := Go.Op.call { callee := Go.Callee.value (Go.Operand.func 31), args := #[Go.Operand.tmp 64, Go.Operand.tmp 65], argTypes := #[27, 27] }, type := 27, pos := "law.go:87", after := #[{ on := 4, ground := Go.Ground.data }, { on := 5, ground := Go.Ground.data }, { on := 3, ground := Go.Ground.chain }], guard := none }) (v := _) rfl (by kernel_rfl) (by kernel_rfl) (by kernel_rfl) (fun _ _ _ h => h) (by first
  | exact Or.inr ⟨by rfl, rfl⟩
  | (refine Or.inl ⟨by rfl, fun W hS => ?_⟩; go_simp; show Calls _ _ _ _ _; refine (CO1.out _).mono ?_; rintro e w9 ⟨rfl, hb⟩; dsimp only [mv, mk0]; exact ⟨rfl, hS.trans (hb.mono hS.size)⟩)) ?_
  simp only [Act.put, List.setIfInBounds_toArray, List.set_cons_zero, List.set_cons_succ]
  refine each_take (i := 7) (oi := { dst := some 67, op := Go.Op.call { callee := Go.Callee.value (Go.Operand.func 18), args := #[Go.Operand.tmp 66], argTypes := #[27] }, type := 3, pos := "law.go:87", after := #[{ on := 6, ground := Go.Ground.data }, { on := 6, ground := Go.Ground.chain }], guard := none }) (v := _) rfl (by kernel_rfl) (by kernel_rfl) (by kernel_rfl) (fun _ _ _ h => h) (by first
  | exact Or.inr ⟨by rfl, rfl⟩
  | (refine Or.inl ⟨by rfl, fun W hS => ?_⟩; go_simp; show Calls _ _ _ _ _; refine (CN2.out _).mono ?_; rintro e w9 ⟨rfl, hb⟩; exact ⟨rfl, hS.trans (hb.mono hS.size)⟩)) ?_
  simp only [Act.put, List.setIfInBounds_toArray, List.set_cons_zero, List.set_cons_succ]
  refine each_take (i := 8) (oi := { dst := some 68, op := Go.Op.binOp Go.BinOp.add 3 (Go.Operand.tmp 63) (Go.Operand.tmp 67) 3, type := 3, pos := "law.go:87", after := #[{ on := 3, ground := Go.Ground.data }, { on := 7, ground := Go.Ground.data }], guard := none }) (v := _) rfl (by kernel_rfl) (by kernel_rfl) (by kernel_rfl) (fun _ _ _ h => h) (by first
  | exact Or.inr ⟨by rfl, rfl⟩
  | (refine Or.inl ⟨by rfl, fun W hS => ?_⟩; obtain ⟨hc, hf⟩ := bcell hS; go_simp; exact ⟨rfl, hS⟩)) ?_
  simp only [Act.put, List.setIfInBounds_toArray, List.set_cons_zero, List.set_cons_succ]
  refine each_take (i := 9) (oi := { dst := some 69, op := Go.Op.load 27 (Go.Operand.tmp 7), type := 27, pos := "law.go:87", after := #[], guard := none }) (v := _) rfl (by kernel_rfl) (by kernel_rfl) (by kernel_rfl) (fun _ _ _ h => h) (by first
  | exact Or.inr ⟨by rfl, rfl⟩
  | (refine Or.inl ⟨by rfl, fun W hS => ?_⟩; obtain ⟨hc, hf⟩ := bcell hS; go_simp; exact ⟨rfl, hS⟩)) ?_
  simp only [Act.put, List.setIfInBounds_toArray, List.set_cons_zero, List.set_cons_succ]
  refine each_take (i := 10) (oi := { dst := some 70, op := Go.Op.call { callee := Go.Callee.value (Go.Operand.func 18), args := #[Go.Operand.tmp 69], argTypes := #[27] }, type := 3, pos := "law.go:87", after := #[{ on := 9, ground := Go.Ground.data }, { on := 7, ground := Go.Ground.chain }], guard := none }) (v := _) rfl (by kernel_rfl) (by kernel_rfl) (by kernel_rfl) (fun _ _ _ h => h) (by first
  | exact Or.inr ⟨by rfl, rfl⟩
  | (refine Or.inl ⟨by rfl, fun W hS => ?_⟩; go_simp; show Calls _ _ _ _ _; refine (CN3.out _).mono ?_; rintro e w9 ⟨rfl, hb⟩; exact ⟨rfl, hS.trans (hb.mono hS.size)⟩)) ?_
  simp only [Act.put, List.setIfInBounds_toArray, List.set_cons_zero, List.set_cons_succ]
  refine each_take (i := 11) (oi := { dst := some 71, op := Go.Op.load 27 (Go.Operand.tmp 8), type := 27, pos := "law.go:87", after := #[], guard := none }) (v := _) rfl (by kernel_rfl) (by kernel_rfl) (by kernel_rfl) (fun _ _ _ h => h) (by first
  | exact Or.inr ⟨by rfl, rfl⟩
  | (refine Or.inl ⟨by rfl, fun W hS => ?_⟩; obtain ⟨hc, hf⟩ := bcell hS; go_simp; exact ⟨rfl, hS⟩)) ?_
  simp only [Act.put, List.setIfInBounds_toArray, List.set_cons_zero, List.set_cons_succ]
  refine each_take (i := 12) (oi := { dst := some 72, op := Go.Op.call { callee := Go.Callee.value (Go.Operand.func 18), args := #[Go.Operand.tmp 71], argTypes := #[27] }, type := 3, pos := "law.go:87", after := #[{ on := 11, ground := Go.Ground.data }, { on := 10, ground := Go.Ground.chain }], guard := none }) (v := _) rfl (by kernel_rfl) (by kernel_rfl) (by kernel_rfl) (fun _ _ _ h => h) (by first
  | exact Or.inr ⟨by rfl, rfl⟩
  | (refine Or.inl ⟨by rfl, fun W hS => ?_⟩; go_simp; show Calls _ _ _ _ _; refine (CN4.out _).mono ?_; rintro e w9 ⟨rfl, hb⟩; exact ⟨rfl, hS.trans (hb.mono hS.size)⟩)) ?_
  simp only [Act.put, List.setIfInBounds_toArray, List.set_cons_zero, List.set_cons_succ]
  refine each_take (i := 13) (oi := { dst := some 73, op := Go.Op.binOp Go.BinOp.add 3 (Go.Operand.tmp 70) (Go.Operand.tmp 72) 3, type := 3, pos := "law.go:87", after := #[{ on := 10, ground := Go.Ground.data }, { on := 12, ground := Go.Ground.data }], guard := none }) (v := _) rfl (by kernel_rfl) (by kernel_rfl) (by kernel_rfl) (fun _ _ _ h => h) (by first
  | exact Or.inr ⟨by rfl, rfl⟩
  | (refine Or.inl ⟨by rfl, fun W hS => ?_⟩; obtain ⟨hc, hf⟩ := bcell hS; go_simp; exact ⟨rfl, hS⟩)) ?_
  simp only [Act.put, List.setIfInBounds_toArray, List.set_cons_zero, List.set_cons_succ]
  refine each_take (i := 14) (oi := { dst := some 74, op := Go.Op.binOp Go.BinOp.eql 3 (Go.Operand.tmp 68) (Go.Operand.tmp 73) 3, type := 4, pos := "law.go:87", after := #[{ on := 8, ground := Go.Ground.data }, { on := 13, ground := Go.Ground.data }], guard := none }) (v := _) rfl (by kernel_rfl) (by kernel_rfl) (by kernel_rfl) (fun _ _ _ h => h) (by first
  | exact Or.inr ⟨by rfl, rfl⟩
  | (refine Or.inl ⟨by rfl, fun W hS => ?_⟩; obtain ⟨hc, hf⟩ := bcell hS; go_simp; exact ⟨rfl, hS⟩)) ?_
  simp only [Act.put, List.setIfInBounds_toArray, List.set_cons_zero, List.set_cons_succ]
  refine each_take (i := 15) (oi := { dst := some 75, op := Go.Op.move (Go.Operand.tmp 74), type := 4, pos := "law.go:87", after := #[{ on := 14, ground := Go.Ground.data }, { on := 12, ground := Go.Ground.chain }], guard := none }) (v := _) rfl (by kernel_rfl) (by kernel_rfl) (by kernel_rfl) (fun _ _ _ h => h) (by first
  | exact Or.inr ⟨by rfl, rfl⟩
  | (refine Or.inl ⟨by rfl, fun W hS => ?_⟩; obtain ⟨hc, hf⟩ := bcell hS; go_simp; exact ⟨rfl, hS⟩)) ?_
  simp only [Act.put, List.setIfInBounds_toArray, List.set_cons_zero, List.set_cons_succ]
  refine each_take (i := 16) (oi := { dst := some 76, op := Go.Op.load 27 (Go.Operand.tmp 7), type := 27, pos := "law.go:87", after := #[{ on := 15, ground := Go.Ground.guard }], guard := some (15, true) }) (v := _) rfl (by kernel_rfl) (by kernel_rfl) (by kernel_rfl) (fun _ _ _ h => h) (by first
  | exact Or.inr ⟨by rfl, rfl⟩
  | (refine Or.inl ⟨by rfl, fun W hS => ?_⟩; obtain ⟨hc, hf⟩ := bcell hS; go_simp; exact ⟨rfl, hS⟩)) ?_
  simp only [Act.put, List.setIfInBounds_toArray, List.set_cons_zero, List.set_cons_succ]
  refine each_take (i := 17) (oi := { dst := some 77, op := Go.Op.load 27 (Go.Operand.tmp 8), type := 27, pos := "law.go:87", after := #[{ on := 15, ground := Go.Ground.guard }], guard := some (15, true) }) (v := _) rfl (by kernel_rfl) (by kernel_rfl) (by kernel_rfl) (fun _ _ _ h => h) (by first
  | exact Or.inr ⟨by rfl, rfl⟩
  | (refine Or.inl ⟨by rfl, fun W hS => ?_⟩; obtain ⟨hc, hf⟩ := bcell hS; go_simp; exact ⟨rfl, hS⟩)) ?_
  simp only [Act.put, List.setIfInBounds_toArray, List.set_cons_zero, List.set_cons_succ]
  refine each_take (i := 18) (oi := { dst := some 78, op := Go.Op.call { callee := Go.Callee.value (Go.Operand.func 27), args := #[Go.Operand.tmp 76, Go.Operand.tmp 77], argTypes := #[27, 27] }, type := 27, pos := "law.go:87", after := #[{ on := 16, ground := Go.Ground.data }, { on := 17, ground := Go.Ground.data }, { on := 15, ground := Go.Ground.chain }, { on := 15, ground := Go.Ground.guard }], guard := some (15, true) }) (v := _) rfl (by kernel_rfl) (by kernel_rfl) (by kernel_rfl) (fun _ _ _ h => h) (by first
  | exact Or.inr ⟨by rfl, rfl⟩
  | (refine Or.inl ⟨by rfl, fun W hS => ?_⟩; go_simp; show Calls _ _ _ _ _; refine (CM2.out _).mono ?_; rintro e w9 ⟨rfl, hb⟩; dsimp only [mv, mk0]; exact ⟨rfl, hS.trans (hb.mono hS.size)⟩)) ?_
  simp only [Act.put, List.setIfInBounds_toArray, List.set_cons_zero, List.set_cons_succ]
  refine each_take (i := 19) (oi := { dst := some 79, op := Go.Op.load 27 (Go.Operand.tmp 7), type := 27, pos := "law.go:87", after := #[{ on := 15, ground := Go.Ground.guard }], guard := some (15, true) }) (v := _) rfl (by kernel_rfl) (by kernel_rfl) (by kernel_rfl) (fun _ _ _ h => h) (by first
  | exact Or.inr ⟨by rfl, rfl⟩
  | (refine Or.inl ⟨by rfl, fun W hS => ?_⟩; obtain ⟨hc, hf⟩ := bcell hS; go_simp; exact ⟨rfl, hS⟩)) ?_
  simp only [Act.put, List.setIfInBounds_toArray, List.set_cons_zero, List.set_cons_succ]
  refine each_take (i := 20) (oi := { dst := some 80, op := Go.Op.load 27 (Go.Operand.tmp 8), type := 27, pos := "law.go:87", after := #[{ on := 15, ground := Go.Ground.guard }], guard := some (15, true) }) (v := _) rfl (by kernel_rfl) (by kernel_rfl) (by kernel_rfl) (fun _ _ _ h => h) (by first
  | exact Or.inr ⟨by rfl, rfl⟩
  | (refine Or.inl ⟨by rfl, fun W hS => ?_⟩; obtain ⟨hc, hf⟩ := bcell hS; go_simp; exact ⟨rfl, hS⟩)) ?_
  simp only [Act.put, List.setIfInBounds_toArray, List.set_cons_zero, List.set_cons_succ]
  refine each_take (i := 21) (oi := { dst := some 81, op := Go.Op.call { callee := Go.Callee.value (Go.Operand.func 29), args := #[Go.Operand.tmp 79, Go.Operand.tmp 80], argTypes := #[27, 27] }, type := 27, pos := "law.go:87", after := #[{ on := 19, ground := Go.Ground.data }, { on := 20, ground := Go.Ground.data }, { on := 18, ground := Go.Ground.chain }, { on := 15, ground := Go.Ground.guard }], guard := some (15, true) }) (v := _) rfl (by kernel_rfl) (by kernel_rfl) (by kernel_rfl) (fun _ _ _ h => h) (by first
  | exact Or.inr ⟨by rfl, rfl⟩
  | (refine Or.inl ⟨by rfl, fun W hS => ?_⟩; go_simp; show Calls _ _ _ _ _; refine (CA1.out _).mono ?_; rintro e w9 ⟨rfl, hb⟩; dsimp only [mv, mk0]; exact ⟨rfl, hS.trans (hb.mono hS.size)⟩)) ?_
  simp only [Act.put, List.setIfInBounds_toArray, List.set_cons_zero, List.set_cons_succ]
  refine each_take (i := 22) (oi := { dst := some 82, op := Go.Op.call { callee := Go.Callee.value (Go.Operand.func 31), args := #[Go.Operand.tmp 78, Go.Operand.tmp 81], argTypes := #[27, 27] }, type := 27, pos := "law.go:87", after := #[{ on := 18, ground := Go.Ground.data }, { on := 21, ground := Go.Ground.data }, { on := 21, ground := Go.Ground.chain }, { on := 15, ground := Go.Ground.guard }], guard := some (15, true) }) (v := _) rfl (by kernel_rfl) (by kernel_rfl) (by kernel_rfl) (fun _ _ _ h => h) (by first
  | exact Or.inr ⟨by rfl, rfl⟩
  | (refine Or.inl ⟨by rfl, fun W hS => ?_⟩; go_simp; show Calls _ _ _ _ _; refine (CO5.out _).mono ?_; rintro e w9 ⟨rfl, hb⟩; dsimp only [mv, mk0]; exact ⟨rfl, hS.trans (hb.mono hS.size)⟩)) ?_
  simp only [Act.put, List.setIfInBounds_toArray, List.set_cons_zero, List.set_cons_succ]
  refine each_take (i := 23) (oi := { dst := some 83, op := Go.Op.load 27 (Go.Operand.tmp 7), type := 27, pos := "law.go:87", after := #[{ on := 15, ground := Go.Ground.guard }], guard := some (15, true) }) (v := _) rfl (by kernel_rfl) (by kernel_rfl) (by kernel_rfl) (fun _ _ _ h => h) (by first
  | exact Or.inr ⟨by rfl, rfl⟩
  | (refine Or.inl ⟨by rfl, fun W hS => ?_⟩; obtain ⟨hc, hf⟩ := bcell hS; go_simp; exact ⟨rfl, hS⟩)) ?_
  simp only [Act.put, List.setIfInBounds_toArray, List.set_cons_zero, List.set_cons_succ]
  refine each_take (i := 24) (oi := { dst := some 84, op := Go.Op.binOp Go.BinOp.eql 27 (Go.Operand.tmp 82) (Go.Operand.tmp 83) 27, type := 4, pos := "law.go:87", after := #[{ on := 22, ground := Go.Ground.data }, { on := 23, ground := Go.Ground.data }, { on := 15, ground := Go.Ground.guard }], guard := some (15, true) }) (v := _) rfl (by kernel_rfl) (by kernel_rfl) (by kernel_rfl) (fun _ _ _ h => h) (by first
  | exact Or.inr ⟨by rfl, rfl⟩
  | (refine Or.inl ⟨by rfl, fun W hS => ?_⟩; obtain ⟨hc, hf⟩ := bcell hS; go_simp; exact ⟨rfl, hS⟩)) ?_
  simp only [Act.put, List.setIfInBounds_toArray, List.set_cons_zero, List.set_cons_succ]
  refine each_take (i := 25) (oi := { dst := some 85, op := Go.Op.pick (Go.Operand.tmp 75) (Go.Operand.tmp 84) (Go.Operand.const (Go.Value.bool false)), type := 4, pos := "law.go:87", after := #[{ on := 15, ground := Go.Ground.data }, { on := 24, ground := Go.Ground.data }], guard := none }) (v := _) rfl (by kernel_rfl) (by kernel_rfl) (by kernel_rfl) (fun _ _ _ h => h) (by first
  | exact Or.inr ⟨by rfl, rfl⟩
  | (refine Or.inl ⟨by rfl, fun W hS => ?_⟩; obtain ⟨hc, hf⟩ := bcell hS; go_simp; exact ⟨rfl, hS⟩)) ?_
  simp only [Act.put, List.setIfInBounds_toArray, List.set_cons_zero, List.set_cons_succ]
  refine each_take (i := 26) (oi := { dst := some 86, op := Go.Op.move (Go.Operand.tmp 85), type := 4, pos := "law.go:87", after := #[{ on := 25, ground := Go.Ground.data }, { on := 22, ground := Go.Ground.chain }], guard := none }) (v := _) rfl (by kernel_rfl) (by kernel_rfl) (by kernel_rfl) (fun _ _ _ h => h) (by first
  | exact Or.inr ⟨by rfl, rfl⟩
  | (refine Or.inl ⟨by rfl, fun W hS => ?_⟩; obtain ⟨hc, hf⟩ := bcell hS; go_simp; exact ⟨rfl, hS⟩)) ?_
  simp only [Act.put, List.setIfInBounds_toArray, List.set_cons_zero, List.set_cons_succ]
  refine each_take (i := 27) (oi := { dst := some 87, op := Go.Op.load 27 (Go.Operand.tmp 7), type := 27, pos := "law.go:87", after := #[{ on := 26, ground := Go.Ground.guard }], guard := some (26, true) }) (v := _) rfl (by kernel_rfl) (by kernel_rfl) (by kernel_rfl) (fun _ _ _ h => h) (by first
  | exact Or.inr ⟨by rfl, rfl⟩
  | (refine Or.inl ⟨by rfl, fun W hS => ?_⟩; obtain ⟨hc, hf⟩ := bcell hS; go_simp; exact ⟨rfl, hS⟩)) ?_
  simp only [Act.put, List.setIfInBounds_toArray, List.set_cons_zero, List.set_cons_succ]
  refine each_take (i := 28) (oi := { dst := some 88, op := Go.Op.load 27 (Go.Operand.tmp 8), type := 27, pos := "law.go:87", after := #[{ on := 26, ground := Go.Ground.guard }], guard := some (26, true) }) (v := _) rfl (by kernel_rfl) (by kernel_rfl) (by kernel_rfl) (fun _ _ _ h => h) (by first
  | exact Or.inr ⟨by rfl, rfl⟩
  | (refine Or.inl ⟨by rfl, fun W hS => ?_⟩; obtain ⟨hc, hf⟩ := bcell hS; go_simp; exact ⟨rfl, hS⟩)) ?_
  simp only [Act.put, List.setIfInBounds_toArray, List.set_cons_zero, List.set_cons_succ]
  refine each_take (i := 29) (oi := { dst := some 89, op := Go.Op.call { callee := Go.Callee.value (Go.Operand.func 27), args := #[Go.Operand.tmp 87, Go.Operand.tmp 88], argTypes := #[27, 27] }, type := 27, pos := "law.go:87", after := #[{ on := 27, ground := Go.Ground.data }, { on := 28, ground := Go.Ground.data }, { on := 26, ground := Go.Ground.chain }, { on := 26, ground := Go.Ground.guard }], guard := some (26, true) }) (v := _) rfl (by kernel_rfl) (by kernel_rfl) (by kernel_rfl) (fun _ _ _ h => h) (by first
  | exact Or.inr ⟨by rfl, rfl⟩
  | (refine Or.inl ⟨by rfl, fun W hS => ?_⟩; go_simp; show Calls _ _ _ _ _; refine (CM2.out _).mono ?_; rintro e w9 ⟨rfl, hb⟩; dsimp only [mv, mk0]; exact ⟨rfl, hS.trans (hb.mono hS.size)⟩)) ?_
  simp only [Act.put, List.setIfInBounds_toArray, List.set_cons_zero, List.set_cons_succ]
  refine each_take (i := 30) (oi := { dst := some 90, op := Go.Op.load 27 (Go.Operand.tmp 8), type := 27, pos := "law.go:87", after := #[{ on := 26, ground := Go.Ground.guard }], guard := some (26, true) }) (v := _) rfl (by kernel_rfl) (by kernel_rfl) (by kernel_rfl) (fun _ _ _ h => h) (by first
  | exact Or.inr ⟨by rfl, rfl⟩
  | (refine Or.inl ⟨by rfl, fun W hS => ?_⟩; obtain ⟨hc, hf⟩ := bcell hS; go_simp; exact ⟨rfl, hS⟩)) ?_
  simp only [Act.put, List.setIfInBounds_toArray, List.set_cons_zero, List.set_cons_succ]
  refine each_take (i := 31) (oi := { dst := some 91, op := Go.Op.call { callee := Go.Callee.value (Go.Operand.func 29), args := #[Go.Operand.tmp 89, Go.Operand.tmp 90], argTypes := #[27, 27] }, type := 27, pos := "law.go:87", after := #[{ on := 29, ground := Go.Ground.data }, { on := 30, ground := Go.Ground.data }, { on := 29, ground := Go.Ground.chain }, { on := 26, ground := Go.Ground.guard }], guard := some (26, true) }) (v := _) rfl (by kernel_rfl) (by kernel_rfl) (by kernel_rfl) (fun _ _ _ h => h) (by first
  | exact Or.inr ⟨by rfl, rfl⟩
  | (refine Or.inl ⟨by rfl, fun W hS => ?_⟩; go_simp; show Calls _ _ _ _ _; refine (CA5.out _).mono ?_; rintro e w9 ⟨rfl, hb⟩; dsimp only [mv, mk0]; exact ⟨rfl, hS.trans (hb.mono hS.size)⟩)) ?_
  simp only [Act.put, List.setIfInBounds_toArray, List.set_cons_zero, List.set_cons_succ]
  refine each_take (i := 32) (oi := { dst := some 92, op := Go.Op.build 27 #[], type := 27, pos := "law.go:87", after := #[{ on := 26, ground := Go.Ground.guard }], guard := some (26, true) }) (v := _) rfl (by kernel_rfl) (by kernel_rfl) (by kernel_rfl) (fun _ _ _ h => h) (by first
  | exact Or.inr ⟨by rfl, rfl⟩
  | (refine Or.inl ⟨by rfl, fun W hS => ?_⟩; obtain ⟨hc, hf⟩ := bcell hS; go_simp; exact ⟨rfl, hS⟩)) ?_
  simp only [Act.put, List.setIfInBounds_toArray, List.set_cons_zero, List.set_cons_succ]
  refine each_take (i := 33) (oi := { dst := some 93, op := Go.Op.binOp Go.BinOp.eql 27 (Go.Operand.tmp 91) (Go.Operand.tmp 92) 27, type := 4, pos := "law.go:87", after := #[{ on := 31, ground := Go.Ground.data }, { on := 32, ground := Go.Ground.data }, { on := 26, ground := Go.Ground.guard }], guard := some (26, true) }) (v := _) rfl (by kernel_rfl) (by kernel_rfl) (by kernel_rfl) (fun _ _ _ h => h) (by first
  | exact Or.inr ⟨by rfl, rfl⟩
  | (refine Or.inl ⟨by rfl, fun W hS => ?_⟩; obtain ⟨hc, hf⟩ := bcell hS; go_simp; exact ⟨rfl, hS⟩)) ?_
  simp only [Act.put, List.setIfInBounds_toArray, List.set_cons_zero, List.set_cons_succ]
  refine each_take (i := 34) (oi := { dst := some 94, op := Go.Op.pick (Go.Operand.tmp 86) (Go.Operand.tmp 93) (Go.Operand.const (Go.Value.bool false)), type := 4, pos := "law.go:87", after := #[{ on := 26, ground := Go.Ground.data }, { on := 33, ground := Go.Ground.data }], guard := none }) (v := _) rfl (by kernel_rfl) (by kernel_rfl) (by kernel_rfl) (fun _ _ _ h => h) (by first
  | exact Or.inr ⟨by rfl, rfl⟩
  | (refine Or.inl ⟨by rfl, fun W hS => ?_⟩; obtain ⟨hc, hf⟩ := bcell hS; go_simp; exact ⟨rfl, hS⟩)) ?_
  simp only [Act.put, List.setIfInBounds_toArray, List.set_cons_zero, List.set_cons_succ]
  refine each_take (i := 35) (oi := { dst := some 95, op := Go.Op.move (Go.Operand.tmp 94), type := 4, pos := "law.go:87", after := #[{ on := 34, ground := Go.Ground.data }, { on := 31, ground := Go.Ground.chain }], guard := none }) (v := _) rfl (by kernel_rfl) (by kernel_rfl) (by kernel_rfl) (fun _ _ _ h => h) (by first
  | exact Or.inr ⟨by rfl, rfl⟩
  | (refine Or.inl ⟨by rfl, fun W hS => ?_⟩; obtain ⟨hc, hf⟩ := bcell hS; go_simp; exact ⟨rfl, hS⟩)) ?_
  simp only [Act.put, List.setIfInBounds_toArray, List.set_cons_zero, List.set_cons_succ]
  refine each_take (i := 36) (oi := { dst := some 96, op := Go.Op.call { callee := Go.Callee.value (Go.Operand.func 9), args := #[], argTypes := #[] }, type := 4, pos := "law.go:87", after := #[{ on := 35, ground := Go.Ground.chain }, { on := 35, ground := Go.Ground.guard }], guard := some (35, true) }) (v := _) rfl (by kernel_rfl) (by kernel_rfl) (by kernel_rfl) (fun _ _ _ h => h) (by first
  | exact Or.inr ⟨by rfl, rfl⟩
  | (refine Or.inl ⟨by rfl, fun W hS => ?_⟩; go_simp; show Calls _ _ _ _ _; refine (live_any _ (HE.out.below (kW.out.trans (hS.mono kW.out.size)))).mono ?_; rintro e w9 ⟨rfl, hb⟩; exact ⟨rfl, hS.trans (hb.mono hS.size)⟩)) ?_
  simp only [Act.put, List.setIfInBounds_toArray, List.set_cons_zero, List.set_cons_succ]
  refine each_take (i := 37) (oi := { dst := some 97, op := Go.Op.pick (Go.Operand.tmp 95) (Go.Operand.tmp 96) (Go.Operand.const (Go.Value.bool false)), type := 4, pos := "law.go:87", after := #[{ on := 35, ground := Go.Ground.data }, { on := 36, ground := Go.Ground.data }], guard := none }) (v := _) rfl (by kernel_rfl) (by kernel_rfl) (by kernel_rfl) (fun _ _ _ h => h) (by first
  | exact Or.inr ⟨by rfl, rfl⟩
  | (refine Or.inl ⟨by rfl, fun W hS => ?_⟩; obtain ⟨hc, hf⟩ := bcell hS; go_simp; exact ⟨rfl, hS⟩)) ?_
  simp only [Act.put, List.setIfInBounds_toArray, List.set_cons_zero, List.set_cons_succ]
  refine each_take (i := 38) (oi := { dst := some 6, op := Go.Op.assign (Go.Operand.tmp 97), type := 4, pos := "law.go:87", after := #[{ on := 37, ground := Go.Ground.data }, { on := 36, ground := Go.Ground.chain }, { on := 0, ground := Go.Ground.phase }, { on := 1, ground := Go.Ground.phase }, { on := 2, ground := Go.Ground.phase }, { on := 3, ground := Go.Ground.phase }, { on := 4, ground := Go.Ground.phase }, { on := 5, ground := Go.Ground.phase }, { on := 6, ground := Go.Ground.phase }, { on := 7, ground := Go.Ground.phase }, { on := 8, ground := Go.Ground.phase }, { on := 9, ground := Go.Ground.phase }, { on := 10, ground := Go.Ground.phase }, { on := 11, ground := Go.Ground.phase }, { on := 12, ground := Go.Ground.phase }, { on := 13, ground := Go.Ground.phase }, { on := 14, ground := Go.Ground.phase }, { on := 15, ground := Go.Ground.phase }, { on := 16, ground := Go.Ground.phase }, { on := 17, ground := Go.Ground.phase }, { on := 18, ground := Go.Ground.phase }, { on := 19, ground := Go.Ground.phase }, { on := 20, ground := Go.Ground.phase }, { on := 21, ground := Go.Ground.phase }, { on := 22, ground := Go.Ground.phase }, { on := 23, ground := Go.Ground.phase }, { on := 24, ground := Go.Ground.phase }, { on := 25, ground := Go.Ground.phase }, { on := 26, ground := Go.Ground.phase }, { on := 27, ground := Go.Ground.phase }, { on := 28, ground := Go.Ground.phase }, { on := 29, ground := Go.Ground.phase }, { on := 30, ground := Go.Ground.phase }, { on := 31, ground := Go.Ground.phase }, { on := 32, ground := Go.Ground.phase }, { on := 33, ground := Go.Ground.phase }, { on := 34, ground := Go.Ground.phase }, { on := 35, ground := Go.Ground.phase }, { on := 36, ground := Go.Ground.phase }, { on := 37, ground := Go.Ground.phase }], guard := none }) (v := _) rfl (by kernel_rfl) (by kernel_rfl) (by kernel_rfl) (fun _ _ _ h => h) (by first
  | exact Or.inr ⟨by rfl, rfl⟩
  | (refine Or.inl ⟨by rfl, fun W hS => ?_⟩; obtain ⟨hc, hf⟩ := bcell hS; go_simp; exact ⟨rfl, hS⟩)) ?_
  simp only [Act.put, List.setIfInBounds_toArray, List.set_cons_zero, List.set_cons_succ]
  refine each_done (by kernel_rfl) (fun W hS => ?_) _
  go_wp2
  exact bodyPost_ret (v := .bool true) (by simp [results, Tryd.results8, go_sem]) rfl ⟨rfl, kW.out.trans (hS.mono kW.out.size)⟩
end Go.Proofs.YtbjeaebgnnljhaaDoor
