/- WALKS: Parse, of any text. -/
import Derived.Test.YtbjeaebgnnljhaaDoorWj
namespace Go.Proofs.YtbjeaebgnnljhaaDoor
open Go.RowKit Go.Shelf
attribute [local go_sem] Oper.semAt_some
set_option maxHeartbeats 2000000
set_option maxRecDepth 100000

/-- k cores more, from f on. -/
def addR (m : MK) (f : Nat) : Nat → MK
  | 0 => m
  | k + 1 => withC (addR m f k) (f + k)
theorem mok_addR {m : MK} (h : mok m) (f : Nat) : ∀ k, mok (addR m f k)
  | 0 => h
  | _ + 1 => mok_withC _ _
/-- A word more; none: it is none. -/
def fromOf (x : List UInt8) : List UInt8 := (Lib.cut x [45]).1
def toOf (x : List UInt8) : List UInt8 := if (Lib.cut x [45]).2.2 = true then (Lib.cut x [45]).2.1 else (Lib.cut x [45]).1
def stepP (m : MK) (x : List UInt8) : Option MK :=
  if numB (fromOf x) < 0 ∨ numB (toOf x) < 0 then none else some (addR m (numB (fromOf x)).toNat (numB (toOf x) - numB (fromOf x) + 1).toNat)
def foldP (l : List (List UInt8)) : Option MK := l.foldl (fun o x => o.bind fun m => stepP m x) (some mk0)
theorem foldP_snoc (l : List (List UInt8)) (x : List UInt8) : foldP (l ++ [x]) = (foldP l).bind fun m => stepP m x := by simp [foldP]
theorem foldP_none (l r : List (List UInt8)) (h : foldP l = none) : foldP (l ++ r) = none := by
  have key : ∀ r : List (List UInt8), r.foldl (fun o x => o.bind fun m => stepP m x) none = none := by
    intro r; induction r with
    | nil => rfl
    | cons x r ih => simpa using ih
  unfold foldP at h ⊢
  rw [List.foldl_append, h]; exact key r
theorem mok_foldP {l : List (List UInt8)} {m : MK} (h : foldP l = some m) : mok m := by
  have key : ∀ (l : List (List UInt8)) (o : Option MK), (∀ m, o = some m → mok m) → ∀ m, l.foldl (fun o x => o.bind fun m => stepP m x) o = some m → mok m := by
    intro l; induction l with
    | nil => exact fun o h m e => h m e
    | cons x l ih =>
      refine fun o h => ih _ fun m e => ?_
      cases o with
      | none => cases e
      | some m' =>
        simp only [Option.bind_some, stepP] at e
        split at e
        · cases e
        · cases e; exact mok_addR (h m' rfl) _ _
  exact key l (some mk0) (fun m e => by cases e; exact mok_mk0) m h
theorem numB_bd (l : List UInt8) : -1 ≤ numB l ∧ numB l < 256 := by
  unfold numB
  split
  · split <;> omega
  · omega
theorem cut_len (x : List UInt8) : (fromOf x).length ≤ x.length ∧ (toOf x).length ≤ x.length := by
  unfold fromOf toOf Lib.cut
  by_cases h : 0 ≤ Lib.index x [45]
  · simp only [if_pos h, if_true]; simp only [List.length_take, List.length_drop]; omega
  · simp only [if_neg h]; simp

theorem Cut_any (x : ByteArray) (hx : x.size < 4294967281) (w : World) (hE : Env w) : Calls Tryd.prog 41 #[.string x, .string ⟨#[45]⟩] w fun e w' => e = .returned (.tuple #[.string ⟨(Lib.cut x.data.toList [45]).1.toArray⟩, .string ⟨(Lib.cut x.data.toList [45]).2.1.toArray⟩, .bool (Lib.cut x.data.toList [45]).2.2]) ∧ Below w.heap.size w w' := by
  obtain ⟨m, hm⟩ := hE.ml
  refine (Tryd.strings_Cut x ⟨#[45]⟩ m w hx hm).mono ?_
  rintro e w' ⟨rfl, n, rfl⟩
  exact ⟨rfl, ⟨rfl, rfl, rfl, Nat.le_refl _, fun _ _ => rfl⟩⟩
theorem number_list (l : List UInt8) (hl : l.length ≤ 281474976710656) (w : World) (hE : Env w) : Calls Tryd.prog 42 #[.string ⟨l.toArray⟩] w fun e w' => e = .returned (.int .i64 (numB l)) ∧ Below w.heap.size w w' :=
  number_any ⟨l.toArray⟩ (by simpa [ByteArray.size] using hl) w hE

/-- BETWEEN TWO ROUNDS of Parse. -/
structure PInv (w : World) (m : MK) (W : World) : Prop where
  zero : Blk W w.heap.size #[.int .u64 0, .int .u64 0, .int .u64 0, .int .u64 0] 27
  mask : Blk W (w.heap.size + 1) #[.int .u64 m.1, .int .u64 m.2.1, .int .u64 m.2.2.1, .int .u64 m.2.2.2] 27
  lt : w.heap.size + 5 ≤ W.heap.size
  below : Below w.heap.size w W
theorem PInv.later {w W W' : World} {m : MK} (h : PInv w m W) (hb : Below W.heap.size W W') : PInv w m W' :=
  ⟨h.zero.below hb h.zero.lt, h.mask.below hb h.mask.lt, Nat.le_trans h.lt hb.size, h.below.trans (hb.mono h.below.size)⟩
theorem PInv.set {w W : World} {m : MK} (h : PInv w m W) (m' : MK) : PInv w m' ((((W.setCell ⟨w.heap.size + 1, 0, none⟩ (.int .u64 m'.1)).setCell ⟨w.heap.size + 1, 1, none⟩ (.int .u64 m'.2.1)).setCell ⟨w.heap.size + 1, 2, none⟩ (.int .u64 m'.2.2.1)).setCell ⟨w.heap.size + 1, 3, none⟩ (.int .u64 m'.2.2.2)) := by
  refine ⟨h.zero.far4 (by omega) _ _ _ _, h.mask.set4 _ _ _ _, Nat.le_trans h.lt ?_, below_set4 h.below (by omega) _ _ _ _⟩
  exact (keeps_set4 (KeepsFrom.refl 0 W) (w.heap.size + 1) (.int .u64 m'.1) (.int .u64 m'.2.1) (.int .u64 m'.2.2.1) (.int .u64 m'.2.2.2)).size
theorem PInv.box {w W : World} {m : MK} (h : PInv w m W) (u : Value) : PInv w m (W.setCell ⟨w.heap.size + 1 + 1, 0, none⟩ u) :=
  ⟨h.zero.far _ _ (by simp; omega), h.mask.far _ _ (by simp), Nat.le_trans h.lt (KeepsOthers.setCell W ⟨w.heap.size + 1 + 1, 0, none⟩ u).size, h.below.setCell (by simp; omega) _⟩
theorem kp3_below {A B C : Nat} {W W1 W' : World} {n : Nat} (h : Kp3 A B C W W1) (hb : Below n W1 W') (ha : A < n) (hbb : B < n) (hc : C < n) : Kp3 A B C W W' :=
  ⟨(hb.block _ ha).trans h.1, (hb.block _ hbb).trans h.2.1, (hb.block _ hc).trans h.2.2⟩
theorem kp3_set4 {A B C M : Nat} {W W1 : World} (h : Kp3 A B C W W1) (ha : A ≠ M) (hb : B ≠ M) (hc : C ≠ M) (u0 u1 u2 u3 : Value) :
    Kp3 A B C W ((((W1.setCell ⟨M, 0, none⟩ u0).setCell ⟨M, 1, none⟩ u1).setCell ⟨M, 2, none⟩ u2).setCell ⟨M, 3, none⟩ u3) :=
  ⟨kpB_far4 h.1 ha _ _ _ _, kpB_far4 h.2.1 hb _ _ _ _, kpB_far4 h.2.2 hc _ _ _ _⟩
theorem kp3_refl (A B C : Nat) (W : World) : Kp3 A B C W W := ⟨rfl, rfl, rfl⟩
theorem kp3_t {A B C : Nat} {X Y Z : World} (h : Kp3 A B C X Y) (k : Kp3 A B C Y Z) : Kp3 A B C X Z := ⟨Eq.trans k.1 h.1, Eq.trans k.2.1 h.2.1, Eq.trans k.2.2 h.2.2⟩

def parseRes (s : List UInt8) : MK × Int := if textM ((foldP (splitC s)).getD mk0) = s then ((foldP (splitC s)).getD mk0, 0) else (mk0, 5)
def PI (w : World) (pre : List Piece) (W : World) : Prop := ∃ m, foldP (pre.map fun x => x.1.data.toList) = some m ∧ PInv w m W
def PX (w : World) (c : Code) (pre : List Piece) (W : World) : Prop := c = .exit 0 ∧ foldP (pre.map fun x => x.1.data.toList) = none ∧ PInv w mk0 W
theorem Parse_in (F : Fence) (hFS : FWS F) (s : ByteArray) (hs : s.size < 4294967281) (hne : s.toList.isEmpty = false) (w : World) (hE : Env w) :
    CallsIn F 5 Tryd.prog 22 #[.string s] w fun e w' => e = .returned (.tuple #[mv (parseRes s.data.toList).1, .int .i64 (parseRes s.data.toList).2]) ∧ Below w.heap.size w w' := by
  have hF := hFS.fw
  have hw := hF.fn
  have hro := hF.round
  refine callsIn_of_wp_marks Tryd.func22 rfl (hw _) ?_ hro
  simp only [Tryd.ntmps22, List.size_toArray, List.length_cons, List.length_nil, Nat.reduceAdd, Nat.reduceSub, Array.replicate_succ, Array.replicate_zero, List.push_toArray, List.append_toArray, List.nil_append, List.cons_append]
  have HE := Lib.hid hE
  have HS := Lib.hid hs
  clear hE hs
  gi_wp2
  refine hFS.scope ?_
  gi_wp2
  refine wpIn_label ?_
  gi_wp2_with (gi_at_call 40; refine (hF.of (SplitSeq_any s _)).mono ?_; rintro e w' ⟨rfl, rfl⟩)
  have k2 := (((((Blk.new w #[.int .u64 0, .int .u64 0, .int .u64 0, .int .u64 0] 27).alloc (.cells #[.int .u64 0, .int .u64 0, .int .u64 0, .int .u64 0] 27)).alloc (.cells #[.string s] 9)).alloc (.cells #[.string ⟨#[44]⟩] 9)).alloc (.cells #[.int .i64 0] 3))
  have k4 := ((((Blk.new (w.alloc (.cells #[.int .u64 0, .int .u64 0, .int .u64 0, .int .u64 0] 27)) #[.int .u64 0, .int .u64 0, .int .u64 0, .int .u64 0] 27).alloc (.cells #[.string s] 9)).alloc (.cells #[.string ⟨#[44]⟩] 9)).alloc (.cells #[.int .i64 0] 3))
  rw [World.size_alloc] at k4
  have kB : Below w.heap.size w (((((w.alloc (.cells #[.int .u64 0, .int .u64 0, .int .u64 0, .int .u64 0] 27)).alloc (.cells #[.int .u64 0, .int .u64 0, .int .u64 0, .int .u64 0] 27)).alloc (.cells #[.string s] 9)).alloc (.cells #[.string ⟨#[44]⟩] 9)).alloc (.cells #[.int .i64 0] 3)) :=
    ((((((Below.refl _ w).alloc (Nat.le_refl _) _).alloc (by simp) _).alloc (by simp; omega) _).alloc (by simp; omega) _).alloc (by simp; omega) _)
  obtain ⟨W0, hW0⟩ : ∃ W0, (((((w.alloc (.cells #[.int .u64 0, .int .u64 0, .int .u64 0, .int .u64 0] 27)).alloc (.cells #[.int .u64 0, .int .u64 0, .int .u64 0, .int .u64 0] 27)).alloc (.cells #[.string s] 9)).alloc (.cells #[.string ⟨#[44]⟩] 9)).alloc (.cells #[.int .i64 0] 3)) = W0 := ⟨_, rfl⟩
  have b1 : Boxed W0 (w.heap.size + 1 + 1) 9 (.string s) := by
    rw [← hW0]
    have h := ((Boxed.new ((w.alloc (.cells #[.int .u64 0, .int .u64 0, .int .u64 0, .int .u64 0] 27)).alloc (.cells #[.int .u64 0, .int .u64 0, .int .u64 0, .int .u64 0] 27)) 9 (.string s)).alloc (.cells #[.string ⟨#[44]⟩] 9)).alloc (.cells #[.int .i64 0] 3)
    rwa [World.size_alloc, World.size_alloc] at h
  have b2 : Boxed W0 (w.heap.size + 1 + 1 + 1) 9 (.string ⟨#[44]⟩) := by
    rw [← hW0]
    have h := (Boxed.new (((w.alloc (.cells #[.int .u64 0, .int .u64 0, .int .u64 0, .int .u64 0] 27)).alloc (.cells #[.int .u64 0, .int .u64 0, .int .u64 0, .int .u64 0] 27)).alloc (.cells #[.string s] 9)) 9 (.string ⟨#[44]⟩)).alloc (.cells #[.int .i64 0] 3)
    rwa [World.size_alloc, World.size_alloc, World.size_alloc] at h
  have b3 : Boxed W0 (w.heap.size + 1 + 1 + 1 + 1) 3 (.int .i64 0) := by
    rw [← hW0]
    have h := Boxed.new ((((w.alloc (.cells #[.int .u64 0, .int .u64 0, .int .u64 0, .int .u64 0] 27)).alloc (.cells #[.int .u64 0, .int .u64 0, .int .u64 0, .int .u64 0] 27)).alloc (.cells #[.string s] 9)).alloc (.cells #[.string ⟨#[44]⟩] 9)) 3 (.int .i64 0)
    rwa [World.size_alloc, World.size_alloc, World.size_alloc, World.size_alloc] at h
  have hz : W0.heap.size = w.heap.size + 5 := by rw [← hW0]; simp
  have hP : PInv w mk0 W0 := by rw [← hW0] at hz ⊢; exact ⟨k2, k4, by omega, kB⟩
  rw [hW0]
  have HZ := Lib.hid hz
  clear hW0 k2 k4 kB hz
  refine wpIn_rangeFunc_box hro (by omega) (gf := 60) (lb := #[.pointer (some ⟨w.heap.size + 1 + 1 + 1, 0, none⟩), .pointer (some ⟨w.heap.size + 1 + 1, 0, none⟩), .pointer (some ⟨w.heap.size + 1 + 1 + 1 + 1, 0, none⟩)]) rfl (hw _) (enters_of Tryd.func60 (by kernel_rfl) rfl)
    (split_stops F hF _ (by omega) s HS.out (w.heap.size + 1 + 1 + 1) (w.heap.size + 1 + 1) (w.heap.size + 1 + 1 + 1 + 1) (by omega) (by omega) W0 b2 b1 b3) b1.lt kp3_t
    (fun W l o' hl => by have := HZ.out; exact ⟨World.putObj_heap_other (by omega), World.putObj_heap_other (by omega), World.putObj_heap_other (by omega)⟩) (fun _ => rfl)
    (PI w) (PX w)
    (fun st X Y row hs hg hr => by
      obtain ⟨m, h1, h2⟩ := hs
      exact ⟨m, h1, h2.zero.ownkept hg hr, h2.mask.ownkept hg hr, Nat.le_trans h2.lt hg.size, below_ownkept h2.below (by have := HZ.out; omega) hg hr⟩)
    (fun c st X Y row hs hg hr => by
      obtain ⟨h0, h1, h2⟩ := hs
      exact ⟨h0, h1, h2.zero.ownkept hg hr, h2.mask.ownkept hg hr, Nat.le_trans h2.lt hg.size, below_ownkept h2.below (by have := HZ.out; omega) hg hr⟩)
    (fun st X u hs => by obtain ⟨m, h1, h2⟩ := hs; exact ⟨m, h1, h2.box u⟩)
    ⟨mk0, rfl, hP⟩
    (fun x => { tmps := #[.string s, undef, .pointer (some ⟨w.heap.size, 0, none⟩), .int .i64 0, .pointer (some ⟨w.heap.size + 1, 0, none⟩), .string x.1, undef, undef, undef, undef, undef, undef, .string s, .bool false, undef, .string s,
      .func (.func 60) #[] #[.pointer (some ⟨w.heap.size + 1 + 1 + 1, 0, none⟩), .pointer (some ⟨w.heap.size + 1 + 1, 0, none⟩), .pointer (some ⟨w.heap.size + 1 + 1 + 1 + 1, 0, none⟩)], .string x.1, undef, undef, undef, undef, undef, undef, undef, undef, undef, undef, undef, undef, undef, undef, undef, undef, undef, undef, undef, undef, undef, undef, undef, undef, undef, undef, undef, undef, undef, undef, undef, undef, undef, undef, undef], defers := [] }) ?assign ?body ?done ?stop
  case assign =>
    intro l x W K hK
    gi_wp2
    exact hK
  case body =>
    rintro l pre x W ⟨m, hfo, hI⟩ hlen
    obtain ⟨a, b, is, hcut⟩ : ∃ a b is, Lib.cut x.1.data.toList [45] = (a, b, is) := ⟨_, _, _, rfl⟩
    have hx := x.2
    have hC : ∀ W', Env W' → Calls Tryd.prog 41 #[.string x.1, .string ⟨#[45]⟩] W' fun e w' => e = .returned (.tuple #[.string ⟨a.toArray⟩, .string ⟨b.toArray⟩, .bool is]) ∧ Below W'.heap.size W' w' := fun W' hE' => by
      have h := Cut_any x.1 hx W' hE'
      rwa [hcut] at h
    have HC := Lib.hid hC
    have hfr : fromOf x.1.data.toList = a := by simp [fromOf, hcut]
    have hto : toOf x.1.data.toList = if is = true then b else a := by simp [toOf, hcut]
    have hll := cut_len x.1.data.toList
    rw [hfr, hto] at hll
    have hxl : x.1.data.toList.length = x.1.size := by simp
    have hstep : foldP ((pre ++ [x]).map fun x => x.1.data.toList) = if numB a < 0 ∨ numB (if is = true then b else a) < 0 then none else some (addR m (numB a).toNat (numB (if is = true then b else a) - numB a + 1).toNat) := by
      rw [List.map_append, List.map_singleton, foldP_snoc, hfo]
      simp only [Option.bind_some, stepP, hfr, hto]
    have HST := Lib.hid hstep
    have HMO := Lib.hid (mok_foldP hfo)
    have HI := Lib.hid hI
    have HE2 := Lib.hid (HE.out.below hI.below)
    have hlt := hI.lt
    have la : a.length ≤ 281474976710656 := by omega
    have ba := numB_bd a
    clear hcut hC hfr hto hxl hstep hfo hI hP b1 b2 b3 hne
    cases is with
    | true =>
      have lb : b.length ≤ 281474976710656 := by have := hll.2; simp at this; omega
      have bb := numB_bd b
      clear hll
      simp only [if_true] at HST
      by_cases ha : numB a < 0
      · gi_wp2_with (first
            | (gi_at_call 41; refine (CallsIn.inRound l (hF.of (HC.out _ HE2.out))).mono ?_; rintro e w2 ⟨rfl, hb2⟩; have hP := HI.out.later hb2; have hE := HE2.out.below hb2; have hK := keepsO_below hb2; have hQ := kp3_below (kp3_refl (w.heap.size + 1 + 1 + 1) (w.heap.size + 1 + 1) (w.heap.size + 1 + 1 + 1 + 1) W) hb2 (by omega) (by omega) (by omega); clear hb2)
            | (gi_at_call 42; refine (CallsIn.inRound l (hF.of (number_list _ (by assumption) _ hE))).mono ?_; rintro e w3 ⟨rfl, hb3⟩; replace hQ := kp3_below hQ hb3 (by have := hP.lt; omega) (by have := hP.lt; omega) (by have := hP.lt; omega); replace hP := hP.later hb3; replace hE := hE.below hb3; replace hK := hK.trans (keepsO_below hb3); obtain ⟨m0, m1, m2, m3, g0, g1, g2, g3⟩ := hP.mask.all4; clear hb3)
            | fail)
        have hB := hP.set mk0
        refine ⟨(hK.from _).trans (keeps_set4 (KeepsFrom.refl _ _) _ _ _ _ _), rfl, by rw [HST.out, if_pos (.inl ha)], ?_⟩
        exact hB
      · by_cases hb : numB b < 0
        · gi_wp2_with (first
            | (gi_at_call 41; refine (CallsIn.inRound l (hF.of (HC.out _ HE2.out))).mono ?_; rintro e w2 ⟨rfl, hb2⟩; have hP := HI.out.later hb2; have hE := HE2.out.below hb2; have hK := keepsO_below hb2; have hQ := kp3_below (kp3_refl (w.heap.size + 1 + 1 + 1) (w.heap.size + 1 + 1) (w.heap.size + 1 + 1 + 1 + 1) W) hb2 (by omega) (by omega) (by omega); clear hb2)
            | (gi_at_call 42; refine (CallsIn.inRound l (hF.of (number_list _ (by assumption) _ hE))).mono ?_; rintro e w3 ⟨rfl, hb3⟩; replace hQ := kp3_below hQ hb3 (by have := hP.lt; omega) (by have := hP.lt; omega) (by have := hP.lt; omega); replace hP := hP.later hb3; replace hE := hE.below hb3; replace hK := hK.trans (keepsO_below hb3); obtain ⟨m0, m1, m2, m3, g0, g1, g2, g3⟩ := hP.mask.all4; clear hb3)
            | fail)
          have hB := hP.set mk0
          refine ⟨(hK.from _).trans (keeps_set4 (KeepsFrom.refl _ _) _ _ _ _ _), rfl, by rw [HST.out, if_pos (.inr hb)], ?_⟩
          exact hB
        · gi_wp2_with (first
            | (gi_at_call 41; refine (CallsIn.inRound l (hF.of (HC.out _ HE2.out))).mono ?_; rintro e w2 ⟨rfl, hb2⟩; have hP := HI.out.later hb2; have hE := HE2.out.below hb2; have hK := keepsO_below hb2; have hQ := kp3_below (kp3_refl (w.heap.size + 1 + 1 + 1) (w.heap.size + 1 + 1) (w.heap.size + 1 + 1 + 1 + 1) W) hb2 (by omega) (by omega) (by omega); clear hb2)
            | (gi_at_call 42; refine (CallsIn.inRound l (hF.of (number_list _ (by assumption) _ hE))).mono ?_; rintro e w3 ⟨rfl, hb3⟩; replace hQ := kp3_below hQ hb3 (by have := hP.lt; omega) (by have := hP.lt; omega) (by have := hP.lt; omega); replace hP := hP.later hb3; replace hE := hE.below hb3; replace hK := hK.trans (keepsO_below hb3); obtain ⟨m0, m1, m2, m3, g0, g1, g2, g3⟩ := hP.mask.all4; clear hb3)
            | fail)
          have HK := Lib.hid (And.intro hP (And.intro hK hQ))
          clear hP hK hQ hE m0 m1 m2 m3 g0 g1 g2 g3
          gi_loopw [11, 39, 40, 41, 42, 43, 44, 45, 46] (fun c _ _ _ _ _ _ _ _ wr => ∃ j : Nat, j ≤ (numB b - numB a + 1).toNat ∧ c = .int .i64 (numB a + (j : Nat)) ∧ PInv w (addR m (numB a).toNat j) wr ∧ KeepsOthers W wr ∧ Kp3 (w.heap.size + 1 + 1 + 1) (w.heap.size + 1 + 1) (w.heap.size + 1 + 1 + 1 + 1) W wr) (fun c _ _ _ _ _ _ _ _ _ => (numB b + 1 - intOf c).toNat)
          case atStart => exact ⟨0, Nat.zero_le _, by simp, HK.out.1, HK.out.2.1, HK.out.2.2⟩
          case round =>
            obtain ⟨j, hj, rfl, iP, iK, iQ⟩ := hrel
            obtain ⟨q0, q1, q2, q3, r0, r1, r2, r3⟩ := iP.mask.all4
            have ilt := iP.mask.lt
            have HR := Lib.hid (And.intro iP (And.intro iK iQ))
            clear iP iK iQ
            by_cases hjj : numB a + (j : Nat) ≤ numB b
            · gi_wp2_with (gi_at_call 35; refine (CallsIn.inRound l (hF.of (with_any (addR m (numB a).toNat j) (mok_addR HMO.out _ _) _ (by omega) (by omega) _))).mono ?_; rintro e w5 ⟨rfl, hb5⟩; obtain ⟨hc5, hf5⟩ := bcell hb5; dsimp only [mv])
              go_roundw
              case rel =>
                refine ⟨j + 1, by omega, by congr 1; omega, ?_, ?_, ?_⟩
                · have e : withC (addR m (numB a).toNat j) (numB a + (j : Nat)).toNat = addR m (numB a).toNat (j + 1) := by
                    rw [addR]; congr 1; omega
                  rw [e]; exact (HR.out.1.later hb5).set _
                · exact ((HR.out.2.1.trans (keepsO_below hb5)).trans (((KeepsOthers.setCell _ _ _).trans (KeepsOthers.setCell _ _ _)).trans ((KeepsOthers.setCell _ _ _).trans (KeepsOthers.setCell _ _ _))))
                · have hl := HR.out.1.lt
                  exact kp3_set4 (kp3_below HR.out.2.2 hb5 (by omega) (by omega) (by omega)) (by omega) (by omega) (by omega) _ _ _ _
              case measure => simp [intOf]; omega
            · have hje : j = (numB b - numB a + 1).toNat := by omega
              have HJ := Lib.hid hje
              clear hje
              gi_wp2
              exact ⟨HR.out.2.1.from _, HR.out.2.2, addR m (numB a).toNat (numB b - numB a + 1).toNat, by rw [HST.out, if_neg (by omega)], by rw [← HJ.out]; exact HR.out.1⟩
    | false =>
      clear hll
      simp only [Bool.false_eq_true, if_false] at HST
      by_cases ha : numB a < 0
      · gi_wp2_with (first
            | (gi_at_call 41; refine (CallsIn.inRound l (hF.of (HC.out _ HE2.out))).mono ?_; rintro e w2 ⟨rfl, hb2⟩; have hP := HI.out.later hb2; have hE := HE2.out.below hb2; have hK := keepsO_below hb2; have hQ := kp3_below (kp3_refl (w.heap.size + 1 + 1 + 1) (w.heap.size + 1 + 1) (w.heap.size + 1 + 1 + 1 + 1) W) hb2 (by omega) (by omega) (by omega); clear hb2)
            | (gi_at_call 42; refine (CallsIn.inRound l (hF.of (number_list _ (by assumption) _ hE))).mono ?_; rintro e w3 ⟨rfl, hb3⟩; replace hQ := kp3_below hQ hb3 (by have := hP.lt; omega) (by have := hP.lt; omega) (by have := hP.lt; omega); replace hP := hP.later hb3; replace hE := hE.below hb3; replace hK := hK.trans (keepsO_below hb3); obtain ⟨m0, m1, m2, m3, g0, g1, g2, g3⟩ := hP.mask.all4; clear hb3)
            | fail)
        have hB := hP.set mk0
        refine ⟨(hK.from _).trans (keeps_set4 (KeepsFrom.refl _ _) _ _ _ _ _), rfl, by rw [HST.out, if_pos (.inl ha)], ?_⟩
        exact hB
      · gi_wp2_with (first
            | (gi_at_call 41; refine (CallsIn.inRound l (hF.of (HC.out _ HE2.out))).mono ?_; rintro e w2 ⟨rfl, hb2⟩; have hP := HI.out.later hb2; have hE := HE2.out.below hb2; have hK := keepsO_below hb2; have hQ := kp3_below (kp3_refl (w.heap.size + 1 + 1 + 1) (w.heap.size + 1 + 1) (w.heap.size + 1 + 1 + 1 + 1) W) hb2 (by omega) (by omega) (by omega); clear hb2)
            | (gi_at_call 42; refine (CallsIn.inRound l (hF.of (number_list _ (by assumption) _ hE))).mono ?_; rintro e w3 ⟨rfl, hb3⟩; replace hQ := kp3_below hQ hb3 (by have := hP.lt; omega) (by have := hP.lt; omega) (by have := hP.lt; omega); replace hP := hP.later hb3; replace hE := hE.below hb3; replace hK := hK.trans (keepsO_below hb3); obtain ⟨m0, m1, m2, m3, g0, g1, g2, g3⟩ := hP.mask.all4; clear hb3)
            | fail)
        have HK := Lib.hid (And.intro hP (And.intro hK hQ))
        clear hP hK hQ hE m0 m1 m2 m3 g0 g1 g2 g3
        gi_loopw [11, 39, 40, 41, 42, 43, 44, 45, 46] (fun c _ _ _ _ _ _ _ _ wr => ∃ j : Nat, j ≤ (numB a - numB a + 1).toNat ∧ c = .int .i64 (numB a + (j : Nat)) ∧ PInv w (addR m (numB a).toNat j) wr ∧ KeepsOthers W wr ∧ Kp3 (w.heap.size + 1 + 1 + 1) (w.heap.size + 1 + 1) (w.heap.size + 1 + 1 + 1 + 1) W wr) (fun c _ _ _ _ _ _ _ _ _ => (numB a + 1 - intOf c).toNat)
        case atStart => exact ⟨0, Nat.zero_le _, by simp, HK.out.1, HK.out.2.1, HK.out.2.2⟩
        case round =>
          obtain ⟨j, hj, rfl, iP, iK, iQ⟩ := hrel
          obtain ⟨q0, q1, q2, q3, r0, r1, r2, r3⟩ := iP.mask.all4
          have ilt := iP.mask.lt
          have HR := Lib.hid (And.intro iP (And.intro iK iQ))
          clear iP iK iQ
          by_cases hjj : numB a + (j : Nat) ≤ numB a
          · gi_wp2_with (gi_at_call 35; refine (CallsIn.inRound l (hF.of (with_any (addR m (numB a).toNat j) (mok_addR HMO.out _ _) _ (by omega) (by omega) _))).mono ?_; rintro e w5 ⟨rfl, hb5⟩; obtain ⟨hc5, hf5⟩ := bcell hb5; dsimp only [mv])
            go_roundw
            case rel =>
              refine ⟨j + 1, by omega, by congr 1; omega, ?_, ?_, ?_⟩
              · have e : withC (addR m (numB a).toNat j) (numB a + (j : Nat)).toNat = addR m (numB a).toNat (j + 1) := by
                  rw [addR]; congr 1; omega
                rw [e]; exact (HR.out.1.later hb5).set _
              · exact ((HR.out.2.1.trans (keepsO_below hb5)).trans (((KeepsOthers.setCell _ _ _).trans (KeepsOthers.setCell _ _ _)).trans ((KeepsOthers.setCell _ _ _).trans (KeepsOthers.setCell _ _ _))))
              · have hl := HR.out.1.lt
                exact kp3_set4 (kp3_below HR.out.2.2 hb5 (by omega) (by omega) (by omega)) (by omega) (by omega) (by omega) _ _ _ _
            case measure => simp [intOf]; omega
          · have hje : j = (numB a - numB a + 1).toNat := by omega
            have HJ := Lib.hid hje
            clear hje
            gi_wp2
            exact ⟨HR.out.2.1.from _, HR.out.2.2, addR m (numB a).toNat (numB a - numB a + 1).toNat, by rw [HST.out, if_neg (by omega)], by rw [← HJ.out]; exact HR.out.1⟩
  case done =>
    rintro D ys W hD hys ⟨m, hfo, hI⟩ hK
    rw [hys] at hfo
    have HMO := Lib.hid (mok_foldP hfo)
    have HFF : Hid ((foldP (splitC s.data.toList)).getD mk0 = m) := Lib.hid (by rw [hfo]; rfl)
    clear hfo hys
    have HE2 := Lib.hid (HE.out.below hI.below)
    obtain ⟨c0, c1, c2, c3, f0, f1, f2, f3⟩ := hI.mask.all4
    obtain ⟨z0, z1, z2, z3, y0, y1, y2, y3⟩ := hI.zero.all4
    have hl0 := hI.zero.lt
    have hl1 := hI.mask.lt
    have HI := Lib.hid hI
    have HK := Lib.hid hK
    clear hI hK hP b1 b2 b3 hne
    by_cases ht : textM m = s.data.toList
    · have HT : Hid (strV (textM m) = .string s) := Lib.hid (by unfold strV; rw [ht])
      have HP : Hid (parseRes s.data.toList = (m, 0)) := Lib.hid (by unfold parseRes; rw [HFF.out]; exact if_pos ht)
      clear ht
      gi_wp2_with (gi_at_call 24; refine (hF.of (Text_any m HMO.out _ HE2.out)).mono ?_; rintro e w5 ⟨rfl, hb5⟩; rw [HT.out]; obtain ⟨hc5, hf5⟩ := bcell hb5)
      have h9 := (HI.out.zero.below hb5 HI.out.zero.lt).set4 (.int .u64 (m).1) (.int .u64 (m).2.1) (.int .u64 (m).2.2.1) (.int .u64 (m).2.2.2)
      have hb9 := below_set4 (HI.out.below.trans (hb5.mono HI.out.below.size)) (Nat.le_refl _) (.int .u64 (m).1) (.int .u64 (m).2.1) (.int .u64 (m).2.2.1) (.int .u64 (m).2.2.2)
      have hK' := (keeps_set4 (keeps_below (n := 0) hb5) w.heap.size (.int .u64 (m).1) (.int .u64 (m).2.1) (.int .u64 (m).2.2.1) (.int .u64 (m).2.2.2)).same D _ (Nat.zero_le _) HK.out rfl
      have h10 := h9.putObj hK' rfl (.deferred none)
      refine ⟨by simp, .inl ⟨_, _, rfl, run_takeDeferred hK', ?_⟩⟩
      rw [HP.out]
      exact ⟨.tuple #[.agg #[.int .u64 (m).1, .int .u64 (m).2.1, .int .u64 (m).2.2.1, .int .u64 (m).2.2.2], .int .i64 0], by simp [results, Tryd.results22, go_sem, h10.cell 0 _ rfl, h10.cell 1 _ rfl, h10.cell 2 _ rfl, h10.cell 3 _ rfl], rfl, below_putObj hb9 (by have := HZ.out; omega) hK' rfl rfl _⟩
    · have hbn : (textM m == s.toList) = false := by
        rw [ByteArray.toList_eq]; exact beq_eq_false_iff_ne.2 ht
      have HP : Hid (parseRes s.data.toList = (mk0, 5)) := Lib.hid (by unfold parseRes; rw [HFF.out]; exact if_neg ht)
      clear ht
      gi_wp2_with (gi_at_call 24; refine (hF.of (Text_any m HMO.out _ HE2.out)).mono ?_; rintro e w5 ⟨rfl, hb5⟩; dsimp only [strV]; obtain ⟨hc5, hf5⟩ := bcell hb5)
      have h9 := (HI.out.zero.below hb5 HI.out.zero.lt).set4 (.int .u64 0) (.int .u64 0) (.int .u64 0) (.int .u64 0)
      have hb9 := below_set4 (HI.out.below.trans (hb5.mono HI.out.below.size)) (Nat.le_refl _) (.int .u64 0) (.int .u64 0) (.int .u64 0) (.int .u64 0)
      have hK' := (keeps_set4 (keeps_below (n := 0) hb5) w.heap.size (.int .u64 0) (.int .u64 0) (.int .u64 0) (.int .u64 0)).same D _ (Nat.zero_le _) HK.out rfl
      have h10 := h9.putObj hK' rfl (.deferred none)
      refine ⟨by simp, .inl ⟨_, _, rfl, run_takeDeferred hK', ?_⟩⟩
      rw [HP.out]
      exact ⟨.tuple #[.agg #[.int .u64 0, .int .u64 0, .int .u64 0, .int .u64 0], .int .i64 5], by simp [results, Tryd.results22, go_sem, h10.cell 0 _ rfl, h10.cell 1 _ rfl, h10.cell 2 _ rfl, h10.cell 3 _ rfl], rfl, below_putObj hb9 (by have := HZ.out; omega) hK' rfl rfl _⟩
  case stop =>
    rintro D c pre W hD ⟨rest, hpre⟩ ⟨rfl, hfo, hI⟩ hK
    have HMO := Lib.hid mok_mk0
    have HFF : Hid ((foldP (splitC s.data.toList)).getD mk0 = mk0) := Lib.hid (by rw [← hpre, foldP_none _ _ hfo]; rfl)
    clear hfo hpre
    have HE2 := Lib.hid (HE.out.below hI.below)
    obtain ⟨c0, c1, c2, c3, f0, f1, f2, f3⟩ := hI.mask.all4
    obtain ⟨z0, z1, z2, z3, y0, y1, y2, y3⟩ := hI.zero.all4
    have hl0 := hI.zero.lt
    have hl1 := hI.mask.lt
    have HI := Lib.hid hI
    have HK := Lib.hid hK
    clear hI hK hP b1 b2 b3 hne
    by_cases ht : textM mk0 = s.data.toList
    · have HT : Hid (strV (textM mk0) = .string s) := Lib.hid (by unfold strV; rw [ht])
      have HP : Hid (parseRes s.data.toList = (mk0, 0)) := Lib.hid (by unfold parseRes; rw [HFF.out]; exact if_pos ht)
      clear ht
      gi_wp2_with (gi_at_call 24; refine (hF.of (Text_any mk0 HMO.out _ HE2.out)).mono ?_; rintro e w5 ⟨rfl, hb5⟩; rw [HT.out]; obtain ⟨hc5, hf5⟩ := bcell hb5)
      have h9 := (HI.out.zero.below hb5 HI.out.zero.lt).set4 (.int .u64 (mk0).1) (.int .u64 (mk0).2.1) (.int .u64 (mk0).2.2.1) (.int .u64 (mk0).2.2.2)
      have hb9 := below_set4 (HI.out.below.trans (hb5.mono HI.out.below.size)) (Nat.le_refl _) (.int .u64 (mk0).1) (.int .u64 (mk0).2.1) (.int .u64 (mk0).2.2.1) (.int .u64 (mk0).2.2.2)
      have hK' := (keeps_set4 (keeps_below (n := 0) hb5) w.heap.size (.int .u64 (mk0).1) (.int .u64 (mk0).2.1) (.int .u64 (mk0).2.2.1) (.int .u64 (mk0).2.2.2)).same D _ (Nat.zero_le _) HK.out rfl
      have h10 := h9.putObj hK' rfl (.deferred none)
      refine ⟨by simp, .inl ⟨_, _, rfl, run_takeDeferred hK', ?_⟩⟩
      rw [HP.out]
      exact ⟨.tuple #[.agg #[.int .u64 (mk0).1, .int .u64 (mk0).2.1, .int .u64 (mk0).2.2.1, .int .u64 (mk0).2.2.2], .int .i64 0], by simp [results, Tryd.results22, go_sem, h10.cell 0 _ rfl, h10.cell 1 _ rfl, h10.cell 2 _ rfl, h10.cell 3 _ rfl], rfl, below_putObj hb9 (by have := HZ.out; omega) hK' rfl rfl _⟩
    · have hbn : (textM mk0 == s.toList) = false := by
        rw [ByteArray.toList_eq]; exact beq_eq_false_iff_ne.2 ht
      have HP : Hid (parseRes s.data.toList = (mk0, 5)) := Lib.hid (by unfold parseRes; rw [HFF.out]; exact if_neg ht)
      clear ht
      gi_wp2_with (gi_at_call 24; refine (hF.of (Text_any mk0 HMO.out _ HE2.out)).mono ?_; rintro e w5 ⟨rfl, hb5⟩; dsimp only [strV]; obtain ⟨hc5, hf5⟩ := bcell hb5)
      have h9 := (HI.out.zero.below hb5 HI.out.zero.lt).set4 (.int .u64 0) (.int .u64 0) (.int .u64 0) (.int .u64 0)
      have hb9 := below_set4 (HI.out.below.trans (hb5.mono HI.out.below.size)) (Nat.le_refl _) (.int .u64 0) (.int .u64 0) (.int .u64 0) (.int .u64 0)
      have hK' := (keeps_set4 (keeps_below (n := 0) hb5) w.heap.size (.int .u64 0) (.int .u64 0) (.int .u64 0) (.int .u64 0)).same D _ (Nat.zero_le _) HK.out rfl
      have h10 := h9.putObj hK' rfl (.deferred none)
      refine ⟨by simp, .inl ⟨_, _, rfl, run_takeDeferred hK', ?_⟩⟩
      rw [HP.out]
      exact ⟨.tuple #[.agg #[.int .u64 0, .int .u64 0, .int .u64 0, .int .u64 0], .int .i64 5], by simp [results, Tryd.results22, go_sem, h10.cell 0 _ rfl, h10.cell 1 _ rfl, h10.cell 2 _ rfl, h10.cell 3 _ rfl], rfl, below_putObj hb9 (by have := HZ.out; omega) hK' rfl rfl _⟩
end Go.Proofs.YtbjeaebgnnljhaaDoor
