/- WALKS: the iterator over a mask's cores. -/
import Derived.Test.YtbjeaebgnnljhaaDoorWc
namespace Go.Proofs.YtbjeaebgnnljhaaDoor
open Go.RowKit Go.Shelf
attribute [local go_sem] Oper.semAt_some
set_option maxHeartbeats 1000000
set_option maxRecDepth 100000

/-- A core's number. -/
abbrev C256 := { c : Nat // c < 256 }

/-- The cores of a mask below k, rising. -/
def upTo (m : MK) (k : Nat) : List C256 := (List.range k).filterMap fun c => if h : c < 256 then (if has m c then some ⟨c, h⟩ else none) else none
theorem upTo_yes {m : MK} {k : Nat} (hk : k < 256) (h : has m k = true) : upTo m (k + 1) = upTo m k ++ [⟨k, hk⟩] := by
  simp [upTo, List.range_succ, hk, h]
theorem upTo_no {m : MK} {k : Nat} (h : has m k = false) : upTo m (k + 1) = upTo m k := by
  simp [upTo, List.range_succ, h]
theorem upTo_prefix (m : MK) {k : Nat} (hk : k ≤ 256) : upTo m k <+: upTo m 256 := by
  refine List.IsPrefix.filterMap _ ?_
  rw [show 256 = k + (256 - k) by omega, List.range_add]
  exact List.prefix_append _ _
theorem upTo_length (m : MK) (k : Nat) : (upTo m k).length ≤ k := by
  have := List.length_filterMap_le (fun c => if h : c < 256 then (if has m c then some (⟨c, h⟩ : C256) else none) else none) (List.range k)
  simpa [upTo] using this

theorem grown_of_below {w w' : World} (h : Below w.heap.size w w') (row : Option Nat) : w.grownBy w' row :=
  ⟨h.os, h.tape, h.output, h.size, fun k hk _ => h.block k hk⟩

/-- What a round keeps: the iterator's own box. -/
def KpB (B : Nat) (W W' : World) : Prop := W'.heap[B]? = W.heap[B]?
theorem KpB_t {B : Nat} {X Y Z : World} (h : KpB B X Y) (k : KpB B Y Z) : KpB B X Z := Eq.trans k h
theorem KpB_b {B : Nat} {w : World} (hB : B < w.heap.size) (W : World) (l : Nat) (o o' : Obj) (hl : w.heap.size ≤ l) (_ : W.heap[l]? = some o) (_ : o.isCells = false) (_ : o.isWalk = false) : KpB B W (W.putObj l o') :=
  World.putObj_heap_other (by omega)

/-- A fence that lets all by, outside a round. -/
structure FW (F : Fence) : Prop where
  fn : ∀ k, F.fn k
  round : F.round = none
  of : ∀ {n : Nat} {f : FuncId} {args : Array Value} {w : World} {R : Ending → World → Prop}, Calls Tryd.prog f args w R → CallsIn F n Tryd.prog f args w R
theorem FW.wide : FW Fence.wide := ⟨fun _ => trivial, rfl, fun h => callsIn_wide.2 h⟩

theorem cores1_in (F : Fence) (hF : FW F) (n : Nat) (hn : 1 ≤ n) (m : MK) (hm : mok m) (l Bm : Nat) (J Jx : List C256 → World → Prop)
    (hY : ∀ pre x W, J pre W → pre.length < 256 → YieldAt F (n - 1) Tryd.prog l #[.int .i64 ((x.1 : Nat) : Int)] W fun e W' =>
      (e = .returned (.bool true) ∧ J (pre ++ [x]) W' ∧ KpB Bm W W') ∨ (e = .returned (.bool false) ∧ Jx (pre ++ [x]) W'))
    (W : World) (hJ : AbidesFrom W.heap.size J) (hB : Blk W Bm #[.int .u64 m.1, .int .u64 m.2.1, .int .u64 m.2.2.1, .int .u64 m.2.2.2] 27) (h0 : J [] W) :
    CallsIn F n Tryd.prog 52 #[.func (.yield l) #[] #[], .pointer (some ⟨Bm, 0, none⟩)] W fun e W' => (∃ v, e = .returned v) ∧
      ((∃ ys, ys = upTo m 256 ∧ J ys W') ∨ (∃ pre, pre <+: upTo m 256 ∧ Jx pre W')) := by
  have hw := hF.fn
  have hro := hF.round
  refine callsIn_of_wp Tryd.func52 rfl (hw _) ?_ hro
  simp only [Tryd.ntmps52, List.size_toArray, List.length_cons, List.length_nil, Nat.reduceAdd, Nat.reduceSub, Array.replicate_succ, Array.replicate_zero, List.push_toArray, List.append_toArray, List.nil_append, List.cons_append]
  gi_wp2
  gi_loopw [3, 4, 5, 6, 7, 8, 9, 10, 11, 12, 13, 14, 15, 16] (fun _ i _ _ _ _ _ _ _ _ _ _ _ _ wr => ∃ k : Nat, k ≤ 256 ∧ i = .int .i64 k ∧ J (upTo m k) wr ∧ Blk wr Bm #[.int .u64 m.1, .int .u64 m.2.1, .int .u64 m.2.2.1, .int .u64 m.2.2.2] 27)
    (fun _ i _ _ _ _ _ _ _ _ _ _ _ _ _ => 256 - (intOf i).toNat)
  case atStart => exact ⟨0, Nat.zero_le _, rfl, h0, hB⟩
  case round =>
    obtain ⟨k, hk, rfl, hJs, hBr⟩ := hrel
    have c0 := hBr.cell 0 _ rfl
    have c1 := hBr.cell 1 _ rfl
    have c2 := hBr.cell 2 _ rfl
    have c3 := hBr.cell 3 _ rfl
    by_cases hlt : k < 256
    · by_cases hh : has m k = true
      · have HH : Hid (hasI m (k : Int) = true) := Lib.hid (by rw [hasI_nat]; exact hh)
        have HU := Lib.hid (upTo_yes hlt hh)
        have HB := Lib.hid (And.intro hBr hJs)
        clear hh hBr hJs h0 hB
        gi_wp2_with (gi_at_call 19; refine (hF.of (Has_any m hm _ _)).mono ?_; rintro e w1 ⟨rfl, hb⟩; rw [HH.out]; have hJ1 := hJ _ _ _ none HB.out.2 (grown_of_below hb none) (fun r e => by cases e); obtain ⟨fn, tmps, assign, body, hy, hR⟩ := hY _ ⟨k, hlt⟩ w1 hJ1 (Nat.lt_of_le_of_lt (upTo_length m k) hlt); dsimp only at hy)
        refine hR.mono ?_
        rintro e W3 (⟨rfl, hJ3, hk3⟩ | ⟨rfl, hJx3⟩)
        · gi_wp2
          go_roundw
          case rel => exact ⟨k + 1, by omega, by simp, by rw [HU.out]; exact hJ3, Eq.trans hk3 (HB.out.1.below hb HB.out.1.lt)⟩
          case measure => simp [intOf]; omega
        · gi_wp2
          refine bodyPost_ret (results_none rfl _ _ _) rfl ?_
          exact ⟨⟨_, rfl⟩, .inr ⟨_, HU.out ▸ upTo_prefix m (by omega), hJx3⟩⟩
      · have hh' : has m k = false := by simpa using hh
        have HH : Hid (hasI m (k : Int) = false) := Lib.hid (by rw [hasI_nat]; exact hh')
        have HU := Lib.hid (upTo_no hh')
        have HB := Lib.hid (And.intro hBr hJs)
        clear hh hh' hBr hJs h0 hB
        gi_wp2_with (gi_at_call 19; refine (hF.of (Has_any m hm _ _)).mono ?_; rintro e w1 ⟨rfl, hb⟩; rw [HH.out])
        have hJ1 := hJ _ _ _ none HB.out.2 (grown_of_below hb none) (fun r e => by cases e)
        go_roundw
        case rel => exact ⟨k + 1, by omega, by simp, by rw [HU.out]; exact hJ1, HB.out.1.below hb HB.out.1.lt⟩
        case measure => simp [intOf]; omega
    · obtain rfl : k = 256 := by omega
      clear h0 hB hlt
      have HB := Lib.hid (And.intro hBr hJs)
      clear hBr hJs
      gi_wp2
      go_end0
      exact ⟨⟨_, rfl⟩, .inl ⟨_, rfl, HB.out.2⟩⟩

/-- (Mask).cores: the mask is boxed; the function value captures the box. -/
theorem cores_any (m : MK) (w : World) : Calls Tryd.prog 39 #[mv m] w fun e w' => e = .returned (.func (.func 52) #[] #[.pointer (some ⟨w.heap.size, 0, none⟩)]) ∧ w' = w.alloc (.cells #[.int .u64 m.1, .int .u64 m.2.1, .int .u64 m.2.2.1, .int .u64 m.2.2.2] 27) := by
  unfold mv
  go_enter Tryd.func39, Tryd.ntmps39
  go_wp2
  go_ret
  exact ⟨rfl, rfl⟩

/-- (Mask).cores HANDS BACK A VALUE THAT GIVES THE MASK's CORES, rising; a round may stop it. -/
theorem cores_stops (F : Fence) (hF : FW F) (n : Nat) (hn : 1 ≤ n) (m : MK) (hm : mok m) (Bm : Nat) (w : World) (hB : Blk w Bm #[.int .u64 m.1, .int .u64 m.2.1, .int .u64 m.2.2.1, .int .u64 m.2.2.2] 27) :
    SeqStopsK F n Tryd.prog 52 #[.pointer (some ⟨Bm, 0, none⟩)] (fun x : C256 => #[Value.int .i64 ((x.1 : Nat) : Int)]) (KpB Bm) (fun ys => ys = upTo m 256) (fun pre => pre <+: upTo m 256) 256 w := fun l J Jx W hW hJ _ hY h0 =>
  cores1_in F hF n hn m hm l Bm J Jx hY W hJ (hB.below hW hB.lt) h0
end Go.Proofs.YtbjeaebgnnljhaaDoor
