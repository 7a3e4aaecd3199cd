/- WALKS: what the library's tables hold; Itoa; number, of any text. -/
import Derived.Lib.AppendIntMem
import Derived.Lib.UnsafeStr
import Derived.Test.YtbjeaebgnnljhaaDoorShelf
import Derived.Test.YtbjeaebgnnljhaaDoorWg
namespace Go.Proofs.YtbjeaebgnnljhaaDoor
open Go.RowKit Go.Shelf
set_option maxHeartbeats 1000000
set_option maxRecDepth 100000

/-- What the library's variables hold, as far as a call reads them. -/
structure Env (w : World) : Prop where
  tab : Lib.TabIs Tryd.prog w "internal/strconv.uint64pow10" .u64 Lib.pow10Tab
  ml : ∃ m, w.cell? ⟨0, 0, none⟩ = some (.int .i64 m)
  syn : ∃ ev, w.cell? ⟨3, 0, none⟩ = some ev ∧ (ev = .nilIface ∨ ∃ te pe, ev = .iface te pe)
  rng : ∃ ev, w.cell? ⟨4, 0, none⟩ = some ev ∧ (ev = .nilIface ∨ ∃ te pe, ev = .iface te pe)
theorem lt_of_cell {w : World} {b o : Nat} {v : Value} (h : w.cell? ⟨b, o, none⟩ = some v) : b < w.heap.size := by
  rcases Nat.lt_or_ge b w.heap.size with h' | h'
  · exact h'
  · simp [World.cell?, Array.getElem?_eq_none h'] at h
theorem Env.below {w w' : World} (h : Env w) (hb : Below w.heap.size w w') : Env w' := by
  refine ⟨Lib.tabBelow_of_tabIs h.tab w' hb, ?_, ?_, ?_⟩
  · obtain ⟨m, hm⟩ := h.ml; exact ⟨m, (hb.cell (p := ⟨0, 0, none⟩) (lt_of_cell hm)).trans hm⟩
  · obtain ⟨ev, hv, he⟩ := h.syn; exact ⟨ev, (hb.cell (p := ⟨3, 0, none⟩) (lt_of_cell hv)).trans hv, he⟩
  · obtain ⟨ev, hv, he⟩ := h.rng; exact ⟨ev, (hb.cell (p := ⟨4, 0, none⟩) (lt_of_cell hv)).trans hv, he⟩

theorem Itoa_any (n : Nat) (hn : n < 256) (w : World) (hE : Env w) : Calls Tryd.prog 44 #[.int .i64 (n : Nat)] w fun e w' => e = .returned (.string ⟨(Lib.decDigits n).toArray⟩) ∧ Below w.heap.size w w' := by
  refine (Tryd.strconv_Itoa (n : Int) (by omega) (by omega) w hE.tab).mono ?_
  rintro e w' ⟨rfl, k, os, rfl⟩
  rw [Lib.itoa_nonneg]
  exact ⟨rfl, Lib.below_grow _ w (Nat.le_refl _) k os⟩

theorem below_bytesWorld (w : World) (e : TypeId) (s : ByteArray) : Below w.heap.size w (Lib.bytesWorld w e s) := by
  unfold Lib.bytesWorld
  exact Lib.below_freeze ((Below.refl _ w).drew.alloc (by simp) _) (by simp) _

/-- What number answers. -/
def numB (l : List UInt8) : Int := match Lib.atoiAll l with
  | .ok v => if 0 ≤ v ∧ v < 256 then v else -1
  | _ => -1
theorem number_any (s : ByteArray) (hs : s.size ≤ 281474976710656) (w : World) (hE : Env w) : Calls Tryd.prog 42 #[.string s] w fun e w' => e = .returned (.int .i64 (numB s.data.toList)) ∧ Below w.heap.size w w' := by
  unfold numB
  rcases h : Lib.atoiAll s.data.toList with v | _ | _
  · show Calls Tryd.prog 42 #[.string s] w fun e w' => e = .returned (.int .i64 (if 0 ≤ v ∧ v < 256 then v else -1)) ∧ Below w.heap.size w w'
    have H := Lib.hid h
    have HE := Lib.hid hE
    clear h hE
    have hb' : ∀ w1, (w1 = w ∨ ∃ t, w1 = Lib.bytesWorld w 5 t) → Below w.heap.size w w1 := by
      rintro w1 (rfl | ⟨t, rfl⟩)
      · exact Below.refl _ _
      · exact below_bytesWorld _ _ _
    have HB := Lib.hid hb'
    clear hb'
    by_cases hc : 0 ≤ v ∧ v < 256
    · have HC : Hid ((decide (0 ≤ v) && decide (v < 256)) = true) := Lib.hid (by simp; exact hc)
      simp only [if_pos hc]
      clear hc
      go_enter Tryd.func42, Tryd.ntmps42
      go_wp2_with (first | (go_at_call 55; refine (Tryd.strconv_Atoi_ok s (by omega) v H.out _).mono ?_; rintro e w1 ⟨rfl, hb⟩) | (go_at_call 34; refine (core_any _ _).mono ?_; rintro e w' ⟨rfl, rfl⟩; rw [HC.out]))
      go_ret
      exact ⟨rfl, HB.out _ hb⟩
    · have HC : Hid ((decide (0 ≤ v) && decide (v < 256)) = false) := Lib.hid (by simp; omega)
      simp only [if_neg hc]
      clear hc
      go_enter Tryd.func42, Tryd.ntmps42
      go_wp2_with (first | (go_at_call 55; refine (Tryd.strconv_Atoi_ok s (by omega) v H.out _).mono ?_; rintro e w1 ⟨rfl, hb⟩) | (go_at_call 34; refine (core_any _ _).mono ?_; rintro e w' ⟨rfl, rfl⟩; rw [HC.out]))
      go_ret
      exact ⟨rfl, HB.out _ hb⟩
  · obtain ⟨ev, hv, hev⟩ := hE.syn
    have H := Lib.hid (And.intro h (And.intro hv hev))
    clear h hv hev hE
    go_enter Tryd.func42, Tryd.ntmps42
    go_wp2_with (first | (go_at_call 55; refine (Tryd.strconv_Atoi_syntax s hs H.out.1 ev _ H.out.2.1 H.out.2.2).mono ?_; rintro e w1 ⟨N, rfl, hN, hn, hb⟩) | (go_at_call 34; refine (core_any _ _).mono ?_; rintro e w' ⟨rfl, rfl⟩))
    go_ret
    exact ⟨rfl, hb⟩
  · obtain ⟨ev, hv, hev⟩ := hE.rng
    have H := Lib.hid (And.intro h (And.intro hv hev))
    clear h hv hev hE
    go_enter Tryd.func42, Tryd.ntmps42
    go_wp2_with (first | (go_at_call 55; refine (Tryd.strconv_Atoi_range s hs H.out.1 ev _ H.out.2.1 H.out.2.2).mono ?_; rintro e w1 ⟨N, rfl, hN, hn, hb⟩) | (go_at_call 34; refine (core_any _ _).mono ?_; rintro e w' ⟨rfl, rfl⟩))
    go_ret
    exact ⟨rfl, hb⟩
end Go.Proofs.YtbjeaebgnnljhaaDoor
