/- WALKS: Parse, of any text, the empty one too. -/
import Derived.Test.YtbjeaebgnnljhaaDoorWk
namespace Go.Proofs.YtbjeaebgnnljhaaDoor
open Go.RowKit Go.Shelf
set_option maxHeartbeats 1000000
set_option maxRecDepth 100000
/-- mask.Parse, of any text. -/
theorem Parse_none (w : World) : Calls Tryd.prog 22 #[.string ⟨#[]⟩] w fun e w' => e = .returned (.tuple #[mv mk0, .int .i64 0]) ∧ Below w.heap.size w w' := by
  unfold mv mk0
  go_enter Tryd.func22, Tryd.ntmps22
  go_wp2
  refine wp_scope_straight ?_
  go_wp2
  rw [Exit.noGoto_ret]
  refine bodyPost_ret (v := .tuple #[.agg #[.int .u64 0, .int .u64 0, .int .u64 0, .int .u64 0], .int .i64 0]) (by simp [results, Tryd.results22, go_sem]) rfl ⟨rfl, ?_⟩
  repeat (first | exact Below.refl _ _ | exact Nat.le_refl _ | refine Below.drew ?_ | refine Below.alloc ?_ ?_ _ | refine Below.setCell ?_ ?_ _ | refine size_alloc_le _ _ _ ?_)
theorem textM_mk0 : textM mk0 = [] := by
  have h : upTo mk0 256 = [] := by
    unfold upTo
    rw [List.filterMap_eq_nil_iff]
    intro c hc
    simp [has_mk0]
  unfold textM
  rw [h]; rfl
theorem parse_none_res : parseRes [] = (mk0, 0) := by
  have h1 : foldP (splitC []) = none := by decide +kernel
  unfold parseRes
  rw [h1]
  exact if_pos textM_mk0
theorem Parse_any (s : ByteArray) (hs : s.size < 4294967281) (w : World) (hE : Env w) :
    Calls Tryd.prog 22 #[.string s] w fun e w' => e = .returned (.tuple #[mv (parseRes s.data.toList).1, .int .i64 (parseRes s.data.toList).2]) ∧ Below w.heap.size w w' := by
  cases hn : s.toList.isEmpty with
  | true =>
    have h : s = ⟨#[]⟩ := by
      rw [ByteArray.toList_eq] at hn
      apply ByteArray.ext
      simpa using hn
    subst h
    have e : parseRes (⟨#[]⟩ : ByteArray).data.toList = (mk0, 0) := parse_none_res
    rw [e]; exact Parse_none w
  | false => exact callsIn_wide.1 (Parse_in _ FWS.wide s hs hn w hE)
end Go.Proofs.YtbjeaebgnnljhaaDoor
