/- FRAME: what the row's list gives the walks. -/
import Derived.Test.YtbjeaebgnnljhaaDoorFa
import Derived.LaidSub
import Derived.LaidMore
import Derived.Lay
namespace Go.Proofs.YtbjeaebgnnljhaaDoor
open Go.ChangeShapes Go.WideShapes Go.ChangeAt Go.RowKit
set_option maxRecDepth 100000
theorem gPow : Tryd.prog.globalNamed "internal/strconv.uint64pow10" = some 5 := by kernel_rfl
theorem gSyn : Tryd.prog.globalNamed "strconv.ErrSyntax" = some 3 := by kernel_rfl
theorem gRng : Tryd.prog.globalNamed "strconv.ErrRange" = some 4 := by kernel_rfl
theorem tPow : (Tryd.prog.globals[5]?).map (·.type) = some 123 := by kernel_rfl
theorem tSyn : (Tryd.prog.globals[3]?).map (·.type) = some 77 := by kernel_rfl
theorem tRng : (Tryd.prog.globals[4]?).map (·.type) = some 77 := by kernel_rfl
theorem cells123 : Tryd.prog.cellsOf 123 = 20 := by kernel_rfl

def laidAll : List (String × DataW Unit) := [("math/bits.deBruijn32tab", Rows.laid_math_bits_deBruijn32tab), ("math/bits.deBruijn64tab", Rows.laid_math_bits_deBruijn64tab), ("internal/strconv.uint64pow10", Rows.laid_internal_strconv_uint64pow10), ("unicode/utf8.acceptRanges", Rows.laid_unicode_utf8_acceptRanges), ("strconv.ErrRange", Rows.laid_strconv_ErrRange), ("strconv.ErrSyntax", Rows.laid_strconv_ErrSyntax), ("unicode/utf8.first", Rows.laid_unicode_utf8_first)]

theorem iface_of_laid {W : World} {name : String} {g : Nat} {tn : String} {x : DataW Unit} (hg : Tryd.prog.globalNamed name = some g) (ht : (Tryd.prog.globals[g]?).map (·.type) = some 77)
    (h : laidMet Tryd.prog [(name, .iface tn x)] W) : ∃ te pe, W.cell? ⟨g, 0, none⟩ = some (.iface te pe) := by
  obtain ⟨ps, ⟨g0, t0, cs, fuel, p, q, hg0, ht0, hv, hd, _, _⟩, _, _⟩ := h
  obtain rfl := Option.some.inj (hg.symm.trans hg0)
  obtain rfl := Option.some.inj (ht.symm.trans ht0)
  have hc := World.var?_cell hg0 hv 0
  cases fuel with
  | zero => simp [DataW.trod] at hd
  | succ m =>
    unfold DataW.trod at hd
    rw [Tryd.underlying77] at hd
    obtain ⟨l⟩ := cs
    match l, hd with
    | [.iface u v], _ => exact ⟨u, v, by simpa using hc⟩
    | [.nilIface], hd => simp at hd

theorem env_of {W : World} (hL : laidMetH Tryd.prog laidAll W) (hsh : W.ShapedOpen Tryd.prog) : Env W where
  tab := Lib.tabIs_of_head (rest := []) gPow tPow Tryd.underlying123 Tryd.underlying22 cells22 cells123 (show laidMet Tryd.prog [("internal/strconv.uint64pow10", Lib.tabData .u64 Lib.pow10Tab)] W from hL.filter (fun x => x.1 == "internal/strconv.uint64pow10"))
  ml := Tryd.laysM219.s1_3 W hsh
  syn := by
    obtain ⟨te, pe, h⟩ := iface_of_laid gSyn tSyn (show laidMet Tryd.prog [("strconv.ErrSyntax", .iface _ _)] W from hL.filter (fun x => x.1 == "strconv.ErrSyntax"))
    exact ⟨_, h, .inr ⟨te, pe, rfl⟩⟩
  rng := by
    obtain ⟨te, pe, h⟩ := iface_of_laid gRng tRng (show laidMet Tryd.prog [("strconv.ErrRange", .iface _ _)] W from hL.filter (fun x => x.1 == "strconv.ErrRange"))
    exact ⟨_, h, .inr ⟨te, pe, rfl⟩⟩

/-- THE WITNESS's WORLD: every listed variable laid by the function. -/
noncomputable abbrev wit (os : Os) : World := World.laidAll Tryd.prog os laidAll
theorem wit_met (os : Os) (args : Array Value) : laidMetH Tryd.prog laidAll ((wit os).forCall (fun _ _ => 0) ⟨#[], args, []⟩).memory := by
  rw [MakeChecks.laidMetH_plain _ _ _ (by kernel_rfl)]; exact laidMet_laidAll _ (by kernel_rfl) (by kernel_rfl)
theorem wit_shaped (os : Os) (args : Array Value) : ((wit os).forCall (fun _ _ => 0) ⟨#[], args, []⟩).Shaped Tryd.prog := World.shaped_of_ZipB (by kernel_rfl) (by kernel_rfl)

theorem wit_row {os : Os} {f : FuncId} {fn : Func} {H : Type} {enc : TypeId × Value → H} {s : OpenSpec} {conds : List PathCond} {apart : Bool} (args : Array Value)
    (hok : Input.okWideB Tryd.prog ((wit os).forCall (fun _ _ => 0) ⟨#[], args, []⟩) f ⟨#[], args, []⟩ = true)
    (hrow : s.preRow enc Tryd.prog fn conds apart laidAll ((wit os).forCall (fun _ _ => 0) ⟨#[], args, []⟩).memory args) :
    ∃ (w : World) (tape : Tape) (i : Input), w.os = os ∧ (w.forCall tape i).Shaped Tryd.prog ∧ i.vars = [] ∧ Input.okWide Tryd.prog (w.forCall tape i) .any w.heap.size f i ∧
      s.preRow enc Tryd.prog fn conds apart laidAll (w.forCall tape i).memory i.args ∧ ({} : Assume).holds Tryd.prog (lone (Frame.enter Tryd.prog f i.args .normal) [] (w.forCall tape i)) :=
  ⟨wit os, fun _ _ => 0, ⟨#[], args, []⟩, World.laidAll_os _ _ _, wit_shaped os args, (Input.okWide_of_okWideB (base := 0) hok).1, (Input.okWide_of_okWideB hok).2, hrow, by
    simp only [Assume.holds]
    exact ⟨by simp, by simp, fun h => by simp at h, by simp, by simp⟩⟩
end Go.Proofs.YtbjeaebgnnljhaaDoor
