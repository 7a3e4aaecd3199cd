/- FRAME: a mask among the arguments, opened and shut; what the row's list gives. -/
import Derived.Test.YtbjeaebgnnljhaaDoorWo
import Derived.Test.YtbjeaebgnnljhaaDoorCards
import Derived.Test.YtbjeaebgnnljhaaDoorTie
import Derived.WalkKit
import Derived.ProofKit
import Derived.OpenShut
import Derived.Deep.DeepHandedRow
import Derived.Lib.LaidTab
namespace Go.Proofs.YtbjeaebgnnljhaaDoor
open Go.ChangeShapes Go.WideShapes Go.ChangeAt Go.RowKit
set_option maxRecDepth 100000

theorem ownK : ownKnob Tryd.prog.godebug = none := by kernel_rfl
theorem cells22 : Tryd.prog.cellsOf 22 = 1 := by kernel_rfl
theorem cells24 : Tryd.prog.cellsOf 24 = 4 := by kernel_rfl

/-- A mask's numbers, as the row reads them. -/
def maskD {H : Type} (m : MK) : DataW H := .agg [.lit (.int .u64 m.1), .lit (.int .u64 m.2.1), .lit (.int .u64 m.2.2.1), .lit (.int .u64 m.2.2.2)]

theorem wf_u64 (n : Nat) (h : n < 2 ^ 64) : (Lit.int .u64 (n : Int)).wf = true := by
  simp [Lit.wf, IntKind.min, IntKind.max, IntKind.signed, IntKind.bits]; omega
theorem u64_nat {n : Int} (h : (Lit.int .u64 n).wf = true) : ∃ k : Nat, n = k ∧ k < 2 ^ 64 := by
  simp [Lit.wf, IntKind.min, IntKind.max, IntKind.signed, IntKind.bits] at h
  exact ⟨n.toNat, by omega, by omega⟩

theorem shut_mask {H : Type} {enc : TypeId × Value → H} {w : World} {base : Nat} {spare : Nat → Bool} {held : Bool} {m : MK} (hm : mok m) : DataW.Trod enc Tryd.prog w base spare held 24 (mv m) (maskD m) [] := by
  refine ⟨2, ?_⟩
  obtain ⟨a, b, c, d⟩ := m
  obtain ⟨ha, hb, hc, hd⟩ := hm
  have wa := wf_u64 a ha
  have wb := wf_u64 b hb
  have wc := wf_u64 c hc
  have wd := wf_u64 d hd
  simp [DataW.trod, mv, Value.cells, Tryd.underlying24, Tryd.underlying22, cells22, cells24, List.range_succ, wa, wb, wc, wd, maskD]

theorem open_mask {H : Type} {enc : TypeId × Value → H} {w : World} {base : Nat} {spare : Nat → Bool} {held : Bool} {r : Reach} {b0 : Nat} {v : Value} {d : DataW H} {ps : List MemPlace}
    (hval : Value.okWide Tryd.prog w r b0 24 v) (hd : DataW.Trod enc Tryd.prog w base spare held 24 v d ps) : ∃ m : MK, v = mv m ∧ d = maskD m ∧ ps = [] ∧ mok m := by
  simp only [Value.okWide, Tryd.underlying24] at hval
  obtain ⟨cs, rfl, hs, -⟩ := hval
  rw [cells24] at hs
  obtain ⟨fuel, hf⟩ := hd
  obtain ⟨xs, m, rfl, hx, hl, hn, hi⟩ := DataW.trod_array Tryd.underlying24 hf
  obtain ⟨c0, c1, c2, c3, rfl⟩ : ∃ c0 c1 c2 c3, cs = #[c0, c1, c2, c3] := by
    obtain ⟨l⟩ := cs
    match l, hs with | [c0, c1, c2, c3], _ => exact ⟨c0, c1, c2, c3, rfl⟩
  obtain ⟨x0, x1, x2, x3, rfl⟩ : ∃ x0 x1 x2 x3, xs = [x0, x1, x2, x3] := by
    match xs, hn with | [x0, x1, x2, x3], _ => exact ⟨x0, x1, x2, x3, rfl⟩
  have h0 := hi 0 (by omega)
  have h1 := hi 1 (by omega)
  have h2 := hi 2 (by omega)
  have h3 := hi 3 (by omega)
  simp only [cells22, Value.cells] at h0 h1 h2 h3
  obtain ⟨n0, e0, rfl, w0⟩ := DataW.trod_int Tryd.underlying22 h0
  obtain ⟨n1, e1, rfl, w1⟩ := DataW.trod_int Tryd.underlying22 h1
  obtain ⟨n2, e2, rfl, w2⟩ := DataW.trod_int Tryd.underlying22 h2
  obtain ⟨n3, e3, rfl, w3⟩ := DataW.trod_int Tryd.underlying22 h3
  simp at e0 e1 e2 e3
  subst e0 e1 e2 e3
  obtain ⟨k0, rfl, l0⟩ := u64_nat w0
  obtain ⟨k1, rfl, l1⟩ := u64_nat w1
  obtain ⟨k2, rfl, l2⟩ := u64_nat w2
  obtain ⟨k3, rfl, l3⟩ := u64_nat w3
  simp at hx
  exact ⟨(k0, k1, k2, k3), rfl, hx.1, hx.2, l0, l1, l2, l3⟩
end Go.Proofs.YtbjeaebgnnljhaaDoor
