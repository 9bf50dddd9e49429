/- What is read at the laws' arguments: spans, rows of spans; numbers of 64 bits. No condition. -/
import Derived.Test.YtabmablgaifidaaOpens
import Derived.Test.YtabmablgaifidaaE3
import Derived.OpenShut
namespace Go.Proofs.Ytabmablgaifidaa.K
open Go.RowKit PGrain
set_option linter.unusedVariables false
theorem Try.cells2 : Try.prog.cellsOf 2 = 1 := by kernel_rfl
theorem Try.cells26 : Try.prog.cellsOf 26 = 2 := by kernel_rfl
theorem Try.cells27 : Try.prog.cellsOf 27 = 1 := by kernel_rfl
theorem Try.bytes26 : Try.prog.bytesOf 26 = 16 := by kernel_rfl
def kSpan : Kd S26 := Kd.iso (Kd.pair (Kd.int .i64) (Kd.int .i64)) (fun x : S26 => (x.f0, x.f1))
theorem kSpan_opens : ∀ N, kSpan.Opens Try.prog 26 N
  | 0 => Kd.opens_zero Try.cells26
  | N + 1 => Kd.opens_struct (fun y => ⟨y.1, y.2⟩) (fun _ => rfl) Try.underlying26 Try.cells26 (Kd.fields_cons rfl ((Kd.opens_int Try.underlying2 Try.cells2) _) (Kd.fields_one rfl ((Kd.opens_int Try.underlying2 Try.cells2) _)))
theorem kSpans_opens : ∀ N, (Kd.slice 16 kSpan).Opens Try.prog 27 N := Kd.opens_slice_all Try.underlying27 Try.cells27 Try.bytes26 (by decide) kSpan_opens
/-- Numbers of 64 bits. -/
def Fit (s : S26) : Prop := I64 s.f0 ∧ I64 s.f1
theorem i64_of {n : Int} (h : (Lit.int .i64 n).wf = true) : I64 n := Go.bounds_i64 h
theorem kSpan_open {w : World} {F : Nat → Prop} {x : S26} {cs : List Value} (h : kSpan.K w F x cs) : cs = [.int .i64 x.f0, .int .i64 x.f1] ∧ Fit x := by
  obtain ⟨_, _, rfl, ⟨rfl, w0⟩, ⟨rfl, w1⟩⟩ := h
  exact ⟨rfl, i64_of w0, i64_of w1⟩
theorem kSpans_open {w : World} {F : Nat → Prop} {xs : List S26} {A : Option Addr} {n c : Nat} (h : (Kd.slice 16 kSpan).K w F xs [.slice A n c]) :
    n = xs.length ∧ xs.length ≤ c ∧ xs.length ≤ 8796093022208 ∧ YtabmablgaifidaaW.PrintWords.Kd.C k26 w A xs.length xs ∧ ∀ s ∈ xs, Fit s := by
  obtain ⟨A', c', he, hl, hb, hr⟩ := h
  injection he with he
  injection he with e1 e2 e3
  subst e1 e2 e3
  refine ⟨rfl, hl, by omega, ⟨rfl, hr.2.1, fun hn => ?_⟩, fun s hs => ?_⟩
  · obtain ⟨ad, ha, _, _, hc⟩ := hr.2.2 hn
    refine ⟨ad, ha, fun j p hj => ?_⟩
    obtain ⟨c, hk, hcc⟩ := hc j p hj
    obtain ⟨rfl, _⟩ := kSpan_open hk
    exact ⟨_, rfl, k26_mk _ _, hcc⟩
  · obtain ⟨i, hi, rfl⟩ := List.mem_iff_getElem.1 hs
    obtain ⟨ad, ha, _, _, hc⟩ := hr.2.2 (by omega)
    obtain ⟨c, hk, _⟩ := hc i _ (List.getElem?_eq_getElem hi)
    exact (kSpan_open hk).2
end Go.Proofs.Ytabmablgaifidaa.K
