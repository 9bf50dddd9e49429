/- The structs of the program as Lean structures, their kinds, and what is read at them. Written by a program; no condition. -/
import Derived.Test.YtddjbhphhhdnfaaProg
import Derived.Test.YtddjbhphhhdnfaaOpens
namespace Go.Proofs.Ytddjbhphhhdnfaa.K
open Go.RowKit
set_option linter.unusedVariables false
theorem Try.cells2 : Try.prog.cellsOf 2 = 1 := by kernel_rfl
theorem Try.cells3 : Try.prog.cellsOf 3 = 1 := by kernel_rfl
theorem Try.cells9 : Try.prog.cellsOf 9 = 1 := by kernel_rfl
theorem Try.cells22 : Try.prog.cellsOf 22 = 1 := by kernel_rfl
theorem Try.cells23 : Try.prog.cellsOf 23 = 1 := by kernel_rfl
theorem Try.cells25 : Try.prog.cellsOf 25 = 6 := by kernel_rfl
theorem Try.cells26 : Try.prog.cellsOf 26 = 1 := by kernel_rfl
theorem Try.cells28 : Try.prog.cellsOf 28 = 3 := by kernel_rfl
theorem Try.cells33 : Try.prog.cellsOf 33 = 2 := by kernel_rfl
theorem Try.bytes2 : Try.prog.bytesOf 2 = 8 := by kernel_rfl
theorem Try.bytes9 : Try.prog.bytesOf 9 = 16 := by kernel_rfl
theorem Try.bytes25 : Try.prog.bytesOf 25 = 80 := by kernel_rfl
/-! ### Schema -/
structure Schema where
  Dims : Int
  Meas : Int
def zSchema : Schema := ⟨0, 0⟩
instance : Inhabited Schema := ⟨zSchema⟩
def kSchema : Kd Schema := Kd.iso (Kd.pair (Kd.int .i64) (Kd.int .i64)) (fun x : Schema => (x.Dims, x.Meas))
theorem kSchema_sz : kSchema.sz = 2 := rfl
theorem kSchema_open {w : World} {F : Nat → Prop} {x : Schema} {cs : List Value} (h : kSchema.K w F x cs) : cs = [.int .i64 x.Dims, .int .i64 x.Meas] ∧ (Lit.int .i64 x.Dims).wf = true ∧ (Lit.int .i64 x.Meas).wf = true := by
  obtain ⟨_, _, rfl, ⟨rfl, w_Dims⟩, ⟨rfl, w_Meas⟩⟩ := h
  exact ⟨rfl, w_Dims, w_Meas⟩
theorem kSchema_mk (w : World) (F : Nat → Prop) (x : Schema) (w_Dims : (Lit.int .i64 x.Dims).wf = true) (w_Meas : (Lit.int .i64 x.Meas).wf = true) : kSchema.K w F x [.int .i64 x.Dims, .int .i64 x.Meas] := ⟨[.int .i64 x.Dims], [.int .i64 x.Meas], rfl, ⟨rfl, w_Dims⟩, ⟨rfl, w_Meas⟩⟩
theorem kSchema_at {w w1 : World} {F : Nat → Prop} {A : Option Addr} {n : Nat} {xs : List Schema} (h : kSchema.C w F A n xs) (hb : Below w.heap.size w w1) {i : Nat} (hi : i < xs.length) : ∃ ad, A = some ad ∧ F ad.block ∧ ad.block < w.heap.size ∧ w1.cell? (ad.add (i * 2)) = some (.int .i64 xs[i].Dims) ∧ w1.cell? ⟨(ad.add (i * 2)).block, (ad.add (i * 2)).off + 1, none⟩ = some (.int .i64 xs[i].Meas) ∧ kSchema.K w F xs[i] [.int .i64 xs[i].Dims, .int .i64 xs[i].Meas] := by
  obtain ⟨ad, c, e, hF, hl, hK, hc⟩ := Kd.C_get h hi
  have hm : ∀ j u, c[j]? = some u → w1.cell? (ad.add (i * kSchema.sz + j)) = some u := fun j u hu => by rw [hb.cell (by rw [Kd.add_block]; exact hl)]; exact hc j u hu
  rw [kSchema_sz] at hm
  obtain ⟨hcs, _, _⟩ := kSchema_open hK
  subst hcs
  exact ⟨ad, e, hF, hl, hm 0 _ rfl, by rw [← add_field _ _ 1 (by omega)]; exact hm 1 _ rfl, hK⟩
theorem kSchema_opens : ∀ N, kSchema.Opens Try.prog 33 N
  | 0 => Kd.opens_zero Try.cells33
  | N + 1 => Kd.opens_struct (fun y => ⟨y.1, y.2⟩) (fun _ => rfl) Try.underlying33 Try.cells33 (Kd.fields_cons rfl ((Kd.opens_int Try.underlying3 Try.cells3) _) (Kd.fields_one rfl ((Kd.opens_int Try.underlying3 Try.cells3) _)))
/-! ### Fact -/
structure Fact where
  Time : Int
  Dims : List ByteArray
  Meas : List Int
def zFact : Fact := ⟨0, [], []⟩
instance : Inhabited Fact := ⟨zFact⟩
def kFact : Kd Fact := Kd.iso (Kd.pair (Kd.int .i64) (Kd.pair (Kd.slice 16 Kd.string) (Kd.slice 8 (Kd.int .i64)))) (fun x : Fact => (x.Time, x.Dims, x.Meas))
theorem kFact_sz : kFact.sz = 3 := rfl
theorem kFact_open {w : World} {F : Nat → Prop} {x : Fact} {cs : List Value} (h : kFact.K w F x cs) : ∃ A0 c0 A1 c1, cs = [.int .i64 x.Time, .slice A0 x.Dims.length c0, .slice A1 x.Meas.length c1] ∧ (Lit.int .i64 x.Time).wf = true ∧ (x.Dims.length ≤ c0 ∧ x.Dims.length * 16 ≤ 140737488355328 ∧ Kd.string.C w F A0 x.Dims.length x.Dims) ∧ (x.Meas.length ≤ c1 ∧ x.Meas.length * 8 ≤ 140737488355328 ∧ (Kd.int .i64).C w F A1 x.Meas.length x.Meas) := by
  obtain ⟨_, _, rfl, ⟨rfl, w_Time⟩, ⟨_, _, rfl, ⟨A0, c0, rfl, l0, b0, g0⟩, ⟨A1, c1, rfl, l1, b1, g1⟩⟩⟩ := h
  exact ⟨A0, c0, A1, c1, rfl, w_Time, ⟨l0, b0, g0⟩, ⟨l1, b1, g1⟩⟩
theorem kFact_mk (w : World) (F : Nat → Prop) (x : Fact) (w_Time : (Lit.int .i64 x.Time).wf = true) {A0 : Option Addr} {c0 : Nat} (g0 : x.Dims.length ≤ c0 ∧ x.Dims.length * 16 ≤ 140737488355328 ∧ Kd.string.C w F A0 x.Dims.length x.Dims) {A1 : Option Addr} {c1 : Nat} (g1 : x.Meas.length ≤ c1 ∧ x.Meas.length * 8 ≤ 140737488355328 ∧ (Kd.int .i64).C w F A1 x.Meas.length x.Meas) : kFact.K w F x [.int .i64 x.Time, .slice A0 x.Dims.length c0, .slice A1 x.Meas.length c1] := ⟨[.int .i64 x.Time], [.slice A0 x.Dims.length c0, .slice A1 x.Meas.length c1], rfl, ⟨rfl, w_Time⟩, ⟨[.slice A0 x.Dims.length c0], [.slice A1 x.Meas.length c1], rfl, ⟨A0, c0, rfl, g0.1, g0.2.1, g0.2.2⟩, ⟨A1, c1, rfl, g1.1, g1.2.1, g1.2.2⟩⟩⟩
theorem kFact_at {w w1 : World} {F : Nat → Prop} {A : Option Addr} {n : Nat} {xs : List Fact} (h : kFact.C w F A n xs) (hb : Below w.heap.size w w1) {i : Nat} (hi : i < xs.length) : ∃ ad A0 c0 A1 c1, A = some ad ∧ F ad.block ∧ ad.block < w.heap.size ∧ w1.cell? (ad.add (i * 3)) = some (.int .i64 xs[i].Time) ∧ w1.cell? ⟨(ad.add (i * 3)).block, (ad.add (i * 3)).off + 1, none⟩ = some (.slice A0 xs[i].Dims.length c0) ∧ w1.cell? ⟨(ad.add (i * 3)).block, (ad.add (i * 3)).off + 2, none⟩ = some (.slice A1 xs[i].Meas.length c1) ∧ kFact.K w F xs[i] [.int .i64 xs[i].Time, .slice A0 xs[i].Dims.length c0, .slice A1 xs[i].Meas.length c1] := by
  obtain ⟨ad, c, e, hF, hl, hK, hc⟩ := Kd.C_get h hi
  have hm : ∀ j u, c[j]? = some u → w1.cell? (ad.add (i * kFact.sz + j)) = some u := fun j u hu => by rw [hb.cell (by rw [Kd.add_block]; exact hl)]; exact hc j u hu
  rw [kFact_sz] at hm
  obtain ⟨A0, c0, A1, c1, hcs, _, _, _⟩ := kFact_open hK
  subst hcs
  exact ⟨ad, A0, c0, A1, c1, e, hF, hl, hm 0 _ rfl, by rw [← add_field _ _ 1 (by omega)]; exact hm 1 _ rfl, by rw [← add_field _ _ 2 (by omega)]; exact hm 2 _ rfl, hK⟩
theorem kFact_opens : ∀ N, kFact.Opens Try.prog 28 N
  | 0 => Kd.opens_zero Try.cells28
  | N + 1 => Kd.opens_struct (fun y => ⟨y.1, y.2.1, y.2.2⟩) (fun _ => rfl) Try.underlying28 Try.cells28 (Kd.fields_cons rfl ((Kd.opens_int Try.underlying2 Try.cells2) _) (Kd.fields_cons rfl ((Kd.opens_slice_all Try.underlying22 Try.cells22 Try.bytes9 (by decide) (Kd.opens_string Try.underlying9 Try.cells9)) _) (Kd.fields_one rfl ((Kd.opens_slice_all Try.underlying26 Try.cells26 Try.bytes2 (by decide) (Kd.opens_int Try.underlying2 Try.cells2)) _))))
/-! ### Filter -/
structure Filter where
  Kind : Int
  Dim : Int
  Texts : List ByteArray
  Lo : Int
  Hi : Int
  Kids : List Filter
def zFilter : Filter := ⟨0, 0, [], 0, 0, []⟩
instance : Inhabited Filter := ⟨zFilter⟩
def GFilter (d : Kd Filter) : Kd Filter := Kd.iso (Kd.pair (Kd.int .i64) (Kd.pair (Kd.int .i64) (Kd.pair (Kd.slice 16 Kd.string) (Kd.pair (Kd.int .i64) (Kd.pair (Kd.int .i64) (Kd.slice 80 d)))))) (fun x : Filter => (x.Kind, x.Dim, x.Texts, x.Lo, x.Hi, x.Kids))
theorem monoFilter : Kd.Mono GFilter := Kd.mono_iso _ (Kd.mono_pair (Kd.mono_const _) (Kd.mono_pair (Kd.mono_const _) (Kd.mono_pair (Kd.mono_const _) (Kd.mono_pair (Kd.mono_const _) (Kd.mono_pair (Kd.mono_const _) (Kd.mono_slice _ Kd.mono_id))))))
theorem szFilter : ∀ n, (Kd.upto GFilter 6 n).sz = 6 := fun n => by cases n <;> rfl
def kFilter : Kd Filter := Kd.fix GFilter 6 szFilter
theorem kFilter_sz : kFilter.sz = 6 := rfl
theorem kFilter_open {w : World} {F : Nat → Prop} {x : Filter} {cs : List Value} (h : kFilter.K w F x cs) : ∃ A0 c0 A1 c1, cs = [.int .i64 x.Kind, .int .i64 x.Dim, .slice A0 x.Texts.length c0, .int .i64 x.Lo, .int .i64 x.Hi, .slice A1 x.Kids.length c1] ∧ (Lit.int .i64 x.Kind).wf = true ∧ (Lit.int .i64 x.Dim).wf = true ∧ (x.Texts.length ≤ c0 ∧ x.Texts.length * 16 ≤ 140737488355328 ∧ Kd.string.C w F A0 x.Texts.length x.Texts) ∧ (Lit.int .i64 x.Lo).wf = true ∧ (Lit.int .i64 x.Hi).wf = true ∧ (x.Kids.length ≤ c1 ∧ x.Kids.length * 80 ≤ 140737488355328 ∧ kFilter.C w F A1 x.Kids.length x.Kids) := by
  obtain ⟨n, h⟩ := h
  cases n with
  | zero => exact h.elim
  | succ n =>
    obtain ⟨_, _, rfl, ⟨rfl, w_Kind⟩, ⟨_, _, rfl, ⟨rfl, w_Dim⟩, ⟨_, _, rfl, ⟨A0, c0, rfl, l0, b0, g0⟩, ⟨_, _, rfl, ⟨rfl, w_Lo⟩, ⟨_, _, rfl, ⟨rfl, w_Hi⟩, ⟨A1, c1, rfl, l1, b1, g1⟩⟩⟩⟩⟩⟩ := h
    exact ⟨A0, c0, A1, c1, rfl, w_Kind, w_Dim, ⟨l0, b0, g0⟩, w_Lo, w_Hi, ⟨l1, b1, Kd.C_fix g1⟩⟩
theorem kFilter_mk (w : World) (F : Nat → Prop) (x : Filter) (w_Kind : (Lit.int .i64 x.Kind).wf = true) (w_Dim : (Lit.int .i64 x.Dim).wf = true) {A0 : Option Addr} {c0 : Nat} (g0 : x.Texts.length ≤ c0 ∧ x.Texts.length * 16 ≤ 140737488355328 ∧ Kd.string.C w F A0 x.Texts.length x.Texts) (w_Lo : (Lit.int .i64 x.Lo).wf = true) (w_Hi : (Lit.int .i64 x.Hi).wf = true) {A1 : Option Addr} {c1 : Nat} (g1 : x.Kids.length ≤ c1 ∧ x.Kids.length * 80 ≤ 140737488355328 ∧ kFilter.C w F A1 x.Kids.length x.Kids) : kFilter.K w F x [.int .i64 x.Kind, .int .i64 x.Dim, .slice A0 x.Texts.length c0, .int .i64 x.Lo, .int .i64 x.Hi, .slice A1 x.Kids.length c1] := by
  obtain ⟨n, r1⟩ := Kd.C_unfix monoFilter g1.2.2
  exact ⟨n + 1, ⟨[.int .i64 x.Kind], [.int .i64 x.Dim, .slice A0 x.Texts.length c0, .int .i64 x.Lo, .int .i64 x.Hi, .slice A1 x.Kids.length c1], rfl, ⟨rfl, w_Kind⟩, ⟨[.int .i64 x.Dim], [.slice A0 x.Texts.length c0, .int .i64 x.Lo, .int .i64 x.Hi, .slice A1 x.Kids.length c1], rfl, ⟨rfl, w_Dim⟩, ⟨[.slice A0 x.Texts.length c0], [.int .i64 x.Lo, .int .i64 x.Hi, .slice A1 x.Kids.length c1], rfl, ⟨A0, c0, rfl, g0.1, g0.2.1, g0.2.2⟩, ⟨[.int .i64 x.Lo], [.int .i64 x.Hi, .slice A1 x.Kids.length c1], rfl, ⟨rfl, w_Lo⟩, ⟨[.int .i64 x.Hi], [.slice A1 x.Kids.length c1], rfl, ⟨rfl, w_Hi⟩, ⟨A1, c1, rfl, g1.1, g1.2.1, r1⟩⟩⟩⟩⟩⟩⟩
theorem kFilter_at {w w1 : World} {F : Nat → Prop} {A : Option Addr} {n : Nat} {xs : List Filter} (h : kFilter.C w F A n xs) (hb : Below w.heap.size w w1) {i : Nat} (hi : i < xs.length) : ∃ ad A0 c0 A1 c1, A = some ad ∧ F ad.block ∧ ad.block < w.heap.size ∧ w1.cell? (ad.add (i * 6)) = some (.int .i64 xs[i].Kind) ∧ w1.cell? ⟨(ad.add (i * 6)).block, (ad.add (i * 6)).off + 1, none⟩ = some (.int .i64 xs[i].Dim) ∧ w1.cell? ⟨(ad.add (i * 6)).block, (ad.add (i * 6)).off + 2, none⟩ = some (.slice A0 xs[i].Texts.length c0) ∧ w1.cell? ⟨(ad.add (i * 6)).block, (ad.add (i * 6)).off + 3, none⟩ = some (.int .i64 xs[i].Lo) ∧ w1.cell? ⟨(ad.add (i * 6)).block, (ad.add (i * 6)).off + 4, none⟩ = some (.int .i64 xs[i].Hi) ∧ w1.cell? ⟨(ad.add (i * 6)).block, (ad.add (i * 6)).off + 5, none⟩ = some (.slice A1 xs[i].Kids.length c1) ∧ kFilter.K w F xs[i] [.int .i64 xs[i].Kind, .int .i64 xs[i].Dim, .slice A0 xs[i].Texts.length c0, .int .i64 xs[i].Lo, .int .i64 xs[i].Hi, .slice A1 xs[i].Kids.length c1] := by
  obtain ⟨ad, c, e, hF, hl, hK, hc⟩ := Kd.C_get h hi
  have hm : ∀ j u, c[j]? = some u → w1.cell? (ad.add (i * kFilter.sz + j)) = some u := fun j u hu => by rw [hb.cell (by rw [Kd.add_block]; exact hl)]; exact hc j u hu
  rw [kFilter_sz] at hm
  obtain ⟨A0, c0, A1, c1, hcs, _, _, _, _, _, _⟩ := kFilter_open hK
  subst hcs
  exact ⟨ad, A0, c0, A1, c1, e, hF, hl, hm 0 _ rfl, by rw [← add_field _ _ 1 (by omega)]; exact hm 1 _ rfl, by rw [← add_field _ _ 2 (by omega)]; exact hm 2 _ rfl, by rw [← add_field _ _ 3 (by omega)]; exact hm 3 _ rfl, by rw [← add_field _ _ 4 (by omega)]; exact hm 4 _ rfl, by rw [← add_field _ _ 5 (by omega)]; exact hm 5 _ rfl, hK⟩
theorem kFilter_opens (N : Nat) : kFilter.Opens Try.prog 25 N := by
  refine Kd.opens_fix Try.cells25 (fun d N hs hd => ?_) N
  exact Kd.opens_struct (fun y => ⟨y.1, y.2.1, y.2.2.1, y.2.2.2.1, y.2.2.2.2.1, y.2.2.2.2.2⟩) (fun _ => rfl) Try.underlying25 (by rw [Try.cells25]; rfl) (Kd.fields_cons rfl ((Kd.opens_int Try.underlying3 Try.cells3) _) (Kd.fields_cons rfl ((Kd.opens_int Try.underlying3 Try.cells3) _) (Kd.fields_cons rfl ((Kd.opens_slice_all Try.underlying22 Try.cells22 Try.bytes9 (by decide) (Kd.opens_string Try.underlying9 Try.cells9)) _) (Kd.fields_cons rfl ((Kd.opens_int Try.underlying2 Try.cells2) _) (Kd.fields_cons rfl ((Kd.opens_int Try.underlying2 Try.cells2) _) (Kd.fields_one rfl (Kd.opens_slice_upto Try.underlying23 Try.cells23 Try.bytes25 (by rw [hs]; decide) hd)))))))
end Go.Proofs.Ytddjbhphhhdnfaa.K
