/- Kinds of values and how they lie in memory: what cells say of a Lean value, in which blocks they lie; rows of such values, read and made; appends. No program, no condition. -/
import Derived.Below
import Derived.Deep.Draws
import Derived.Deep.AppendLies
import Derived.Maps.AppendAt
import Derived.OwnWalk
import Derived.Tactics
import Derived.Laws.Slices
import Derived.WalkKit
import Derived.KernelRfl
import Derived.RowKit3
import Derived.Deep.LoopGhost
import Derived.Deep.QuietTactic
import Derived.BigQuiet
import Derived.WideLaws
import Derived.Deep.DeepCutAuto
import Derived.Deep.CutBlock
import Derived.Deep.RegionHeld3
import Derived.Laws.Rows
import Derived.ArgAppend
import Derived.WalkLawsBesides
import Derived.WalkSpells
import Derived.SizedLaws
import Derived.Deep.Slices
import Derived.ChangeArms
namespace Go.Proofs.Ytjpeaeklhcnpnaa.K
open Go.RowKit
set_option linter.unusedVariables false

/-- A fact that the walk's simp does not look into. -/
structure Aside (p : Prop) : Prop where mk :: (out : p)

/-! ### Worlds -/
theorem below_alloc {w W : World} (h : Below w.heap.size w W) (o : Obj) : Below w.heap.size w (W.alloc o) := h.alloc h.size o
theorem below_drewN {B : Nat} {w W : World} (h : Below B w W) (n : Nat) : Below B w (W.drewN n) := ⟨h.os, h.tape, h.output, h.size, h.block⟩
theorem below_then {B : Nat} {w w1 w2 : World} (h : Below B w w1) (k : Below w1.heap.size w1 w2) (hB : B ≤ w1.heap.size) : Below B w w2 := h.trans (k.mono hB)
theorem below_self {w w1 w2 : World} (h : Below w.heap.size w w1) (k : Below w1.heap.size w1 w2) : Below w.heap.size w w2 := h.trans (k.mono h.size)
theorem blk_lt {w : World} {g : Nat} {o : Obj} (h : w.heap[g]? = some o) : g < w.heap.size := (Array.getElem?_eq_some_iff.1 h).1
theorem blk_cell {w : World} {g : Nat} {t : TypeId} {cs : Array Value} (h : w.heap[g]? = some (.cells cs t (0, 0))) (i : Nat) : w.cell? ⟨g, i, none⟩ = cs[i]? := cell_of_row w g i cs t (0, 0) h
theorem blk_frozen {w : World} {g : Nat} {t : TypeId} {cs : Array Value} (h : w.heap[g]? = some (.cells cs t (0, 0))) (i : Nat) : w.frozen? ⟨g, i, none⟩ = false := by simp [World.frozen?, h]
theorem blk_below {w w1 : World} {g : Nat} {o : Obj} (h : w.heap[g]? = some o) (hb : Below w.heap.size w w1) : w1.heap[g]? = some o := (hb.block g (blk_lt h)).trans h
theorem blk_alloc {w : World} {g : Nat} {o : Obj} (h : w.heap[g]? = some o) (o' : Obj) : (w.alloc o').heap[g]? = some o := (Below.heap_alloc w o' g (blk_lt h)).trans h
theorem blk_new (w : World) (o : Obj) : (w.alloc o).heap[w.heap.size]? = some o := heap_alloc_new w o
theorem blk_set {w : World} {g : Nat} {t : TypeId} {cs : Array Value} (h : w.heap[g]? = some (.cells cs t (0, 0))) (i : Nat) (u : Value) : (w.setCell ⟨g, i, none⟩ u).heap[g]? = some (.cells (cs.setIfInBounds i u) t (0, 0)) := by
  simp [World.setCell, Array.getElem?_modify, h]
theorem add_field (ad : Addr) (i j : Nat) (hj : 0 < j) : ad.add (i + j) = ⟨(ad.add i).block, (ad.add i).off + j, none⟩ := by
  unfold Addr.add
  split <;> split <;> simp_all <;> omega

theorem enters_of {P : Program} {f : FuncId} {fn : Func} {c : Code} (hf : P.funcs[f]? = some fn) (hname : (fn.name == "runtime.NumGoroutine") = false) (hb : fn.body = some c) : ∀ (args : Array Value) (w : World), (callFunc f args).run P w = .ok (.enter f args) w := by
  intro args w
  have h1 : fn.name ≠ "runtime.NumGoroutine" := by simpa using hname
  simp [callFunc, hf, h1, hb, mark]
theorem ret_bool {a b : Bool} (h : a = b) : Ending.returned (.bool a) = .returned (.bool b) := by rw [h]
theorem ret_int {k : IntKind} {a b : Int} (h : a = b) : Ending.returned (.int k a) = .returned (.int k b) := by rw [h]

/-! ### Kinds -/
/-- sz: cells. K w F x cs: in w the cells cs say x; all blocks that are reached lie in F. -/
structure Kd (α : Type) where
  sz : Nat
  K : World → (Nat → Prop) → α → List Value → Prop
  len : ∀ {w F x cs}, K w F x cs → cs.length = sz
  one : ∀ {w F x cs}, K w F x cs → ∀ u ∈ cs, u.oneCell' = true
  mono : ∀ {w F F' x cs}, (∀ k, F k → F' k) → K w F x cs → K w F' x cs
  move : ∀ {w w1 : World} {F x cs}, (∀ k, F k → k < w.heap.size → w1.heap[k]? = w.heap[k]?) → K w F x cs → K w1 F x cs
  lt : ∀ {w : World} {F x cs}, K w F x cs → K w (fun k => F k ∧ k < w.heap.size) x cs

/-- Whatever block. -/
abbrev Any : Nat → Prop := fun _ => True

namespace Kd
variable {α β : Type}
theorem below {d : Kd α} {w w1 : World} {F : Nat → Prop} {x : α} {cs : List Value} (h : d.K w F x cs) (hb : Below w.heap.size w w1) : d.K w1 F x cs := d.move (fun k _ hk => hb.block k hk) h
theorem any {d : Kd α} {w : World} {F : Nat → Prop} {x : α} {cs : List Value} (h : d.K w F x cs) : d.K w Any x cs := d.mono (fun _ _ => trivial) h

/-- A row of n elements from A on. -/
def C (d : Kd α) (w : World) (F : Nat → Prop) (A : Option Addr) (n : Nat) (xs : List α) : Prop :=
  xs.length = n ∧ n ≤ 9223372036854775807 ∧ (0 < n → ∃ ad, A = some ad ∧ F ad.block ∧ ad.block < w.heap.size ∧ ∀ j p, xs[j]? = some p → ∃ c, d.K w F p c ∧ ∀ i u, c[i]? = some u → w.cell? (ad.add (j * d.sz + i)) = some u)
theorem add_block (ad : Addr) (j : Nat) : (ad.add j).block = ad.block := by unfold Addr.add; split <;> rfl

theorem C_mono {d : Kd α} {w : World} {F F' : Nat → Prop} {A : Option Addr} {n : Nat} {xs : List α} (hF : ∀ k, F k → F' k) (h : d.C w F A n xs) : d.C w F' A n xs :=
  ⟨h.1, h.2.1, fun hn => by
    obtain ⟨ad, e, hf, hl, hc⟩ := h.2.2 hn
    exact ⟨ad, e, hF _ hf, hl, fun j p hj => by
      obtain ⟨c, hk, hcc⟩ := hc j p hj
      exact ⟨c, d.mono hF hk, hcc⟩⟩⟩
theorem C_move {d : Kd α} {w w1 : World} {F : Nat → Prop} {A : Option Addr} {n : Nat} {xs : List α} (hm : ∀ k, F k → k < w.heap.size → w1.heap[k]? = w.heap[k]?) (h : d.C w F A n xs) : d.C w1 F A n xs :=
  ⟨h.1, h.2.1, fun hn => by
    obtain ⟨ad, e, hf, hl, hc⟩ := h.2.2 hn
    refine ⟨ad, e, hf, ?_, fun j p hj => ?_⟩
    · have hb := hm _ hf hl
      rw [Array.getElem?_eq_getElem hl] at hb
      exact (Array.getElem?_eq_some_iff.1 hb).1
    · obtain ⟨c, hk, hcc⟩ := hc j p hj
      exact ⟨c, d.move hm hk, fun i u hu => by rw [World.cell?_of_block (w := w) (by rw [add_block]; exact hm _ hf hl)]; exact hcc i u hu⟩⟩
theorem C_lt {d : Kd α} {w : World} {F : Nat → Prop} {A : Option Addr} {n : Nat} {xs : List α} (h : d.C w F A n xs) : d.C w (fun k => F k ∧ k < w.heap.size) A n xs :=
  ⟨h.1, h.2.1, fun hn => by
    obtain ⟨ad, e, hf, hl, hc⟩ := h.2.2 hn
    exact ⟨ad, e, ⟨hf, hl⟩, hl, fun j p hj => by
      obtain ⟨c, hk, hcc⟩ := hc j p hj
      exact ⟨c, d.lt hk, hcc⟩⟩⟩
theorem C_below {d : Kd α} {w w1 : World} {F : Nat → Prop} {A : Option Addr} {n : Nat} {xs : List α} (h : d.C w F A n xs) (hb : Below w.heap.size w w1) : d.C w1 F A n xs := C_move (fun k _ hk => hb.block k hk) h
theorem C_any {d : Kd α} {w : World} {F : Nat → Prop} {A : Option Addr} {n : Nat} {xs : List α} (h : d.C w F A n xs) : d.C w Any A n xs := C_mono (fun _ _ => trivial) h
theorem C_nil (d : Kd α) (w : World) (F : Nat → Prop) (A : Option Addr) : d.C w F A 0 [] := ⟨rfl, by omega, fun h => absurd h (Nat.lt_irrefl 0)⟩
theorem C_nil' (d : Kd α) (w : World) (F : Nat → Prop) (A : Option Addr) : d.C w F A ([] : List α).length [] := C_nil d w F A
/-- The element at i. -/
theorem C_get {d : Kd α} {w : World} {F : Nat → Prop} {A : Option Addr} {n : Nat} {xs : List α} (h : d.C w F A n xs) {i : Nat} (hi : i < xs.length) :
    ∃ ad c, A = some ad ∧ F ad.block ∧ ad.block < w.heap.size ∧ d.K w F xs[i] c ∧ ∀ j u, c[j]? = some u → w.cell? (ad.add (i * d.sz + j)) = some u := by
  obtain ⟨ad, e, hf, hl, hc⟩ := h.2.2 (by have := h.1; omega)
  obtain ⟨c, hk, hcc⟩ := hc i _ (List.getElem?_eq_getElem hi)
  exact ⟨ad, c, e, hf, hl, hk, hcc⟩
theorem C_take {d : Kd α} {w : World} {F : Nat → Prop} {A : Option Addr} {n : Nat} {xs : List α} (h : d.C w F A n xs) (m : Nat) (hm : m ≤ n) : d.C w F A m (xs.take m) :=
  ⟨by rw [List.length_take, h.1]; omega, by have := h.2.1; omega, fun hn => by
    obtain ⟨ad, e, hf, hl, hc⟩ := h.2.2 (by omega)
    refine ⟨ad, e, hf, hl, fun j p hj => hc j p ?_⟩
    rw [List.getElem?_take] at hj
    split at hj
    · exact hj
    · cases hj⟩
theorem add_add (ad : Addr) (i j : Nat) : (ad.add i).add j = ad.add (i + j) := by
  unfold Addr.add
  split <;> split <;> simp_all <;> first | omega | (split <;> simp_all <;> omega)
theorem C_drop {d : Kd α} {w : World} {F : Nat → Prop} {A : Option Addr} {n : Nat} {xs : List α} (h : d.C w F A n xs) (m : Nat) (hm : m ≤ n) : d.C w F (A.map (·.add (m * d.sz))) (n - m) (xs.drop m) :=
  ⟨by rw [List.length_drop, h.1], by have := h.2.1; omega, fun hn => by
    obtain ⟨ad, e, hf, hl, hc⟩ := h.2.2 (by omega)
    refine ⟨ad.add (m * d.sz), by rw [e]; rfl, by rw [add_block]; exact hf, by rw [add_block]; exact hl, fun j p hj => ?_⟩
    rw [List.getElem?_drop] at hj
    obtain ⟨c, hk, hcc⟩ := hc _ p hj
    refine ⟨c, hk, fun i u hu => ?_⟩
    rw [add_add, ← Nat.add_assoc, ← Nat.add_mul]
    exact hcc i u hu⟩

/-- One cell. Q: what is known of the value. -/
def scalar (enc : α → Value) (Q : α → Prop) (h1 : ∀ x, (enc x).oneCell' = true) : Kd α where
  sz := 1
  K := fun _ _ x cs => cs = [enc x] ∧ Q x
  len := by rintro w F x cs ⟨rfl, _⟩; rfl
  one := by rintro w F x cs ⟨rfl, _⟩ u hu; rw [List.mem_singleton.1 hu]; exact h1 _
  mono := fun _ h => h
  move := fun _ h => h
  lt := fun h => h
def int (k : IntKind) : Kd Int := scalar (Value.int k) (fun x => (Lit.int k x).wf = true) (fun _ => rfl)
def bool : Kd Bool := scalar Value.bool (fun _ => True) (fun _ => rfl)
def string : Kd ByteArray := scalar Value.string (fun s => s.size ≤ 140737488355328) (fun _ => rfl)
/-- A slice; bytes: of an element. No slice takes more than 2^47 bytes. -/
def slice (bytes : Nat) (d : Kd α) : Kd (List α) where
  sz := 1
  K := fun w F xs cs => ∃ A c, cs = [.slice A xs.length c] ∧ xs.length ≤ c ∧ xs.length * bytes ≤ 140737488355328 ∧ d.C w F A xs.length xs
  len := by rintro w F x cs ⟨A, c, rfl, _⟩; rfl
  one := by rintro w F x cs ⟨A, c, rfl, _⟩ u hu; rw [List.mem_singleton.1 hu]; rfl
  mono := by rintro w F F' x cs hF ⟨A, c, rfl, hl, hb, hr⟩; exact ⟨A, c, rfl, hl, hb, C_mono hF hr⟩
  move := by rintro w w1 F x cs hm ⟨A, c, rfl, hl, hb, hr⟩; exact ⟨A, c, rfl, hl, hb, C_move hm hr⟩
  lt := by rintro w F x cs ⟨A, c, rfl, hl, hb, hr⟩; exact ⟨A, c, rfl, hl, hb, C_lt hr⟩
/-- Two in line. -/
def pair (a : Kd α) (b : Kd β) : Kd (α × β) where
  sz := a.sz + b.sz
  K := fun w F x cs => ∃ c0 c1, cs = c0 ++ c1 ∧ a.K w F x.1 c0 ∧ b.K w F x.2 c1
  len := by rintro w F x cs ⟨c0, c1, rfl, h0, h1⟩; rw [List.length_append, a.len h0, b.len h1]
  one := by
    rintro w F x cs ⟨c0, c1, rfl, h0, h1⟩ u hu
    rcases List.mem_append.1 hu with hu | hu
    · exact a.one h0 u hu
    · exact b.one h1 u hu
  mono := by rintro w F F' x cs hF ⟨c0, c1, rfl, h0, h1⟩; exact ⟨c0, c1, rfl, a.mono hF h0, b.mono hF h1⟩
  move := by rintro w w1 F x cs hm ⟨c0, c1, rfl, h0, h1⟩; exact ⟨c0, c1, rfl, a.move hm h0, b.move hm h1⟩
  lt := by rintro w F x cs ⟨c0, c1, rfl, h0, h1⟩; exact ⟨c0, c1, rfl, a.lt h0, b.lt h1⟩
/-- A Lean structure by its fields. -/
def iso (d : Kd α) (f : β → α) : Kd β where
  sz := d.sz
  K := fun w F x cs => d.K w F (f x) cs
  len := d.len
  one := d.one
  mono := d.mono
  move := d.move
  lt := d.lt
def bot (sz : Nat) : Kd α where
  sz := sz
  K := fun _ _ _ _ => False
  len := fun h => h.elim
  one := fun h => h.elim
  mono := fun _ h => h
  move := fun _ h => h
  lt := fun h => h
/-- A type nested in itself: at most n deep .. -/
def upto (G : Kd α → Kd α) (sz : Nat) : Nat → Kd α
  | 0 => bot sz
  | n + 1 => G (upto G sz n)
/-- .. for some n. -/
def fix (G : Kd α → Kd α) (sz : Nat) (hs : ∀ n, (upto G sz n).sz = sz) : Kd α where
  sz := sz
  K := fun w F x cs => ∃ n, (upto G sz n).K w F x cs
  len := by rintro w F x cs ⟨n, h⟩; rw [(upto G sz n).len h, hs n]
  one := by rintro w F x cs ⟨n, h⟩; exact (upto G sz n).one h
  mono := by rintro w F F' x cs hF ⟨n, h⟩; exact ⟨n, (upto G sz n).mono hF h⟩
  move := by rintro w w1 F x cs hm ⟨n, h⟩; exact ⟨n, (upto G sz n).move hm h⟩
  lt := by rintro w F x cs ⟨n, h⟩; exact ⟨n, (upto G sz n).lt h⟩

theorem C_imp {d d' : Kd α} (hs : d.sz = d'.sz) (h : ∀ w F x cs, d.K w F x cs → d'.K w F x cs) {w : World} {F : Nat → Prop} {A : Option Addr} {n : Nat} {xs : List α} (hc : d.C w F A n xs) : d'.C w F A n xs :=
  ⟨hc.1, hc.2.1, fun hn => by
    obtain ⟨ad, e, hf, hl, hcc⟩ := hc.2.2 hn
    exact ⟨ad, e, hf, hl, fun j p hj => by
      obtain ⟨c, hk, hu⟩ := hcc j p hj
      exact ⟨c, h _ _ _ _ hk, by rw [← hs]; exact hu⟩⟩⟩
structure Mono {α β : Type} (G : Kd α → Kd β) : Prop where
  sz : ∀ d d', d.sz = d'.sz → (G d).sz = (G d').sz
  imp : ∀ d d', d.sz = d'.sz → (∀ w F x cs, d.K w F x cs → d'.K w F x cs) → ∀ w F x cs, (G d).K w F x cs → (G d').K w F x cs
theorem mono_const (k : Kd β) : Mono (fun _ : Kd α => k) := ⟨fun _ _ _ => rfl, fun _ _ _ _ _ _ _ _ h => h⟩
theorem mono_id : Mono (fun d : Kd α => d) := ⟨fun _ _ h => h, fun _ _ _ h => h⟩
theorem mono_slice {γ : Type} (b : Nat) {G : Kd α → Kd γ} (hG : Mono G) : Mono (fun d => slice b (G d)) :=
  ⟨fun _ _ _ => rfl, fun d d' hs h w F x cs ⟨A, c, e, hl, hb, hc⟩ => ⟨A, c, e, hl, hb, C_imp (hG.sz _ _ hs) (hG.imp d d' hs h) hc⟩⟩
theorem mono_pair {γ δ : Type} {G : Kd α → Kd γ} {H : Kd α → Kd δ} (hG : Mono G) (hH : Mono H) : Mono (fun d => pair (G d) (H d)) :=
  ⟨fun d d' hs => by show (G d).sz + (H d).sz = (G d').sz + (H d').sz; rw [hG.sz _ _ hs, hH.sz _ _ hs], fun d d' hs h w F x cs ⟨c0, c1, e, h0, h1⟩ => ⟨c0, c1, e, hG.imp d d' hs h _ _ _ _ h0, hH.imp d d' hs h _ _ _ _ h1⟩⟩
theorem mono_iso {γ δ : Type} {G : Kd α → Kd γ} (f : δ → γ) (hG : Mono G) : Mono (fun d => iso (G d) f) := ⟨hG.sz, fun d d' hs h w F x cs hk => hG.imp d d' hs h w F (f x) cs hk⟩
section
variable {G : Kd α → Kd α} {sz : Nat} {hs : ∀ n, (upto G sz n).sz = sz}
theorem upto_le (hG : Mono G) (hs : ∀ n, (upto G sz n).sz = sz) : ∀ {n m : Nat}, n ≤ m → ∀ w F x cs, (upto G sz n).K w F x cs → (upto G sz m).K w F x cs
  | 0, _, _ => fun _ _ _ _ h => h.elim
  | n + 1, 0, h => by omega
  | n + 1, m + 1, h => hG.imp _ _ (by rw [hs, hs]) (upto_le hG hs (Nat.le_of_succ_le_succ h))
theorem fix_of {n : Nat} {w : World} {F : Nat → Prop} {x : α} {cs : List Value} (h : (upto G sz n).K w F x cs) : (fix G sz hs).K w F x cs := ⟨n, h⟩
theorem C_fix {n : Nat} {w : World} {F : Nat → Prop} {A : Option Addr} {m : Nat} {xs : List α} (h : (upto G sz n).C w F A m xs) : (fix G sz hs).C w F A m xs := C_imp (d := upto G sz n) (d' := fix G sz hs) (hs n) (fun _ _ _ _ hk => ⟨n, hk⟩) h
/-- A row of elements each nested at most so deep: at most so deep, all. -/
theorem C_unfix (hG : Mono G) {w : World} {F : Nat → Prop} {A : Option Addr} {m : Nat} {xs : List α} (h : (fix G sz hs).C w F A m xs) : ∃ n, (upto G sz n).C w F A m xs := by
  rcases Nat.eq_zero_or_pos m with h0 | h0
  · exact ⟨0, h.1, h.2.1, fun hn => by omega⟩
  obtain ⟨ad, e, hf, hl, hc⟩ := h.2.2 h0
  have key : ∀ i, i ≤ xs.length → ∃ n, ∀ j p, j < i → xs[j]? = some p → ∃ c, (upto G sz n).K w F p c ∧ ∀ i u, c[i]? = some u → w.cell? (ad.add (j * sz + i)) = some u := by
    intro i
    induction i with
    | zero => exact fun _ => ⟨0, fun j p hj => by omega⟩
    | succ i ih =>
      intro hi
      obtain ⟨n, hn⟩ := ih (by omega)
      obtain ⟨c, ⟨n', hk⟩, hcc⟩ := hc i _ (List.getElem?_eq_getElem (show i < xs.length by omega))
      refine ⟨max n n', fun j p hj hp => ?_⟩
      rcases Nat.lt_or_ge j i with hlt | hge
      · obtain ⟨c', hk', hcc'⟩ := hn j p hlt hp
        exact ⟨c', upto_le hG hs (Nat.le_max_left _ _) _ _ _ _ hk', hcc'⟩
      · obtain rfl : j = i := by omega
        rw [List.getElem?_eq_getElem (show j < xs.length by omega)] at hp
        injection hp with hp
        subst hp
        exact ⟨c, upto_le hG hs (Nat.le_max_right _ _) _ _ _ _ hk, hcc⟩
  obtain ⟨n, hn⟩ := key xs.length (Nat.le_refl _)
  refine ⟨n, h.1, h.2.1, fun _ => ⟨ad, e, hf, hl, fun j p hj => ?_⟩⟩
  rw [hs n]
  exact hn j p (List.getElem?_eq_some_iff.1 hj).1 hj
end

/-! ### Rows that the call made -/
/-- v owns a row of elements (type e), which say xs; what they reach lies in F, and not in the row's own block. -/
def Own (d : Kd α) (e : TypeId) (w : World) (F : Nat → Prop) (base : Nat) (v : Value) (xs : List α) : Prop :=
  (∀ k, v.ownBlock = some k → F k) ∧ ∃ inner, w.ownsRow base e d.sz v xs.length inner ∧ ∀ j p, xs[j]? = some p → d.K w (fun k => F k ∧ some k ≠ v.ownBlock) p ((inner.drop (j * d.sz)).take d.sz)
theorem own_base {w : World} {base : Nat} {e : TypeId} {size n : Nat} {v : Value} {xs : List Value} (h : w.ownsRow base e size v n xs) (k : Nat) (hk : v.ownBlock = some k) : base ≤ k ∧ k < w.heap.size := by
  rcases h.2 with ⟨rfl, _⟩ | ⟨g, cap, cur, rfl, hb, hh, _⟩
  · simp [Value.ownBlock] at hk
  · have : g = k := by simpa [Value.ownBlock] using hk
    subst this
    exact ⟨hb, blk_lt hh⟩
theorem Own_nil (d : Kd α) (e : TypeId) (w : World) (F : Nat → Prop) (base : Nat) : d.Own e w F base (.slice none 0 0) [] :=
  ⟨fun k hk => by simp [Value.ownBlock] at hk, [], World.ownsRow_nil _ _ _ _, fun j p hj => by simp at hj⟩
theorem Own_mono {d : Kd α} {e : TypeId} {w : World} {F F' : Nat → Prop} {base : Nat} {v : Value} {xs : List α} (h : d.Own e w F base v xs) (hF : ∀ k, F k → F' k) : d.Own e w F' base v xs := by
  obtain ⟨h0, inner, ho, hr⟩ := h
  exact ⟨fun k hk => hF k (h0 k hk), inner, ho, fun j p hj => d.mono (fun k hk => ⟨hF k hk.1, hk.2⟩) (hr j p hj)⟩
theorem Own_move {d : Kd α} {e : TypeId} {w w1 : World} {F : Nat → Prop} {base : Nat} {v : Value} {xs : List α} (hm : ∀ k, F k → k < w.heap.size → w1.heap[k]? = w.heap[k]?) (h : d.Own e w F base v xs) : d.Own e w1 F base v xs := by
  obtain ⟨h0, inner, ho, hr⟩ := h
  refine ⟨h0, inner, ⟨ho.1, ?_⟩, fun j p hj => d.move (fun k hk hl => hm k hk.1 hl) (hr j p hj)⟩
  rcases ho.2 with h2 | ⟨g, cap, cur, rfl, hg, hh, r⟩
  · exact .inl h2
  · exact .inr ⟨g, cap, cur, rfl, hg, (hm g (h0 g (by simp [Value.ownBlock])) (blk_lt hh)).trans hh, r⟩
theorem Own_below {d : Kd α} {e : TypeId} {w w1 : World} {F : Nat → Prop} {base : Nat} {v : Value} {xs : List α} (h : d.Own e w F base v xs) (hb : Below w.heap.size w w1) : d.Own e w1 F base v xs := Own_move (fun k _ hk => hb.block k hk) h
theorem Own_lt {d : Kd α} {e : TypeId} {w : World} {F : Nat → Prop} {base : Nat} {v : Value} {xs : List α} (h : d.Own e w F base v xs) : d.Own e w (fun k => F k ∧ k < w.heap.size) base v xs := by
  obtain ⟨h0, inner, ho, hr⟩ := h
  exact ⟨fun k hk => ⟨h0 k hk, (own_base ho k hk).2⟩, inner, ho, fun j p hj => d.mono (fun k hk => ⟨⟨hk.1.1, hk.2⟩, hk.1.2⟩) (d.lt (hr j p hj))⟩
/-- What is owned is read. -/
theorem Own_C {d : Kd α} {e : TypeId} {w : World} {F : Nat → Prop} {base : Nat} {v : Value} {xs : List α} (h : d.Own e w F base v xs) : ∃ A c, v = .slice A xs.length c ∧ xs.length ≤ c ∧ d.C w F A xs.length xs := by
  obtain ⟨h0, inner, ho, hr⟩ := h
  rcases ho.2 with ⟨rfl, h2⟩ | ⟨g, cap, cur, rfl, hg, hh, hn, hm, hcs, hc⟩
  · have hx : xs = [] := List.eq_nil_of_length_eq_zero h2
    subst hx
    exact ⟨none, 0, rfl, Nat.le_refl _, C_nil _ _ _ _⟩
  · refine ⟨_, cap, rfl, hn, rfl, by simp only [maxLen] at hm; omega, fun hpos => ⟨_, rfl, h0 g (by simp [Value.ownBlock]), blk_lt hh, fun j p hj => ⟨(inner.drop (j * d.sz)).take d.sz, d.mono (fun _ hk => hk.1) (hr j p hj), fun i u hu => ?_⟩⟩⟩
    rw [List.getElem?_take] at hu
    split at hu
    · rw [List.getElem?_drop] at hu
      exact World.ownsRow.cells (g := g) ho rfl _ u hu
    · cases hu
theorem Own_K {d : Kd α} {e : TypeId} {w : World} {F : Nat → Prop} {base : Nat} {v : Value} {xs : List α} {b : Nat} (h : d.Own e w F base v xs) (hb : xs.length * b ≤ 140737488355328) : (slice b d).K w F xs [v] := by
  obtain ⟨A, c, rfl, hl, hc⟩ := Own_C h
  exact ⟨A, c, rfl, hl, hb, hc⟩
/-- What an append leaves. -/
theorem Own_appended {d : Kd α} {e : TypeId} {F Fp : Nat → Prop} {base : Nat} {W w1 : World} {v v1 : Value} {xs ys : List α} {inner news : List Value} (h0 : ∀ k, v.ownBlock = some k → F k) (hin : inner.length = xs.length * d.sz)
    (hr : ∀ j p, xs[j]? = some p → d.K W (fun k => F k ∧ some k ≠ v.ownBlock) p ((inner.drop (j * d.sz)).take d.sz)) (hnew : ∀ j p, ys[j]? = some p → d.K W Fp p ((news.drop (j * d.sz)).take d.sz)) (hFp : ∀ k, Fp k → k < W.heap.size → F k ∧ some k ≠ v.ownBlock) (hfresh : ∀ k, W.heap.size ≤ k → F k)
    (hown : w1.ownsRow base e d.sz v1 (xs.length + ys.length) (inner ++ news)) (hg : W.grownBy w1 v.ownBlock) (hat : v1.ownBlock = v.ownBlock ∨ ∃ b, v1.ownBlock = some b ∧ W.heap.size ≤ b) : d.Own e w1 F base v1 (xs ++ ys) := by
  have hne : ∀ k, some k ≠ v.ownBlock → k < W.heap.size → some k ≠ v1.ownBlock := by
    intro k hk hlt
    rcases hat with hat | ⟨b, hb, hle⟩
    · rw [hat]; exact hk
    · rw [hb]; intro he; injection he with he; omega
  have step : ∀ {q : α} {c : List Value} {o : Nat → Prop}, d.K W o q c → (∀ k, o k → k < W.heap.size → F k ∧ some k ≠ v.ownBlock) → d.K w1 (fun k => F k ∧ some k ≠ v1.ownBlock) q c := by
    intro q c o hq ho
    have h1 := d.move (w1 := w1) (fun k hk hl => hg.block k hl (ho k hk.1 hk.2).2) (d.lt hq)
    exact d.mono (fun k hk => ⟨(ho k hk.1 hk.2).1, hne k (ho k hk.1 hk.2).2 hk.2⟩) h1
  refine ⟨fun k hk => ?_, inner ++ news, by rw [List.length_append]; exact hown, fun j p hj => ?_⟩
  · rcases hat with hat | ⟨b, hb, hle⟩
    · exact h0 k (hat ▸ hk)
    · rw [hb] at hk
      injection hk with hk
      exact hfresh k (by omega)
  · rcases Nat.lt_or_ge j xs.length with hlt | hge
    · rw [List.getElem?_append_left hlt] at hj
      have hle : j * d.sz + d.sz ≤ inner.length := by rw [hin, ← Nat.succ_mul]; exact Nat.mul_le_mul_right _ hlt
      rw [List.drop_append_of_le_length (by omega), List.take_append_of_le_length (by rw [List.length_drop]; omega)]
      exact step (hr j p hj) (fun _ hk _ => hk)
    · rw [List.getElem?_append_right hge] at hj
      have hle : xs.length * d.sz ≤ j * d.sz := Nat.mul_le_mul_right _ hge
      rw [List.drop_append, List.drop_eq_nil_of_le (by rw [hin]; exact hle), List.nil_append, hin, ← Nat.sub_mul]
      exact step (hnew _ p hj) hFp
/-- A row that is read, as one list of cells. -/
theorem C_inner {d : Kd α} {w : World} {F : Nat → Prop} {ad : Addr} {n : Nat} {xs : List α} (h : d.C w F (some ad) n xs) :
    ∃ inner : List Value, inner.length = xs.length * d.sz ∧ (∀ j p, xs[j]? = some p → d.K w F p ((inner.drop (j * d.sz)).take d.sz)) ∧ ∀ j u, inner[j]? = some u → w.cell? (ad.add j) = some u := by
  have key : ∀ m, m ≤ xs.length → ∃ inner : List Value, inner.length = m * d.sz ∧ (∀ j p, j < m → xs[j]? = some p → d.K w F p ((inner.drop (j * d.sz)).take d.sz)) ∧ ∀ j u, inner[j]? = some u → w.cell? (ad.add j) = some u := by
    intro m
    induction m with
    | zero => exact fun _ => ⟨[], by simp, fun j p hj => by omega, fun j u hu => by simp at hu⟩
    | succ m ih =>
      intro hm
      obtain ⟨inner, hl, hr, hc⟩ := ih (by omega)
      obtain ⟨ad', c, he, _, _, hp, hcc⟩ := C_get h (i := m) (by omega)
      injection he with he
      subst he
      have hcl := d.len hp
      refine ⟨inner ++ c, by rw [List.length_append, hl, hcl, Nat.succ_mul], fun j p hj hjp => ?_, fun j u hu => ?_⟩
      · rcases Nat.lt_or_ge j m with hlt | hge
        · have hle : j * d.sz + d.sz ≤ inner.length := by rw [hl, ← Nat.succ_mul]; exact Nat.mul_le_mul_right _ hlt
          rw [List.drop_append_of_le_length (by omega), List.take_append_of_le_length (by rw [List.length_drop]; omega)]
          exact hr j p hlt hjp
        · obtain rfl : j = m := by omega
          rw [List.getElem?_eq_getElem (by omega)] at hjp
          injection hjp with hjp
          subst hjp
          rw [← hl, List.drop_left, ← hcl, List.take_length]
          exact hp
      · rcases Nat.lt_or_ge j inner.length with hj | hj
        · rw [List.getElem?_append_left hj] at hu
          exact hc j u hu
        · rw [List.getElem?_append_right hj] at hu
          have := hcc (j - inner.length) u hu
          rwa [hl, Nat.add_sub_cancel' (by omega)] at this
  obtain ⟨inner, hl, hr, hc⟩ := key xs.length (Nat.le_refl _)
  exact ⟨inner, hl, fun j p hj => hr j p (List.getElem?_eq_some_iff.1 hj).1 hj, hc⟩

section
variable {P : Program} {ops : Array Oper} {rest : List Oper} {o : Oper} {a : Act} {Q : Exit → Act → World → Prop}
/-- append(v, ys...), behind 'at_builtin': what is appended is read from A on; hE: what the elements reach. -/
theorem append_rowE (d : Kd α) {W : World} (base : Nat) (hgd : o.guard = none) (s x : Operand) (t e : TypeId) (z : Value) (bytes : Nat)
    (ho : o.op = .call { callee := .builtin .append, args := #[s, x], argTypes := #[t, t] })
    (ht : P.underlying t = some (.slice e)) (hinfo : (P.info? e).map (fun i => (i.zero, i.size, i.bytes)) = some (some z, d.sz, bytes)) (hz : z.cells.size = d.sz) (hs0 : 0 < d.sz) (hb0 : 0 < bytes)
    (v : Value) (xs ys : List α) (A : Option Addr) (m c : Nat) (F Fr Fp : Nat → Prop) (hs : a.eval s = v) (hx : a.eval x = .slice A m c)
    (HO : d.Own e W F base v xs) (HR : d.C W Fr A m ys) (hE : ∀ p ∈ ys, ∀ c, d.K W Fr p c → d.K W Fp p c) (hFp : ∀ k, Fp k → k < W.heap.size → F k ∧ some k ≠ v.ownBlock) (hfresh : ∀ k, W.heap.size ≤ k → F k)
    (hbase : base ≤ W.heap.size) (hl : (xs.length + m) * bytes ≤ 140737488355328)
    (h : ∀ v1 w1, d.Own e w1 F base v1 (xs ++ ys) → W.grownBy w1 v.ownBlock → (v1.ownBlock = v.ownBlock ∨ ∃ b, v1.ownBlock = some b ∧ W.heap.size ≤ b) → wpList P ops Q rest (a.put o.dst v1) w1) :
    wpList P ops Q (o :: rest) a W := by
  obtain ⟨i0, hi, hzz⟩ := Option.map_eq_some_iff.1 hinfo
  simp only [Prod.mk.injEq] at hzz
  obtain ⟨hz0, hz1, hz2⟩ := hzz
  have hm : ys.length = m := HR.1
  have hlen : xs.length + m ≤ 140737488355328 := Nat.le_trans (Nat.le_mul_of_pos_right _ hb0) hl
  obtain ⟨hok, inner, hown, hr⟩ := HO
  have hrun : ∃ v1 w1, (Builtin.append_ #[t, t] o.type #[v, .slice A m c]).run P W = .ok v1 w1 ∧ d.Own e w1 F base v1 (xs ++ ys) ∧ W.grownBy w1 v.ownBlock ∧ (v1.ownBlock = v.ownBlock ∨ ∃ b, v1.ownBlock = some b ∧ W.heap.size ≤ b) := by
    rcases A with _ | ad
    · have h0 : m = 0 := by
        rcases Nat.eq_zero_or_pos m with h0 | h0
        · exact h0
        · obtain ⟨ad, h, _⟩ := HR.2.2 h0
          cases h
      subst h0
      obtain rfl : ys = [] := List.eq_nil_of_length_eq_zero hm
      refine ⟨v, W, ?_, by rw [List.append_nil]; exact ⟨hok, inner, hown, hr⟩, World.grownBy.refl W _, .inl rfl⟩
      rcases hown.2 with ⟨rfl, hn⟩ | ⟨g, cap, cur, rfl, _, _, hnc, _⟩
      · simp [Builtin.append_, run_underlying ht, sizeOf, typeInfo, hi, Builtin.lenOf, Builtin.firstCells]
      · simp [Builtin.append_, run_underlying ht, sizeOf, typeInfo, hi, Builtin.lenOf, Builtin.firstCells, hnc, storeCells]
    · obtain ⟨news, hnl, hnr, hnc⟩ := C_inner HR
      have hone : ∀ u ∈ news, u.oneCell' = true := by
        intro u hu
        obtain ⟨q, hq, rfl⟩ := List.mem_iff_getElem.1 hu
        have hql : q / d.sz < ys.length := by
          rw [Nat.div_lt_iff_lt_mul hs0, ← hnl]
          exact hq
        have hc := hnr (q / d.sz) _ (List.getElem?_eq_getElem hql)
        refine d.one hc _ ?_
        rw [List.mem_iff_getElem?]
        refine ⟨q % d.sz, ?_⟩
        rw [List.getElem?_take, if_pos (Nat.mod_lt _ hs0), List.getElem?_drop, Nat.mul_comm, Nat.div_add_mod, List.getElem?_eq_getElem hq]
      have hnr := fun j p (hj : ys[j]? = some p) => hE p (List.mem_iff_getElem?.2 ⟨j, hj⟩) _ (hnr j p hj)
      obtain ⟨v1, w1, hrun, h2, hg, _, hat⟩ := run_append_own_at (P := P) W base t o.type e i0 z d.sz bytes ht hi hz0 hz1 hz2 hz hs0 v xs.length inner hown ad m c news (by rw [hnl, hm]) hnc hone (by simp only [maxLen]; omega) hl hbase
      have hat' : v1.ownBlock = v.ownBlock ∨ ∃ b, v1.ownBlock = some b ∧ W.heap.size ≤ b := by
        rcases hat with hat | hat
        · exact .inl hat
        · exact .inr ⟨_, hat, Nat.le_refl _⟩
      exact ⟨v1, w1, hrun, Own_appended hok hown.1 hr hnr hFp hfresh (by rw [hm]; exact h2) hg hat', hg, hat'⟩
  obtain ⟨v1, w1, hrun, h2, h3, h4⟩ := hrun
  refine wpList_plain hgd fun K hK => ?_
  unfold Oper.wp execOp
  simp only [ho, resolve, invoke, builtin, Sem.run_bind, Sem.run_pure, Result.andThen_ok, List.map_toArray, List.map_cons, List.map_nil, hs, hx, hrun]
  exact hK _ _ (h v1 w1 h2 h3 h4)
/-- append(v, ys...), behind 'at_builtin': what is appended is read from A on. -/
theorem append_row (d : Kd α) {W : World} (base : Nat) (hgd : o.guard = none) (s x : Operand) (t e : TypeId) (z : Value) (bytes : Nat)
    (ho : o.op = .call { callee := .builtin .append, args := #[s, x], argTypes := #[t, t] })
    (ht : P.underlying t = some (.slice e)) (hinfo : (P.info? e).map (fun i => (i.zero, i.size, i.bytes)) = some (some z, d.sz, bytes)) (hz : z.cells.size = d.sz) (hs0 : 0 < d.sz) (hb0 : 0 < bytes)
    (v : Value) (xs ys : List α) (A : Option Addr) (m c : Nat) (F Fp : Nat → Prop) (hs : a.eval s = v) (hx : a.eval x = .slice A m c)
    (HO : d.Own e W F base v xs) (HR : d.C W Fp A m ys) (hFp : ∀ k, Fp k → k < W.heap.size → F k ∧ some k ≠ v.ownBlock) (hfresh : ∀ k, W.heap.size ≤ k → F k)
    (hbase : base ≤ W.heap.size) (hl : (xs.length + m) * bytes ≤ 140737488355328)
    (h : ∀ v1 w1, d.Own e w1 F base v1 (xs ++ ys) → W.grownBy w1 v.ownBlock → (v1.ownBlock = v.ownBlock ∨ ∃ b, v1.ownBlock = some b ∧ W.heap.size ≤ b) → wpList P ops Q rest (a.put o.dst v1) w1) :
    wpList P ops Q (o :: rest) a W := by
  exact append_rowE d base hgd s x t e z bytes ho ht hinfo hz hs0 hb0 v xs ys A m c F Fp Fp hs hx HO HR (fun _ _ _ h => h) hFp hfresh hbase hl h
/-- append(v, x), behind 'at_builtin': the goal's world is W with the variadic's box; x's cells are cs. -/
theorem append_one (d : Kd α) {W : World} (base : Nat) (hgd : o.guard = none) (s x : Operand) (t e : TypeId) (z : Value) (bytes : Nat)
    (ho : o.op = .call { callee := .builtin .append, args := #[s, x], argTypes := #[t, t] })
    (ht : P.underlying t = some (.slice e)) (hinfo : (P.info? e).map (fun i => (i.zero, i.size, i.bytes)) = some (some z, d.sz, bytes)) (hz : z.cells.size = d.sz) (hs0 : 0 < d.sz) (hb0 : 0 < bytes)
    (v : Value) (xs : List α) (p : α) (cs : List Value) (F Fp : Nat → Prop) (hs : a.eval s = v) (hx : a.eval x = .slice (some ⟨W.heap.size, 0, none⟩) 1 1)
    (hp : d.K W Fp p cs) (HO : d.Own e W F base v xs) (hFp : ∀ k, Fp k → k < W.heap.size → F k ∧ some k ≠ v.ownBlock) (hfresh : ∀ k, W.heap.size ≤ k → F k)
    (hbase : base ≤ W.heap.size) (hl : (xs.length + 1) * bytes ≤ 140737488355328)
    (h : ∀ v1 w1, d.Own e w1 F base v1 (xs ++ [p]) → W.grownBy w1 v.ownBlock → (v1.ownBlock = v.ownBlock ∨ ∃ b, v1.ownBlock = some b ∧ W.heap.size ≤ b) → wpList P ops Q rest (a.put o.dst v1) w1) :
    wpList P ops Q (o :: rest) a (W.alloc (.cells cs.toArray e)) := by
  have hb0 : Below W.heap.size W (W.alloc (.cells cs.toArray e)) := below_alloc (Below.refl _ _) _
  refine append_row d (W := W.alloc (.cells cs.toArray e)) base hgd s x t e z bytes ho ht hinfo hz hs0 (by assumption) v xs [p] (some ⟨W.heap.size, 0, none⟩) 1 1 F (fun k => (Fp k ∧ k < W.heap.size) ∨ k = W.heap.size) hs hx (Own_below HO hb0) ?_ ?_ ?_ (by simp; omega) hl ?_
  · refine ⟨rfl, by omega, fun _ => ⟨_, rfl, .inr rfl, by simp, fun j q hj => ⟨cs, ?_, fun i u hu => ?_⟩⟩⟩
    · have hq : q = p := by
        cases j with
        | zero => simpa using hj.symm
        | succ j => simp at hj
      subst hq
      exact d.mono (fun k hk => .inl hk) (d.lt hp |> fun h => d.move (fun k hk hl => hb0.block k hl) h)
    · have hj0 : j = 0 := by
        cases j with
        | zero => rfl
        | succ j => simp at hj
      subst hj0
      have ha : (⟨W.heap.size, 0, none⟩ : Addr).add (0 * d.sz + i) = ⟨W.heap.size, i, none⟩ := by simp [Addr.add]; omega
      rw [ha, World.cell?_alloc_at _ _ _ _ rfl]
      simpa using hu
  · rintro k (⟨hk, hlt⟩ | rfl) hl2
    · exact hFp k hk hlt
    · refine ⟨hfresh _ (Nat.le_refl _), fun he => ?_⟩
      obtain ⟨_, inner, hown, _⟩ := HO
      have := own_base hown _ he.symm
      omega
  · intro k hk
    exact hfresh k (by simp at hk; omega)
  · intro v1 w1 h1 h2 h3
    refine h v1 w1 h1 (World.grownBy.trans (World.grownBy_alloc W _ _) h2) ?_
    rcases h3 with h3 | ⟨b, hb, hle⟩
    · exact .inl h3
    · exact .inr ⟨b, hb, by simp at hle; omega⟩
end
end Kd
end Go.Proofs.Ytjpeaeklhcnpnaa.K
