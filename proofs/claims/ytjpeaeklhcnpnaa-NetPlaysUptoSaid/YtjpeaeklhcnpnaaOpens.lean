/- From what an argument reads as to the kinds of Kit: whatever can be read is such a value; slices and strings within the form's own reach. No program, no condition. -/
import Derived.Test.YtjpeaeklhcnpnaaKit
import Derived.ChangeOld
import Derived.DataReads
import Derived.Carry
namespace Go.Proofs.Ytjpeaeklhcnpnaa.K
open Go.RowKit
set_option linter.unusedVariables false
namespace Kd
variable {α β γ : Type}

/-- What is read at type t, at most N deep, is a value of this kind. -/
def Opens (d : Kd α) (P : Program) (t : TypeId) (N : Nat) : Prop :=
  P.cellsOf t = d.sz ∧ ∀ (H : Type) (enc : TypeId × Value → H) (w : World) (base : Nat) (spare : Nat → Bool) (held : Bool) (fuel : Nat) (cs : List Value) (x : DataW H × List MemPlace), fuel ≤ N →
    DataW.trod enc P w base spare held fuel t cs = some x → (x.1.weights P t).all (· ≤ reachBytes) = true → ∃ a, d.K w Any a cs

theorem opens_int {P : Program} {t : TypeId} {k : IntKind} (ht : P.underlying t = some (.int k)) (hc : P.cellsOf t = 1) (N : Nat) : (int k).Opens P t N :=
  ⟨hc, fun H enc w base spare held fuel cs x _ h _ => by
    obtain ⟨n, rfl, rfl, hw⟩ := DataW.trod_int ht h
    exact ⟨n, rfl, hw⟩⟩
theorem opens_string {P : Program} {t : TypeId} (ht : P.underlying t = some .string) (hc : P.cellsOf t = 1) (N : Nat) : string.Opens P t N :=
  ⟨hc, fun H enc w base spare held fuel cs x _ h hw => by
    obtain ⟨s, rfl, rfl, hs⟩ := DataW.trod_string ht h
    refine ⟨s, rfl, ?_⟩
    simp only [DataW.weights, List.all_cons, List.all_nil, Bool.and_true, decide_eq_true_eq, Array.length_toList] at hw
    have h2 : s.data.size ≤ 0x7ffffffff000 := hw
    have h3 : s.size = s.data.size := rfl
    omega⟩
theorem opens_bool {P : Program} {t : TypeId} (ht : P.underlying t = some .bool) (hc : P.cellsOf t = 1) (N : Nat) : bool.Opens P t N :=
  ⟨hc, fun H enc w base spare held fuel cs x _ h _ => by
    have hb : ∃ b, cs = [.bool b] := by
      cases fuel with
      | zero => simp [DataW.trod] at h
      | succ n =>
        unfold DataW.trod at h
        rw [ht] at h
        split at h <;> simp_all
    obtain ⟨b, rfl⟩ := hb
    exact ⟨b, rfl, trivial⟩⟩

theorem cells_at {w : World} {base : Nat} {a : Addr} {n : Nat} {cs : List Value} (h : w.cells? base a n = some cs) : cs.length = n ∧ ∀ i u, cs[i]? = some u → w.cell? (a.add i) = some u := by
  unfold World.cells? at h
  split at h
  · have hl := mapM_some_length h
    simp only [List.length_range] at hl
    refine ⟨hl, fun i u hu => ?_⟩
    have hi : i < n := by rw [← hl]; exact (List.getElem?_eq_some_iff.1 hu).1
    have := mapM_some_get h i i (by simp [hi])
    rw [this]; exact hu
  · cases h
theorem all_weightsAll {H : Type} {P : Program} {e : TypeId} {p : Nat → Bool} : ∀ {l : List (DataW H)}, (DataW.weightsAll P e l).all p = true → ∀ x ∈ l, (x.weights P e).all p = true
  | [], _, x, hx => by cases hx
  | d :: r, h, x, hx => by
    simp only [DataW.weightsAll, List.all_append, Bool.and_eq_true] at h
    rcases List.mem_cons.1 hx with rfl | hx
    · exact h.1
    · exact all_weightsAll h.2 x hx
theorem all_weightsEach {H : Type} {P : Program} {p : Nat → Bool} : ∀ {ts : List TypeId} {l : List (DataW H)}, (DataW.weightsEach P ts l).all p = true → ∀ (i : Nat) (t : TypeId) (x : DataW H), ts[i]? = some t → l[i]? = some x → (x.weights P t).all p = true
  | [], _, _, i, t, x, ht, _ => by simp at ht
  | _ :: _, [], _, i, t, x, _, hx => by simp at hx
  | t0 :: ts, d :: r, h, i, t, x, ht, hx => by
    simp only [DataW.weightsEach, List.all_append, Bool.and_eq_true] at h
    cases i with
    | zero =>
      simp only [List.getElem?_cons_zero, Option.some.injEq] at ht hx
      subst ht hx
      exact h.1
    | succ i => exact all_weightsEach h.2 i t x (by simpa using ht) (by simpa using hx)
theorem opens_slice {P : Program} {t e : TypeId} {bytes : Nat} {d : Kd α} (ht : P.underlying t = some (.slice e)) (hc : P.cellsOf t = 1) (hb : P.bytesOf e = bytes) (hs0 : 0 < d.sz) {N : Nat} (hd : d.Opens P e N) : (slice bytes d).Opens P t (N + 1) :=
  ⟨hc, fun H enc w base spare held fuel cs x hN h hw => by
    rcases DataW.trod_slice ht h with ⟨rfl, rfl⟩ | ⟨a, len, cap, elems, rest, n, rfl, rfl, rfl, hbase, hl, hm, hlen, hel, hsp, hns⟩
    · exact ⟨[], none, 0, rfl, Nat.le_refl _, by simp, C_nil _ _ _ _⟩
    · simp only [DataW.weights, ht, List.all_cons, List.all_append, Bool.and_eq_true, decide_eq_true_eq, List.length_map, hb] at hw
      obtain ⟨hw1, hw2, _⟩ := hw
      have hread : ∀ i, i < len → ∃ v c, d.K w Any v c ∧ ∀ j u, c[j]? = some u → w.cell? (a.add (i * d.sz + j)) = some u := by
        intro i hi
        have h1 := hel i hi
        have hei : i < elems.length := by omega
        rw [List.getElem?_eq_getElem hei] at h1
        obtain ⟨cs', hcs, htr⟩ := Option.bind_eq_some_iff.1 h1
        obtain ⟨v, hv⟩ := hd.2 H enc w base spare held n cs' _ (by omega) htr (all_weightsAll hw2 _ (List.mem_map.2 ⟨_, List.getElem_mem hei, rfl⟩))
        obtain ⟨_, hcc⟩ := cells_at hcs
        rw [hd.1] at hcc
        exact ⟨v, cs', hv, fun j u hu => by rw [← add_add]; exact hcc j u hu⟩
      have hlist : ∀ m, m ≤ len → ∃ xs : List α, xs.length = m ∧ ∀ j p, xs[j]? = some p → ∃ c, d.K w Any p c ∧ ∀ i u, c[i]? = some u → w.cell? (a.add (j * d.sz + i)) = some u := by
        intro m
        induction m with
        | zero => exact fun _ => ⟨[], rfl, fun j p hj => by simp at hj⟩
        | succ m ih =>
          intro hm
          obtain ⟨xs, hxl, hx⟩ := ih (by omega)
          obtain ⟨v, c, hv, hcc⟩ := hread m (by omega)
          refine ⟨xs ++ [v], by simp [hxl], fun j p hj => ?_⟩
          rcases Nat.lt_or_ge j xs.length with hlt | hge
          · rw [List.getElem?_append_left hlt] at hj
            exact hx j p hj
          · have hjm : j = m := by
              have := (List.getElem?_eq_some_iff.1 hj).1
              simp at this
              omega
            subst hjm
            have hp : v = p := by simpa [hxl] using hj
            subst hp
            exact ⟨c, hv, hcc⟩
      obtain ⟨xs, hxl, hx⟩ := hlist len (Nat.le_refl _)
      have hle : len * bytes ≤ 140737488355328 := by
        have : len * bytes ≤ (elems.length + rest.length) * bytes := Nat.mul_le_mul_right _ (by omega)
        have h2 : (elems.length + rest.length) * bytes ≤ 0x7ffffffff000 := hw1
        omega
      subst hxl
      refine ⟨xs, some a, cap, rfl, hl, hle, rfl, by simp only [maxLen] at hm; omega, fun hpos => ⟨a, rfl, trivial, ?_, hx⟩⟩
      obtain ⟨c, hk, hcc⟩ := hx 0 _ (List.getElem?_eq_getElem hpos)
      have hcl := d.len hk
      have := World.block_lt_of_cell? w _ (hcc 0 _ (List.getElem?_eq_getElem (show 0 < c.length by omega)))
      rwa [add_block] at this⟩

/-- What the fields read as, taken together. -/
def FieldsOpen (d : Kd α) (P : Program) (fs : List Field) (off N : Nat) : Prop :=
  ∀ (H : Type) (enc : TypeId × Value → H) (w : World) (base : Nat) (spare : Nat → Bool) (held : Bool) (n : Nat) (cs : List Value), n ≤ N → off + d.sz ≤ cs.length →
    (∀ f ∈ fs, ∃ x : DataW H × List MemPlace, DataW.trod enc P w base spare held n f.type ((cs.drop f.offset).take (P.cellsOf f.type)) = some x ∧ (x.1.weights P f.type).all (· ≤ reachBytes) = true) →
    ∃ a, d.K w Any a ((cs.drop off).take d.sz)
theorem fields_one {P : Program} {f : Field} {off N : Nat} {d : Kd α} (ho : f.offset = off) (hd : d.Opens P f.type N) : d.FieldsOpen P [f] off N :=
  fun H enc w base spare held n cs hn hl h => by
    obtain ⟨x, hx, hw⟩ := h f (List.mem_singleton.2 rfl)
    rw [hd.1, ho] at hx
    exact hd.2 H enc w base spare held n _ x hn hx hw
theorem fields_cons {P : Program} {f : Field} {fs : List Field} {off N : Nat} {a : Kd α} {b : Kd β} (ho : f.offset = off) (ha : a.Opens P f.type N) (hb : b.FieldsOpen P fs (off + a.sz) N) : (pair a b).FieldsOpen P (f :: fs) off N :=
  fun H enc w base spare held n cs hn hl h => by
    have hsz : (pair a b).sz = a.sz + b.sz := rfl
    rw [hsz] at hl
    obtain ⟨x, hx, hw⟩ := h f List.mem_cons_self
    rw [ha.1, ho] at hx
    obtain ⟨va, hva⟩ := ha.2 H enc w base spare held n _ x hn hx hw
    obtain ⟨vb, hvb⟩ := hb H enc w base spare held n cs hn (by omega) (fun g hg => h g (List.mem_cons_of_mem _ hg))
    refine ⟨(va, vb), _, _, ?_, hva, hvb⟩
    rw [hsz, List.take_add, List.drop_drop]
theorem opens_struct {P : Program} {t : TypeId} {fs : Array Field} {d : Kd α} {f : β → α} (g : α → β) (hg : ∀ a, f (g a) = a) (ht : P.underlying t = some (.struct fs)) (hc : P.cellsOf t = d.sz) {N : Nat} (hd : d.FieldsOpen P fs.toList 0 N) : (iso d f).Opens P t (N + 1) :=
  ⟨hc, fun H enc w base spare held fuel cs x hN h hw => by
    obtain ⟨xs, n, rfl, rfl, hl, hxl, hx⟩ := DataW.trod_struct ht h
    simp only [DataW.weights, ht] at hw
    have hcl : cs.length = d.sz := by rw [hl, hc]
    obtain ⟨a, ha⟩ := hd H enc w base spare held n cs (by omega) (by omega) (fun fl hfl => by
      obtain ⟨i, hi, rfl⟩ := List.mem_iff_getElem.1 hfl
      have hi' : i < fs.size := by simpa using hi
      have h1 := hx i fs[i] (Array.getElem?_eq_getElem hi')
      rw [List.getElem?_eq_getElem (show i < xs.length by omega)] at h1
      refine ⟨_, by simpa using h1, ?_⟩
      exact all_weightsEach hw i _ _ (by simp [hi']) (by simp [show i < xs.length by omega]))
    refine ⟨g a, ?_⟩
    show d.K w Any (f (g a)) cs
    rw [hg]
    simpa [← hcl] using ha⟩
theorem Opens.le {P : Program} {t : TypeId} {d : Kd α} {N M : Nat} (h : d.Opens P t N) (hM : M ≤ N) : d.Opens P t M := ⟨h.1, fun H enc w base spare held fuel cs x hf => h.2 H enc w base spare held fuel cs x (by omega)⟩
theorem opens_zero {P : Program} {t : TypeId} {d : Kd α} (hc : P.cellsOf t = d.sz) : d.Opens P t 0 := ⟨hc, fun H enc w base spare held fuel cs x hf h => by
  obtain rfl : fuel = 0 := by omega
  simp [DataW.trod] at h⟩
theorem opens_slice_all {P : Program} {t e : TypeId} {bytes : Nat} {d : Kd α} (ht : P.underlying t = some (.slice e)) (hc : P.cellsOf t = 1) (hb : P.bytesOf e = bytes) (hs0 : 0 < d.sz) (hd : ∀ N, d.Opens P e N) : ∀ N, (slice bytes d).Opens P t N
  | 0 => opens_zero hc
  | N + 1 => opens_slice ht hc hb hs0 (hd N)
theorem opens_slice_upto {P : Program} {t e : TypeId} {bytes : Nat} {d : Kd α} (ht : P.underlying t = some (.slice e)) (hc : P.cellsOf t = 1) (hb : P.bytesOf e = bytes) (hs0 : 0 < d.sz) : ∀ {N : Nat}, d.Opens P e N → (slice bytes d).Opens P t N
  | 0, _ => opens_zero hc
  | N + 1, hd => opens_slice ht hc hb hs0 (hd.le (Nat.le_succ N))
/-- A type nested in itself. -/
theorem opens_fix {P : Program} {t : TypeId} {G : Kd α → Kd α} {sz : Nat} {hs : ∀ n, (upto G sz n).sz = sz} (hc : P.cellsOf t = sz) (hG : ∀ (d : Kd α) N, d.sz = sz → d.Opens P t N → (G d).Opens P t (N + 1)) (N : Nat) : (fix G sz hs).Opens P t N := by
  have key : ∀ n, (upto G sz n).Opens P t n := by
    intro n
    induction n with
    | zero => exact opens_zero (hc.trans (hs 0).symm)
    | succ n ih => exact hG _ n (hs n) ih
  exact ⟨hc, fun H enc w base spare held fuel cs x hf h hw => by
    obtain ⟨a, ha⟩ := (key N).2 H enc w base spare held fuel cs x hf h hw
    exact ⟨a, N, ha⟩⟩
/-- An argument that is read is such a value. -/
theorem opened {P : Program} {t : TypeId} {d : Kd α} (hd : ∀ N, d.Opens P t N) {H : Type} {enc : TypeId × Value → H} {w : World} {base : Nat} {spare : Nat → Bool} {held : Bool} {v : Value} {x : DataW H} {ps : List MemPlace}
    (h : DataW.Trod enc P w base spare held t v x ps) (hw : (x.weights P t).all (· ≤ reachBytes) = true) : ∃ a, d.K w Any a v.cells.toList := by
  obtain ⟨fuel, hf⟩ := h
  exact (hd fuel).2 H enc w base spare held fuel _ _ (Nat.le_refl _) hf hw
end Kd
end Go.Proofs.Ytjpeaeklhcnpnaa.K
