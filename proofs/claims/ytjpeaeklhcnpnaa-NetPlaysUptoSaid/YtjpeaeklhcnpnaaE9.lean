/- What an argument reads as, with a bound on how many bytes Put writes of it: twelve for each value and letter. No condition. -/
import Derived.Test.YtjpeaeklhcnpnaaE7
import Derived.Test.YtjpeaeklhcnpnaaRows
namespace Go.Proofs.Ytjpeaeklhcnpnaa.K
open Go.RowKit Go.Proofs.Ytjpeaeklhcnpnaa.Rows
set_option linter.unusedVariables false
theorem bulk_pos {H : Type} (d : DataW H) : 1 ≤ uptoBulk d := by
  cases d with
  | lit l => cases l <;> simp [uptoBulk]
  | _ => simp [uptoBulk]
theorem bulkAll_append {H : Type} : ∀ (a b : List (DataW H)), uptoBulkAll (a ++ b) = uptoBulkAll a + uptoBulkAll b
  | [], b => by simp [uptoBulkAll]
  | d :: r, b => by
    have := bulkAll_append r b
    simp only [List.cons_append, uptoBulkAll, this]
    omega
namespace Kd
variable {α β γ : Type}
/-- What is read at type t is a value of this kind, of whose length the reading's bulk tells. -/
def OpensE (d : Kd α) (P : Program) (t : TypeId) (N : Nat) (len : α → Nat) : Prop :=
  P.cellsOf t = d.sz ∧ ∀ (H : Type) (enc : TypeId × Value → H) (w : World) (base : Nat) (spare : Nat → Bool) (held : Bool) (fuel : Nat) (cs : List Value) (x : DataW H × List MemPlace), fuel ≤ N →
    DataW.trod enc P w base spare held fuel t cs = some x → (x.1.weights P t).all (· ≤ reachBytes) = true → ∃ a, d.K w Any a cs ∧ len a ≤ 12 * uptoBulk x.1
theorem OpensE.of (d : Kd α) {P : Program} {t : TypeId} {N : Nat} (h : d.Opens P t N) (len : α → Nat) (hl : ∀ a, len a ≤ 12) : d.OpensE P t N len :=
  ⟨h.1, fun H enc w base spare held fuel cs x hf h1 h2 => by
    obtain ⟨a, ha⟩ := h.2 H enc w base spare held fuel cs x hf h1 h2
    have h3 := hl a
    have h4 := bulk_pos x.1
    exact ⟨a, ha, by omega⟩⟩
theorem opensE_string {P : Program} {t : TypeId} (ht : P.underlying t = some .string) (hc : P.cellsOf t = 1) (N : Nat) : string.OpensE P t N (fun s => (textV s).length) :=
  ⟨hc, fun H enc w base spare held fuel cs x _ h hw => by
    obtain ⟨s, rfl, rfl, hs⟩ := DataW.trod_string ht h
    refine ⟨s, ⟨rfl, ?_⟩, ?_⟩
    · simp only [DataW.weights, List.all_cons, List.all_nil, Bool.and_true, decide_eq_true_eq, Array.length_toList] at hw
      have h2 : s.data.size ≤ 0x7ffffffff000 := hw
      have h3 : s.size = s.data.size := rfl
      omega
    · have h1 := (textV_len s).2
      have h3 : s.size = s.data.size := rfl
      simp only [uptoBulk, Array.length_toList]
      omega⟩
theorem opensE_slice {P : Program} {t e : TypeId} {bytes : Nat} {d : Kd α} {len : α → Nat} (ht : P.underlying t = some (.slice e)) (hc : P.cellsOf t = 1) (hb : P.bytesOf e = bytes) (hs0 : 0 < d.sz) {N : Nat} (hd : d.OpensE P e N len) : (slice bytes d).OpensE P t (N + 1) (fun xs => 11 + (xs.map len).sum) :=
  ⟨hc, fun H enc w base spare held fuel cs x hN h hw => by
    rcases DataW.trod_slice ht h with ⟨rfl, rfl⟩ | ⟨a, ln, cap, elems, rest, n, rfl, rfl, rfl, hbase, hl, hm, hlen, hel, hsp, hns⟩
    · exact ⟨[], ⟨none, 0, rfl, Nat.le_refl _, by simp, C_nil _ _ _ _⟩, by simp [uptoBulk]⟩
    · simp only [DataW.weights, ht, List.all_cons, List.all_append, Bool.and_eq_true, decide_eq_true_eq, List.length_map, hb] at hw
      obtain ⟨hw1, hw2, _⟩ := hw
      have hread : ∀ i (hi : i < ln), ∃ v c, d.K w Any v c ∧ len v ≤ 12 * uptoBulk (elems[i]'(by omega)).1 ∧ ∀ j u, c[j]? = some u → w.cell? (a.add (i * d.sz + j)) = some u := by
        intro i hi
        have h1 := hel i hi
        have hei : i < elems.length := by omega
        rw [List.getElem?_eq_getElem hei] at h1
        obtain ⟨cs', hcs, htr⟩ := Option.bind_eq_some_iff.1 h1
        obtain ⟨v, hv, hv2⟩ := hd.2 H enc w base spare held n cs' _ (by omega) htr (all_weightsAll hw2 _ (List.mem_map.2 ⟨_, List.getElem_mem hei, rfl⟩))
        obtain ⟨_, hcc⟩ := cells_at hcs
        rw [hd.1] at hcc
        exact ⟨v, cs', hv, hv2, fun j u hu => by rw [← add_add]; exact hcc j u hu⟩
      have hlist : ∀ m, m ≤ ln → ∃ xs : List α, xs.length = m ∧ (xs.map len).sum ≤ 12 * uptoBulkAll ((elems.take m).map (·.1)) ∧ ∀ j p, xs[j]? = some p → ∃ c, d.K w Any p c ∧ ∀ i u, c[i]? = some u → w.cell? (a.add (j * d.sz + i)) = some u := by
        intro m
        induction m with
        | zero => exact fun _ => ⟨[], rfl, by simp, fun j p hj => by simp at hj⟩
        | succ m ih =>
          intro hm
          obtain ⟨xs, hxl, hxs, hx⟩ := ih (by omega)
          obtain ⟨v, c, hv, hv2, hcc⟩ := hread m (by omega)
          refine ⟨xs ++ [v], by simp [hxl], ?_, fun j p hj => ?_⟩
          · rw [List.take_add_one, List.getElem?_eq_getElem (show m < elems.length by omega), List.map_append, List.sum_append, List.map_append, bulkAll_append]
            simp only [List.map_cons, List.map_nil, List.sum_cons, List.sum_nil, Option.toList, uptoBulkAll]
            omega
          · rcases Nat.lt_or_ge j xs.length with hlt | hge
            · rw [List.getElem?_append_left hlt] at hj
              exact hx j p hj
            · have hjm : j = m := by
                have := (List.getElem?_eq_some_iff.1 hj).1
                simp at this
                omega
              subst hjm
              have hp : v = p := by simpa [hxl] using hj
              subst hp
              exact ⟨c, hv, hcc⟩
      obtain ⟨xs, hxl, hxs, hx⟩ := hlist ln (Nat.le_refl _)
      have hle : ln * bytes ≤ 140737488355328 := by
        have : ln * bytes ≤ (elems.length + rest.length) * bytes := Nat.mul_le_mul_right _ (by omega)
        have h2 : (elems.length + rest.length) * bytes ≤ 0x7ffffffff000 := hw1
        omega
      have hbk : uptoBulkAll ((elems.take ln).map (·.1)) ≤ uptoBulkAll (elems.map (·.1)) := by
        conv => rhs; rw [← List.take_append_drop ln elems, List.map_append, bulkAll_append]
        omega
      subst hxl
      refine ⟨xs, ⟨some a, cap, rfl, hl, hle, rfl, by simp only [maxLen] at hm; omega, fun hpos => ⟨a, rfl, trivial, ?_, hx⟩⟩, ?_⟩
      · obtain ⟨c, hk, hcc⟩ := hx 0 _ (List.getElem?_eq_getElem hpos)
        have hcl := d.len hk
        have := World.block_lt_of_cell? w _ (hcc 0 _ (List.getElem?_eq_getElem (show 0 < c.length by omega)))
        rwa [add_block] at this
      · simp only [uptoBulk]
        omega⟩
/-- What the fields read as, taken together. -/
def FieldsOpenE (d : Kd α) (P : Program) (fs : List Field) (off N : Nat) (len : α → Nat) : Prop :=
  ∀ (H : Type) (enc : TypeId × Value → H) (w : World) (base : Nat) (spare : Nat → Bool) (held : Bool) (n : Nat) (cs : List Value) (ds : List (DataW H)), n ≤ N → off + d.sz ≤ cs.length → ds.length = fs.length →
    (∀ i (hi : i < fs.length), ∃ x : DataW H × List MemPlace, ds[i]? = some x.1 ∧ DataW.trod enc P w base spare held n fs[i].type ((cs.drop fs[i].offset).take (P.cellsOf fs[i].type)) = some x ∧ (x.1.weights P fs[i].type).all (· ≤ reachBytes) = true) →
    ∃ a, d.K w Any a ((cs.drop off).take d.sz) ∧ len a ≤ 12 * uptoBulkAll ds
theorem fieldsE_one {P : Program} {f : Field} {off N : Nat} {d : Kd α} {len : α → Nat} (ho : f.offset = off) (hd : d.OpensE P f.type N len) : d.FieldsOpenE P [f] off N len :=
  fun H enc w base spare held n cs ds hn hl hds h => by
    obtain ⟨x, hx0, hx, hw⟩ := h 0 (by simp)
    simp only [List.getElem_cons_zero] at hx hw
    rw [hd.1, ho] at hx
    obtain ⟨a, ha, hb⟩ := hd.2 H enc w base spare held n _ x hn hx hw
    refine ⟨a, ha, ?_⟩
    match ds, hds with
    | [d0], _ =>
      have : d0 = x.1 := by simpa using hx0
      subst this
      simp only [uptoBulkAll]
      omega
theorem fieldsE_cons {P : Program} {f : Field} {fs : List Field} {off N : Nat} {a : Kd α} {b : Kd β} {la : α → Nat} {lb : β → Nat} (ho : f.offset = off) (ha : a.OpensE P f.type N la) (hb : b.FieldsOpenE P fs (off + a.sz) N lb) : (pair a b).FieldsOpenE P (f :: fs) off N (fun y => la y.1 + lb y.2) :=
  fun H enc w base spare held n cs ds hn hl hds h => by
    have hsz : (pair a b).sz = a.sz + b.sz := rfl
    rw [hsz] at hl
    obtain ⟨x, hx0, hx, hw⟩ := h 0 (by simp)
    simp only [List.getElem_cons_zero] at hx hw
    rw [ha.1, ho] at hx
    obtain ⟨va, hva, hla⟩ := ha.2 H enc w base spare held n _ x hn hx hw
    match ds, hds with
    | d0 :: dr, hds =>
      have e0 : d0 = x.1 := by simpa using hx0
      obtain ⟨vb, hvb, hlb⟩ := hb H enc w base spare held n cs dr hn (by omega) (by simpa using hds) (fun i hi => by
        obtain ⟨y, hy0, hy, hyw⟩ := h (i + 1) (by simpa using hi)
        exact ⟨y, by simpa using hy0, by simpa using hy, by simpa using hyw⟩)
      refine ⟨(va, vb), ⟨_, _, ?_, hva, hvb⟩, ?_⟩
      · rw [hsz, List.take_add, List.drop_drop]
      · subst e0
        simp only [uptoBulkAll]
        omega
theorem opensE_struct {P : Program} {t : TypeId} {fs : Array Field} {d : Kd α} {f : β → α} {len : α → Nat} (g : α → β) (hg : ∀ a, f (g a) = a) (ht : P.underlying t = some (.struct fs)) (hc : P.cellsOf t = d.sz) {N : Nat} (hd : d.FieldsOpenE P fs.toList 0 N len) : (iso d f).OpensE P t (N + 1) (fun b => len (f b)) :=
  ⟨hc, fun H enc w base spare held fuel cs x hN h hw => by
    obtain ⟨xs, n, rfl, rfl, hl, hxl, hx⟩ := DataW.trod_struct ht h
    simp only [DataW.weights, ht] at hw
    have hcl : cs.length = d.sz := by rw [hl, hc]
    obtain ⟨a, ha, hb⟩ := hd H enc w base spare held n cs (xs.map (·.1)) (by omega) (by omega) (by simpa using hxl) (fun i hi => by
      have hi' : i < fs.size := by simpa using hi
      have h1 := hx i fs[i] (Array.getElem?_eq_getElem hi')
      rw [List.getElem?_eq_getElem (show i < xs.length by omega)] at h1
      refine ⟨xs[i]'(by omega), by simp [show i < xs.length by omega], by simpa using h1, ?_⟩
      have h2 := all_weightsEach hw i fs[i].type (xs[i]'(by omega)).1 (by simp [hi']) (by simp [show i < xs.length by omega])
      simpa using h2)
    refine ⟨g a, ?_, ?_⟩
    · show d.K w Any (f (g a)) cs
      rw [hg]
      simpa [← hcl] using ha
    · show len (f (g a)) ≤ _
      rw [hg]
      simp only [uptoBulk]
      omega⟩
end Kd
end Go.Proofs.Ytjpeaeklhcnpnaa.K
