/- The reference's Fresh by a contract. No condition but small numbers. -/
import Derived.Test.YtjpeaeklhcnpnaaR1
import Derived.Deep.RegionHeld3
namespace Go.Proofs.Ytjpeaeklhcnpnaa.K
open Go.RowKit
set_option linter.unusedVariables false
set_option linter.unusedSimpArgs false
def RefPost (w : World) (F : Nat → Prop) (b : Nat) (most : Int) (L : List (Int × Int)) (fr id : Int) (e : Ending) (w' : World) : Prop :=
  ∃ r L', e = .returned (.bool r) ∧ RefStep (max most 1).toNat L fr id r L' ∧ RefAt w' (fun k => F k ∨ w.heap.size ≤ k) b most L' ∧ Chg w w' (fun k => F k ∨ k = b)
theorem RefAt.lt {w : World} {F : Nat → Prop} {b : Nat} {most : Int} {L : List (Int × Int)} (h : RefAt w F b most L) : b < w.heap.size := by
  obtain ⟨A, c, h1, _⟩ := h
  exact blk_lt h1
theorem RefAt.mono {w : World} {F F' : Nat → Prop} {b : Nat} {most : Int} {L : List (Int × Int)} (h : RefAt w F b most L) (hF : ∀ k, F k → F' k) (hb : ¬ F' b) : RefAt w F' b most L := by
  obtain ⟨A, c, h1, h2, h3⟩ := h
  exact ⟨A, c, h1, Kd.Own_mono h2 hF, hb⟩
theorem RefAt.chg {w w' : World} {F G : Nat → Prop} {b : Nat} {most : Int} {L : List (Int × Int)} (h : RefAt w F b most L) (hc : Chg w w' G) (hF : ∀ k, F k → ¬ G k) (hb : ¬ G b) : RefAt w' F b most L := by
  obtain ⟨A, c, h1, h2, h3⟩ := h
  exact ⟨A, c, hc.keeps h1 hb, Kd.Own_move (fun k hk hl => hc.block k hl (hF k hk)) h2, h3⟩
theorem RefAt.known {w : World} {F : Nat → Prop} {b : Nat} {most : Int} {L : List (Int × Int)} (h : RefAt w F b most L) : RefAt w (fun k => F k ∧ k < w.heap.size) b most L := by
  obtain ⟨A, c, h1, h2, h3⟩ := h
  exact ⟨A, c, h1, Kd.Own_lt h2, fun hk => h3 hk.1⟩
/-- Nothing but draws. -/
def Drawn (w w' : World) : Prop := w'.heap = w.heap ∧ w'.os = w.os ∧ w'.tape = w.tape ∧ w'.output = w.output
theorem Drawn.refl (w : World) : Drawn w w := ⟨rfl, rfl, rfl, rfl⟩
theorem Drawn.drew {w w' : World} (h : Drawn w w') : Drawn w w'.drew := h
theorem Drawn.cell {w w' : World} (h : Drawn w w') (a : Addr) : w'.cell? a = w.cell? a := by simp only [World.cell?, h.1]
theorem Drawn.chg {w w' : World} (h : Drawn w w') (F : Nat → Prop) : Chg w w' F := ⟨h.2.1, h.2.2.1, h.2.2.2, by rw [h.1]; exact Nat.le_refl _, fun k _ _ => by rw [h.1]⟩
theorem ref_same {w w' : World} {F : Nat → Prop} {b : Nat} {most : Int} {L : List (Int × Int)} {fr id : Int} {r : Bool} (hd : Drawn w w') (h : RefAt w' F b most L) (hs : RefStep (max most 1).toNat L fr id r L) : RefPost w F b most L fr id (.returned (.bool r)) w' :=
  ⟨r, L, rfl, hs, h.mono (fun k hk => .inl hk) (fun hk => hk.elim (by obtain ⟨_, _, _, _, h3⟩ := h; exact h3) (fun hk => by have := h.lt; rw [hd.1] at this; omega)), hd.chg _⟩
theorem und70 : Try.prog.underlying 70 = some (.slice 101) := by kernel_rfl
theorem info101 : (Try.prog.info? 101).map (fun i => (i.zero, i.size, i.bytes)) = some (some (.agg #[.int .i64 0, .int .u64 0]), kOne.sz, 16) := by kernel_rfl
/-- What an append of a new row wants. -/
structure OnePre (w : World) (F : Nat → Prop) (b : Nat) (A : Option Addr) (c : Nat) (L : List (Int × Int)) (y : Int × Int) : Prop where
  own : kOne.Own 101 (w.alloc (.cells #[.int .i64 y.1, .int .u64 y.2] 101)) (fun k => F k ∨ w.heap.size ≤ k) 0 (.slice A L.length c) L
  row : kOne.C (w.alloc (.cells #[.int .i64 y.1, .int .u64 y.2] 101)) (fun k => w.heap.size ≤ k) (some ⟨w.heap.size, 0, none⟩) 1 [y]
  far : ∀ k, w.heap.size ≤ k → k < (w.alloc (.cells #[.int .i64 y.1, .int .u64 y.2] 101)).heap.size → (F k ∨ w.heap.size ≤ k) ∧ some k ≠ (Value.slice A L.length c).ownBlock
  fresh : ∀ k, (w.alloc (.cells #[.int .i64 y.1, .int .u64 y.2] 101)).heap.size ≤ k → (F k ∨ w.heap.size ≤ k)
  rowF : ∀ k, (Value.slice A L.length c).ownBlock = some k → F k ∧ k < w.heap.size
theorem onePre {w : World} {F : Nat → Prop} {b : Nat} {A : Option Addr} {c : Nat} {L : List (Int × Int)} (y : Int × Int) (h2 : kOne.Own 101 w F 0 (.slice A L.length c) L) (h3 : (Lit.int .i64 y.1).wf = true) (h4 : (Lit.int .u64 y.2).wf = true) : OnePre w F b A c L y := by
  have hO : ∀ k, (Value.slice A L.length c).ownBlock = some k → F k ∧ k < w.heap.size := fun k hk => ⟨h2.1 k hk, by
    obtain ⟨_, inner, ho, _⟩ := h2
    exact (Kd.own_base ho k hk).2⟩
  have hsz : (w.alloc (.cells #[.int .i64 y.1, .int .u64 y.2] 101)).heap.size = w.heap.size + 1 := by simp
  refine ⟨?_, ?_, fun k hk hl => ⟨.inr hk, fun he => by have := hO k he.symm; omega⟩, fun k hk => .inr (by rw [hsz] at hk; omega), hO⟩
  · exact Kd.Own_mono (Kd.Own_move (fun k hk hl => Below.heap_alloc _ _ _ hl) h2) (fun k hk => .inl hk)
  · refine ⟨rfl, by omega, fun _ => ⟨_, rfl, Nat.le_refl _, by rw [hsz]; show w.heap.size < _; omega, fun j p hj => ?_⟩⟩
    have h0 : j = 0 := by
      have := (List.getElem?_eq_some_iff.1 hj).1
      simp at this
      exact this
    subst h0
    obtain rfl : y = p := by simpa using hj
    refine ⟨_, kOne_mk _ _ h3 h4, fun i u hu => ?_⟩
    rw [Addr.add_mid, blk_cell (blk_new _ _), Nat.zero_mul, Nat.zero_add, Nat.zero_add]
    simpa using hu
theorem one_end {w w7 : World} {F : Nat → Prop} {b : Nat} {A : Option Addr} {c : Nat} {most : Int} {L : List (Int × Int)} {y : Int × Int} {v1 : Value} (hb : ¬ F b) (h1 : w.heap[b]? = some (.cells #[.int .i64 most, .slice A L.length c] 72 (0, 0))) (hP : OnePre w F b A c L y)
    (hO : kOne.Own 101 w7 (fun k => F k ∨ w.heap.size ≤ k) 0 v1 (L ++ [y])) (hg : (w.alloc (.cells #[.int .i64 y.1, .int .u64 y.2] 101)).grownBy w7 (Value.slice A L.length c).ownBlock) :
    w7.heap[b]? = some (.cells #[.int .i64 most, .slice A L.length c] 72 (0, 0)) ∧ RefAt (w7.setCell ⟨b, 1, none⟩ v1) (fun k => F k ∨ w.heap.size ≤ k) b most (L ++ [y]) ∧ Chg w (w7.setCell ⟨b, 1, none⟩ v1) (fun k => F k ∨ k = b) := by
  have hbl := blk_lt h1
  have hne : ∀ k, (F k ∨ w.heap.size ≤ k) → k ≠ b := by
    rintro k hk rfl
    rcases hk with hk | hk
    · exact hb hk
    · omega
  obtain ⟨A', c', rfl, hl, hC⟩ := Kd.Own_C hO
  have h7 : w7.heap[b]? = some (.cells #[.int .i64 most, .slice A L.length c] 72 (0, 0)) := by
    rw [hg.block b (by simp; omega) (fun e => hb (hP.rowF b e.symm).1)]
    exact blk_alloc h1 _
  refine ⟨h7, ⟨A', c', blk_set h7 1 _, Own_set hO _ hne, fun h => hne b h rfl⟩, ?_⟩
  exact Chg.set (Chg.grown ((Chg.refl w _).alloc _) hg (fun k hk => .inl (.inl (hP.rowF k hk).1))) (.inl (.inr rfl)) _
theorem ref_put {w : World} {F : Nat → Prop} {b g c j : Nat} {most : Int} {L : List (Int × Int)} {fr id : Int} (h1 : w.heap[b]? = some (.cells #[.int .i64 most, .slice (some ⟨g, 0, none⟩) L.length c] 72 (0, 0))) (h2 : kOne.Own 101 w F 0 (.slice (some ⟨g, 0, none⟩) L.length c) L) (h3 : ¬ F b)
    (hj : j < L.length) (hf : L[j].1 = fr) (hw : (Lit.int .i64 fr).wf = true) (hi : (Lit.int .u64 id).wf = true) :
    w.frozen? ⟨g, j * 2 + 1, none⟩ = false ∧ RefAt (w.setCell ⟨g, j * 2 + 1, none⟩ (.int .u64 id)) F b most (L.set j (fr, id)) ∧ F g := by
  rcases Kd.Row_of_Own h2 with ⟨h0, _⟩ | ⟨g', hg', _, hb0, hg, hR⟩
  · rw [h0] at hj; simp at hj
  · obtain rfl : g = g' := by simpa using hg'
    obtain ⟨cs, hr, hK⟩ := hR.get hj
    obtain ⟨rfl, _⟩ := kOne_open hK
    have hbg : b ≠ g := fun e => h3 (e ▸ hg)
    have hR' := hR.putCell (f := 1) (u := .int .u64 id) (p := (fr, id)) (Fp := fun _ => False) hj (show 1 < 2 by decide) hr rfl (by rw [hf]; exact kOne_mk _ _ hw hi) (fun k h => h.elim) (fun j k _ h => h.2)
    refine ⟨(hR.cell (i := j) (by have := hR.2.1; omega) (show 1 < 2 by decide)).2, ⟨_, c, ?_, hR'.own hb0 hg (fun j' k _ h => ?_), h3⟩, hg⟩
    · rw [List.length_set]
      exact (set_other hbg).trans h1
    · by_cases e : j' = j
      · rw [if_pos e] at h; exact h.elim
      · rw [if_neg e] at h; exact h
set_option maxHeartbeats 4000000 in
set_option maxRecDepth 100000 in
theorem ref_any {w : World} {F : Nat → Prop} {b : Nat} {most : Int} {L : List (Int × Int)} {fr id : Int} (hm : (Lit.int .i64 most).wf = true) (hL : L.length ≤ 1000000) (h : RefAt w F b most L) (hf : (Lit.int .i64 fr).wf = true) (hi : (Lit.int .u64 id).wf = true) :
    Calls Try.prog 26 #[.pointer (some ⟨b, 0, none⟩), .int .i64 fr, .int .u64 id] w (RefPost w F b most L fr id) := by
  obtain ⟨A, c, h1, h2, h3⟩ := h
  have k0 : w.cell? ⟨b, 0, none⟩ = some (.int .i64 most) := (blk_cell h1 0).trans rfl
  have k1 : w.cell? ⟨b, 1, none⟩ = some (.slice A L.length c) := (blk_cell h1 1).trans rfl
  have HH := Aside.mk (And.intro h1 (And.intro h2 h3))
  have H := Aside.mk (show RefAt w F b most L from ⟨A, c, h1, h2, h3⟩)
  have HA : Aside (∀ k (hk : k < L.length), ∃ g, A = some ⟨g, 0, none⟩ ∧ w.cell? ⟨g, k * 2, none⟩ = some (.int .i64 L[k].1) ∧ w.cell? ⟨g, k * 2 + 1, none⟩ = some (.int .u64 L[k].2)) := ⟨by
    intro k hk
    rcases Kd.Row_of_Own h2 with ⟨h0, _⟩ | ⟨g, rfl, _, _, hg, hR⟩
    · rw [h0] at hk; simp at hk
    · obtain ⟨cs, hr, hK⟩ := hR.get hk
      obtain ⟨rfl, _⟩ := kOne_open hK
      exact ⟨g, rfl, hr 0 _ rfl, hr 1 _ rfl⟩⟩
  have HP := Aside.mk (onePre (b := b) (fr, id) h2 hf hi)
  obtain ⟨m, hmm, hm1, hms⟩ : ∃ m : Nat, max most 1 = (m : Int) ∧ 1 ≤ m ∧ m ≤ 9223372036854775807 := ⟨(max most 1).toNat, by omega, by omega, by
    simp only [Lit.wf, Bool.and_eq_true, decide_eq_true_eq] at hm
    have := hm.2
    simp [IntKind.i64] at this
    omega⟩
  have HM := Aside.mk hmm
  clear h1 h2 h3
  go_enter Try.func26, Try.ntmps26
  go_upto_if 16 with fail
  go_cut [7] (fun v7 wc => v7 = .int .i64 (m : Int) ∧ wc = w)
  case first =>
    by_cases h1 : most < 1
    · obtain rfl : m = 1 := by omega
      go_wp2
      go_meet
      case rel => exact ⟨rfl, rfl⟩
    · obtain rfl : most = m := by omega
      go_wp2
      go_meet
      case rel => exact ⟨rfl, rfl⟩
  case rest =>
    obtain ⟨rfl, rfl⟩ := hcut
    go_wp2
    go_loopw [8, 9, 10] (fun v8 v9 v10 wr => ∃ (i n : Nat) (least : Int), i ≤ L.length ∧ n ≤ i ∧ v8 = .int .i64 n ∧ v9 = .int .i64 least ∧ v10 = .int .i64 i ∧ Aside (Scan L fr id i n least) ∧ Aside (Drawn wc wr)) (fun v8 v9 v10 _ => L.length - (intOf v10).toNat)
    case atStart => exact ⟨0, 0, -1, Nat.zero_le _, Nat.le_refl _, rfl, rfl, rfl, ⟨scan_start L fr id⟩, ⟨Drawn.refl _⟩⟩
    case round =>
      obtain ⟨i, n, least, hiL, hni, rfl, rfl, rfl, HS, HD⟩ := hrel
      have k0' := k0
      have k1' := k1
      rw [← HD.out.cell] at k0' k1'
      have H' := Aside.mk (H.out.chg (HD.out.chg NoF) (fun _ _ h => h) (fun h => h))
      clear k0 k1
      by_cases hlt : i < L.length
      · obtain ⟨g, rfl, f1, f2⟩ := HA.out i hlt
        rw [← HD.out.cell] at f1 f2
        obtain ⟨x, hx⟩ : ∃ x, L[i].1 = x := ⟨_, rfl⟩
        obtain ⟨y, hy⟩ : ∃ y, L[i].2 = y := ⟨_, rfl⟩
        rw [hx] at f1
        rw [hy] at f2
        have HX := Aside.mk (And.intro hx hy)
        clear hx hy
        by_cases hxf : x = fr
        · subst hxf
          by_cases hyi : y = id
          · subst hyi
            go_wp2
            go_ret
            exact ref_same HD.out H'.out (.inl ⟨List.mem_iff_getElem.2 ⟨i, hlt, Prod.ext HX.out.1 HX.out.2⟩, rfl, rfl⟩)
          · have hyi' : (y == id) = false := by simpa using hyi
            rcases HS.out.2.2 with ⟨rfl, rfl⟩ | ⟨j, hj, rfl, hji, hjf, hjl⟩
            · have HS' := Aside.mk (scan_first HS.out hlt HX.out.1 (by rw [HX.out.2]; exact hyi))
              go_upto_region 13 with fail
              go_region
              go_wp2
              go_round
              case rel => exact ⟨i + 1, 0 + 1, i, by omega, by omega, rfl, rfl, rfl, HS', ⟨HD.out.drew⟩⟩
              case measure => simp only [intOf]; omega
            · obtain ⟨g', hg', f3, f4⟩ := HA.out j hj
              obtain rfl : g = g' := by simpa using hg'
              rw [← HD.out.cell] at f3 f4
              have HS' := Aside.mk (scan_next HS.out hlt hj HX.out.1 (by rw [HX.out.2]; exact hyi))
              rw [HX.out.2] at HS'
              obtain ⟨z, hz⟩ : ∃ z, L[j].2 = z := ⟨_, rfl⟩
              rw [hz] at f4 HS'
              clear hjl hjf hg' hz
              have hj0 : ¬ (j : Int) < 0 := by omega
              have hj1 : decide ((j : Int) < 0) = false := decide_eq_false hj0
              by_cases hlt2 : y < z
              · rw [if_pos hlt2] at HS'
                go_upto_region 13 with fail
                go_region_held3 (fun W => W.cell? ⟨b, 1, none⟩ = some (.slice (some ⟨g, 0, none⟩) L.length c) ∧ W.cell? ⟨g, i * 2 + 1, none⟩ = some (.int .u64 y) ∧ W.cell? ⟨g, j * 2 + 1, none⟩ = some (.int .u64 z)) (exact ⟨k1', f2, f4⟩) (fail)
                go_wp2
                go_round
                case rel => exact ⟨i + 1, n + 1, i, by omega, by omega, rfl, rfl, rfl, HS', ⟨HD.out.drew⟩⟩
                case measure => simp only [intOf]; omega
              · rw [if_neg hlt2] at HS'
                go_upto_region 13 with fail
                go_region_held3 (fun W => W.cell? ⟨b, 1, none⟩ = some (.slice (some ⟨g, 0, none⟩) L.length c) ∧ W.cell? ⟨g, i * 2 + 1, none⟩ = some (.int .u64 y) ∧ W.cell? ⟨g, j * 2 + 1, none⟩ = some (.int .u64 z)) (exact ⟨k1', f2, f4⟩) (fail)
                go_wp2
                go_round
                case rel => exact ⟨i + 1, n + 1, j, by omega, by omega, rfl, rfl, rfl, HS', ⟨HD.out.drew⟩⟩
                case measure => simp only [intOf]; omega
        · have hxf' : (x != fr) = true := by simpa using hxf
          go_wp2
          go_round
          case rel => exact ⟨i + 1, n, least, by omega, by omega, rfl, rfl, rfl, ⟨scan_skip HS.out hlt (by rw [HX.out.1]; exact hxf)⟩, HD⟩
          case measure => simp only [intOf]; omega
      · obtain rfl : i = L.length := by omega
        have hnl : n = cnt L fr := by have := HS.out.2.1; rwa [List.take_length] at this
        have hno : (fr, id) ∉ L := fun hm => by
          obtain ⟨k, hk, e⟩ := List.mem_iff_getElem.1 hm
          exact HS.out.1 k hk hk e
        have HN := Aside.mk (And.intro hnl hno)
        clear hnl hno
        by_cases hn : n = m
        · subst hn
          rcases HS.out.2.2 with ⟨rfl, hn0⟩ | ⟨j, hj, rfl, hji, hjf, hjl⟩
          · omega
          · obtain ⟨g, rfl, f3, f4⟩ := HA.out j hj
            obtain ⟨z, hz⟩ : ∃ z, L[j].2 = z := ⟨_, rfl⟩
            have HJ := Aside.mk (And.intro hjf (And.intro hjl hz))
            rw [hz] at f4
            clear hjf hjl hz
            rw [← HD.out.cell] at f3 f4
            by_cases hiz : id < z
            · go_wp2
              go_ret
              refine ref_same HD.out H'.out (.inr (.inl ⟨HN.out.2, by rw [HM.out]; have := HN.out.1; omega, j, hj, HJ.out.1, fun x hx hf => ?_, .inl ⟨by rw [HJ.out.2.2]; exact hiz, rfl, rfl⟩⟩))
              obtain ⟨k, hk, rfl⟩ := List.mem_iff_getElem.1 hx
              exact HJ.out.2.1 k hk hk hf
            · have h1' : wr.heap[b]? = some (.cells #[.int .i64 most, .slice (some ⟨g, 0, none⟩) L.length c] 72 (0, 0)) := by rw [HD.out.1]; exact HH.out.1
              obtain ⟨hz1, hz2, hz3⟩ := ref_put h1' (Kd.Own_move (fun k _ _ => by rw [HD.out.1]) HH.out.2.1) HH.out.2.2 hj HJ.out.1 hf hi
              have HZ := Aside.mk (And.intro hz2 hz3)
              clear h1' hz2 hz3
              go_wp2
              go_ret
              refine ⟨true, _, rfl, .inr (.inl ⟨HN.out.2, by rw [HM.out]; have := HN.out.1; omega, j, hj, HJ.out.1, fun x hx hf => ?_, .inr ⟨by rw [HJ.out.2.2]; omega, rfl, rfl⟩⟩), HZ.out.1.mono (fun k h => .inl h) (fun h => ?_), Chg.set (HD.out.chg _) (.inl (.inl HZ.out.2)) _⟩
              · obtain ⟨k, hk, rfl⟩ := List.mem_iff_getElem.1 hx
                exact HJ.out.2.1 k hk hk hf
              · rcases h with h | h
                · exact HH.out.2.2 h
                · have := blk_lt HH.out.1; omega
        · have hn' : ((n : Int) == (m : Int)) = false := by simp; omega
          have h1' : wr.heap[b]? = some (.cells #[.int .i64 most, .slice A L.length c] 72 (0, 0)) := by rw [HD.out.1]; exact HH.out.1
          have H1' := Aside.mk h1'
          have HP' := Aside.mk (onePre (w := wr) (F := F) (b := b) (fr, id) (Kd.Own_move (fun k _ _ => by rw [HD.out.1]) HH.out.2.1) hf hi)
          clear h1'
          go_wp2_with (refine wpList_append_row kOne 0 rfl (.tmp 95) (.tmp 99) 70 101 (.agg #[.int .i64 0, .int .u64 0]) 16 rfl und70 info101 rfl (Nat.zero_lt_succ 1) (Nat.zero_lt_succ 15) (.slice A L.length c) L [(fr, id)] ⟨wr.heap.size, 0, none⟩ 1 1 (fun k => F k ∨ wr.heap.size ≤ k) (fun k => wr.heap.size ≤ k) (by rfl) (by rfl) ?a1 ?a2 ?a3 ?a4 ?a5 ?a6 ?a7; exact HP'.out.own; exact HP'.out.row; exact HP'.out.far; exact HP'.out.fresh; exact (Nat.zero_le _); (omega); (intro v1 w7 hO hg _); obtain ⟨A7, n7, c7, rfl⟩ : ∃ A7 n7 c7, v1 = .slice A7 n7 c7 := (by obtain ⟨A7, c7, e, _⟩ := Kd.Own_C hO; exact ⟨_, _, _, e⟩); have HE := Aside.mk (one_end HH.out.2.2 H1'.out HP'.out hO hg); have f1 : w7.cell? ⟨b, 1, none⟩ = some (.slice A L.length c) := (blk_cell HE.out.1 1).trans rfl; have g1 : w7.frozen? ⟨b, 1, none⟩ = false := blk_frozen HE.out.1 1; clear hO hg)
          go_ret
          refine ⟨true, _, rfl, .inr (.inr ⟨HN.out.2, by rw [HM.out]; have := HN.out.1; omega, rfl, rfl⟩), HE.out.2.1.mono (fun k h => h.imp (fun h => h) (fun h => by rw [← HD.out.1]; exact h)) (fun h => ?_), (HD.out.chg _).then_ HE.out.2.2 (fun k _ h => h)⟩
          rcases h with h | h
          · exact HH.out.2.2 h
          · have := blk_lt HH.out.1; omega
end Go.Proofs.Ytjpeaeklhcnpnaa.K
