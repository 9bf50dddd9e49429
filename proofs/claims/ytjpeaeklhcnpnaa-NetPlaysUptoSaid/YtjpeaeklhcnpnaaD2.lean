/- net.Peek by a contract. No condition. -/
import Derived.Test.YtjpeaeklhcnpnaaD1
import Derived.Outline
namespace Go.Proofs.Ytjpeaeklhcnpnaa.K
open Go.RowKit
set_option linter.unusedVariables false
set_option linter.unusedSimpArgs false
theorem results_cell2 {P : Program} {fn : Func} {p u : Tmp} {ty : TypeId} (h : fn.results = #[.cell p ty, .tmp u]) {tmps : Array Value} {w : World} {a : Addr} {v v2 : Value} (ha : tmps.getD p undef = .pointer (some a)) (hu : tmps.getD u undef = v2) (hl : (loadVar ty a).run P w = .ok v w) : (results fn tmps).run P w = .ok (.tuple #[v, v2]) w := by
  have ha' : tmps[p]?.getD undef = .pointer (some a) := by simpa using ha
  have hu' : tmps[u]?.getD undef = v2 := by simpa using hu
  simp only [results, h]
  simp [Sem.run_bind, Result.andThen, ha', asAddr, hl, hu']
theorem j54 {n : Nat} (h : n = 41) : (Try.prog.info? 54).map (·.size) = some n := by
  subst h
  kernel_rfl
theorem there_blk {w : World} {z n m : Nat} {cur : Array Value} {t : TypeId} (h : w.heap[z]? = some (.cells cur t (0, 0))) (hn : cur.size = n) (hm : m = n) : w.there z 0 m := fun j hj => by
  refine ⟨?_, blk_frozen h _⟩
  rw [blk_cell h, Array.getElem?_eq_getElem (by omega)]
  rfl
/-- A message's cells were stored over a whole block: what is read there. -/
theorem stored54 {w : World} {z : Nat} {cur : Array Value} {cs : List Value} (h : w.heap[z]? = some (.cells cur 54 (0, 0))) (hn : cur.size = 41) (hl : cs.length = 41) :
    (loadVar 54 ⟨z, 0, none⟩).run Try.prog (w.setCells z 0 cs) = .ok (.agg cs.toArray) (w.setCells z 0 cs) :=
  run_loadVar_mid (P := Try.prog) _ z 0 54 _ _ (World.rangeAt_setCells_same w z 0 cs (there_blk h hn hl)) Try.underlying54 rfl (j54 hl)
def PeekYes (x : Msg) (w : World) (e : Ending) (w' : World) : Prop := ∃ cs, e = .returned (.tuple #[.agg cs.toArray, .bool true]) ∧ kMsg.K w' (New w) x cs ∧ Below w.heap.size w w'
def PeekYes2 (x : Msg) (w : World) (e : Ending) (w' : World) : Prop := ∃ cs, e = .returned (.tuple #[.agg cs.toArray, .bool true]) ∧ kMsg.K w' (New w) x cs ∧ Below w.heap.size w w' ∧ Shp x w' (New w) cs
def PeekNo (w : World) (e : Ending) (w' : World) : Prop := e = .returned (.tuple #[.agg mZ, .bool false]) ∧ Below w.heap.size w w'

set_option maxHeartbeats 4000000 in
set_option maxRecDepth 100000 in
theorem peek_shp {w : World} {F : Nat → Prop} {b : Nat} {ms : List Msg} {last : Int} (h : NetAt w F b ms last) (n : Nat) (hi : n < ms.length) : Calls Try.prog 23 #[.pointer (some ⟨b, 0, none⟩), .int .i64 n] w (PeekYes2 ms[n] w) := by
  have hn := h.fits
  have hW := fun o => waiting_any (h.chg (Chg.of_below (below_alloc (Below.refl w.heap.size w) o) (fun _ => False)) (fun _ _ hf => hf) (fun hf => hf))
  obtain ⟨A, c, h1, h2, h3⟩ := h
  rcases Kd.Row_of_Own h2 with ⟨h0, _⟩ | ⟨g, rfl, _, _, hFg, hR⟩
  · rw [h0] at hi; simp at hi
  obtain ⟨cs, hr, hk⟩ := hR.get hi
  have hcl := kMsg.len hk
  have f0 : ∀ o, (w.alloc o).cell? ⟨b, 0, none⟩ = some (.slice (some ⟨g, 0, none⟩) ms.length c) := fun o => (blk_cell (blk_alloc h1 o) 0).trans rfl
  have HR := Aside.mk (fun o => World.rangeAt_alloc (ob := o) hr)
  have HO := fun W (I : Aside (Below w.heap.size w W)) => Aside.mk (own_shp ms[n] cs W (Kd.below (Kd.any hk) I.out))
  have HL := Aside.mk hcl
  have HW := Aside.mk hW
  have hge : ¬ ms.length ≤ n := by omega
  clear h1 h2 h3 hR hFg hr hk hcl hW
  go_enter Try.func23, Try.ntmps23
  go_wp2_with (first
    | (go_at_call 22; refine (HW.out _).mono ?_; rintro e w' ⟨rfl, rfl⟩)
    | (refine wpList_load_mid rfl 54 (.tmp 20) (by rfl) g (n * 41) (by rfl) cs _ (HR.out _) Try.underlying54 rfl (j54 HL.out) ?_))
  refine (HO _ ⟨below_alloc (Below.refl _ _) _⟩).out.mono ?_
  rintro e w5 ⟨cs', rfl, hK, hb, hS⟩
  have HZ := Aside.mk (blk_below (blk_new w _) hb)
  have HK := Aside.mk hK
  have HSh := Aside.mk hS
  have HB := Aside.mk (below_self (below_alloc (Below.refl w.heap.size w) _) hb)
  clear hK hb hS f0
  go_wp2_with (refine wpList_store_mid rfl 54 (.tmp 4) (.tmp 22) (by rfl) w.heap.size 0 cs'.toArray (by rfl) (by rfl) (there_blk HZ.out rfl (by rw [List.size_toArray]; exact kMsg.len HK.out)) (j54 (by rw [List.size_toArray]; exact kMsg.len HK.out)) (all_oneCell_toArray (fun v hv => kMsg.one HK.out v hv)) ?_)
  refine bodyPost_ret (results_cell2 (p := 4) (u := 5) (ty := 54) rfl rfl rfl (stored54 HZ.out rfl (kMsg.len HK.out))) rfl ⟨cs', rfl, ?_, below_setCells (Nat.le_refl _) _ _ _ HB.out, ?_⟩
  rotate_left
  · refine Shp.mono (F := fun k => w.heap.size < k) (fun k hk => Nat.le_of_lt hk) (Shp.move (fun k hk _ => setCells_other _ _ _ (by omega)) (Shp.mono (fun k hk => ?_) HSh.out))
    simp only [New, World.size_alloc] at hk
    omega
  refine kMsg.mono (F := fun k => w.heap.size < k) (fun k hk => Nat.le_of_lt hk) (kMsg.move (fun k hk _ => setCells_other _ _ _ (by omega)) (kMsg.mono (fun k hk => ?_) HK.out))
  simp only [New, World.size_alloc] at hk
  omega
theorem peek_yes {w : World} {F : Nat → Prop} {b : Nat} {ms : List Msg} {last : Int} (h : NetAt w F b ms last) (n : Nat) (hi : n < ms.length) : Calls Try.prog 23 #[.pointer (some ⟨b, 0, none⟩), .int .i64 n] w (PeekYes ms[n] w) :=
  (peek_shp h n hi).mono fun e w' ⟨cs', h1, h2, h3, _⟩ => ⟨cs', h1, h2, h3⟩
theorem mZ_len : mZ.toList.length = 41 := rfl
theorem mZ_one : mZ.all (·.oneCell') = true := by simp [mZ, mC, Value.oneCell']
/-- Nothing is told. -/
theorem peek_end {w W : World} (hb : Below w.heap.size w W) (hz : W.heap[w.heap.size]? = some (.cells mZ 54 (0, 0))) : (loadVar 54 ⟨w.heap.size, 0, none⟩).run Try.prog (W.setCells w.heap.size 0 mZ.toList) = .ok (.agg mZ) (W.setCells w.heap.size 0 mZ.toList) ∧
    PeekNo w (.returned (.tuple #[.agg mZ, .bool false])) (W.setCells w.heap.size 0 mZ.toList) := ⟨stored54 hz rfl mZ_len, rfl, below_setCells (Nat.le_refl _) _ _ _ hb⟩
theorem zero_blk (w : World) : (w.alloc (.cells mZ 54)).heap[w.heap.size]? = some (.cells mZ 54 (0, 0)) := blk_new _ _

set_option maxHeartbeats 4000000 in
set_option maxRecDepth 100000 in
theorem peek_below {w : World} {F : Nat → Prop} {b : Nat} {ms : List Msg} {last : Int} (h : NetAt w F b ms last) (i : Int) (hi : i < 0) : Calls Try.prog 23 #[.pointer (some ⟨b, 0, none⟩), .int .i64 i] w (PeekNo w) := by
  have HZ := Aside.mk (zero_blk w)
  clear h
  go_enter Try.func23, Try.ntmps23
  go_wp2_with (refine wpList_store_mid rfl 54 (.tmp 4) (.tmp 14) (by rfl) w.heap.size 0 mZ (by rfl) (by rfl) (there_blk (cur := mZ) HZ.out rfl rfl) (j54 rfl) mZ_one ?_)
  exact bodyPost_ret (results_cell2 (p := 4) (u := 5) (ty := 54) rfl rfl rfl (peek_end (below_alloc (Below.refl _ _) _) HZ.out).1) rfl (peek_end (below_alloc (Below.refl _ _) _) HZ.out).2
set_option maxHeartbeats 4000000 in
set_option maxRecDepth 100000 in
theorem peek_above {w : World} {F : Nat → Prop} {b : Nat} {ms : List Msg} {last : Int} (h : NetAt w F b ms last) (i : Int) (hi : (ms.length : Int) ≤ i) : Calls Try.prog 23 #[.pointer (some ⟨b, 0, none⟩), .int .i64 i] w (PeekNo w) := by
  have HZ := Aside.mk (zero_blk w)
  have HW := Aside.mk (fun o => waiting_any (h.chg (Chg.of_below (below_alloc (Below.refl w.heap.size w) o) (fun _ => False)) (fun _ _ hf => hf) (fun hf => hf)))
  have h0 : ¬ i < 0 := by omega
  clear h
  go_enter Try.func23, Try.ntmps23
  go_wp2_with (first
    | (go_at_call 22; refine (HW.out _).mono ?_; rintro e w' ⟨rfl, rfl⟩)
    | (refine wpList_store_mid rfl 54 (.tmp 4) (.tmp 14) (by rfl) w.heap.size 0 mZ (by rfl) (by rfl) (there_blk (cur := mZ) HZ.out rfl rfl) (j54 rfl) mZ_one ?_))
  exact bodyPost_ret (results_cell2 (p := 4) (u := 5) (ty := 54) rfl rfl rfl (peek_end (below_alloc (Below.refl _ _) _) HZ.out).1) rfl (peek_end (below_alloc (Below.refl _ _) _) HZ.out).2
set_option maxHeartbeats 4000000 in
set_option maxRecDepth 100000 in
theorem peek_nil (w : World) (i : Int) : Calls Try.prog 23 #[.pointer none, .int .i64 i] w (PeekNo w) := by
  have HZ := Aside.mk (zero_blk w)
  by_cases hi : i < 0
  all_goals
    go_enter Try.func23, Try.ntmps23
    go_wp2_with (first
      | (go_at_call 22; refine (waiting_nil _).mono ?_; rintro e w' ⟨rfl, rfl⟩)
      | (refine wpList_store_mid rfl 54 (.tmp 4) (.tmp 14) (by rfl) w.heap.size 0 mZ (by rfl) (by rfl) (there_blk (cur := mZ) HZ.out rfl rfl) (j54 rfl) mZ_one ?_))
    exact bodyPost_ret (results_cell2 (p := 4) (u := 5) (ty := 54) rfl rfl rfl (peek_end (below_alloc (Below.refl _ _) _) HZ.out).1) rfl (peek_end (below_alloc (Below.refl _ _) _) HZ.out).2
theorem peek_no {w : World} {F : Nat → Prop} {b : Nat} {ms : List Msg} {last : Int} (h : NetAt w F b ms last) (i : Int) (hi : i < 0 ∨ (ms.length : Int) ≤ i) : Calls Try.prog 23 #[.pointer (some ⟨b, 0, none⟩), .int .i64 i] w (PeekNo w) :=
  hi.elim (peek_below h i) (peek_above h i)
end Go.Proofs.Ytjpeaeklhcnpnaa.K
