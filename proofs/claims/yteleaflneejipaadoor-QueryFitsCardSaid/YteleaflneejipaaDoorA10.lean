/- What QueryFits counts, plainly: sets of a cube rise, are told once each; each set of the rollup is one of them. -/
import Derived.Test.YteleaflneejipaaDoorA8
import Derived.Test.YteleaflneejipaaDoorA5
namespace Go.Proofs.YteleaflneejipaaDoor.PQ
open Go.RowKit Go.Proofs.YteleaflneejipaaDoorW.PrintWords Go.Proofs.YteleaflneejipaaDoorW.PrintLast Go.Proofs.YteleaflneejipaaDoorW.PrintMore
set_option linter.unusedVariables false

/-- Rising numbers, below d, from 0 on. -/
def Up (d : Int) (l : List Int) : Prop := l.Pairwise (· < ·) ∧ ∀ x ∈ l, 0 ≤ x ∧ x < d
theorem Up.rises {d : Int} {l : List Int} (h : Up d l) : Rises d l := fun i hi =>
  ⟨(h.2 _ (List.getElem_mem hi)).2, fun _ => (h.2 _ (List.getElem_mem hi)).1, fun j hj e => List.pairwise_iff_getElem.1 h.1 j i hj hi (by omega)⟩
theorem Up.sub {d : Int} {l m : List Int} (h : Up d l) (hs : m.Sublist l) : Up d m := ⟨h.1.sublist hs, fun x hx => h.2 x (hs.subset hx)⟩
theorem Up.snoc {i : Int} {l : List Int} (h : Up i l) (h0 : 0 ≤ i) : Up (i + 1) (l ++ [i]) := by
  refine ⟨List.pairwise_append.2 ⟨h.1, List.pairwise_singleton _ _, fun a ha b hb => ?_⟩, fun x hx => ?_⟩
  · obtain rfl := List.mem_singleton.1 hb
    exact (h.2 a ha).2
  · rcases List.mem_append.1 hx with hx | hx
    · have := h.2 x hx; omega
    · obtain rfl := List.mem_singleton.1 hx; omega
theorem Up.more {i : Int} {l : List Int} (h : Up i l) : Up (i + 1) l := ⟨h.1, fun x hx => by have := h.2 x hx; omega⟩
theorem cubeS_sub : ∀ (l x : List Int), x ∈ cubeS l → x.Sublist l
  | [], x, hx => by
    obtain rfl := List.mem_singleton.1 hx
    exact List.Sublist.refl _
  | d :: t, x, hx => by
    rcases List.mem_append.1 hx with hx | hx
    · obtain ⟨y, hy, rfl⟩ := List.mem_map.1 hx
      exact (cubeS_sub t y hy).cons_cons d
    · exact (cubeS_sub t x hx).cons d
theorem rollS_sub (l : List Int) : ∀ (n : Nat) (x : List Int), x ∈ rollS l n → x.Sublist l
  | 0, x, hx => by
    obtain rfl := List.mem_singleton.1 hx
    exact List.take_sublist _ _
  | n + 1, x, hx => by
    rcases List.mem_cons.1 hx with rfl | hx
    · exact List.take_sublist _ _
    · exact rollS_sub l n x hx
theorem nil_cube : ∀ l : List Int, [] ∈ cubeS l
  | [] => List.mem_singleton.2 rfl
  | d :: t => List.mem_append.2 (.inr (nil_cube t))
theorem take_cube : ∀ (l : List Int) (n : Nat), l.take n ∈ cubeS l
  | [], n => by rw [List.take_nil]; exact List.mem_singleton.2 rfl
  | d :: t, 0 => nil_cube _
  | d :: t, n + 1 => List.mem_append.2 (.inl (List.mem_map.2 ⟨t.take n, take_cube t n, rfl⟩))
theorem roll_cube (l : List Int) : ∀ (n : Nat) (x : List Int), x ∈ rollS l n → x ∈ cubeS l
  | 0, x, hx => by
    obtain rfl := List.mem_singleton.1 hx
    exact take_cube l 0
  | n + 1, x, hx => by
    rcases List.mem_cons.1 hx with rfl | hx
    · exact take_cube l (n + 1)
    · exact roll_cube l n x hx
theorem cube_nodup : ∀ {l : List Int}, l.Pairwise (· < ·) → (cubeS l).Nodup
  | [], _ => by simp [cubeS]
  | d :: t, h => by
    obtain ⟨h1, h2⟩ := List.pairwise_cons.1 h
    have ih := cube_nodup h2
    refine List.nodup_append.2 ⟨?_, ih, fun a ha b hb e => ?_⟩
    · exact List.Pairwise.map _ (fun a b (hab : a ≠ b) => fun e => hab (List.cons.inj e).2) ih
    · obtain ⟨y, hy, rfl⟩ := List.mem_map.1 ha
      subst e
      have := h1 d ((cubeS_sub t _ hb).subset List.mem_cons_self)
      omega
def eqN (x y : List Int) : Nat := if x = y then 1 else 0
def cntR (x : List Int) : List (List Int) → Nat
  | [] => 0
  | y :: r => eqN x y + cntR x r
def cntC (c r : List (List Int)) : Nat := match c with
  | [] => 0
  | x :: c => cntR x r + cntC c r
theorem cntR_snoc (x y : List Int) : ∀ r, cntR x (r ++ [y]) = cntR x r + eqN x y
  | [] => by simp [cntR]
  | z :: r => by rw [List.cons_append, cntR, cntR_snoc x y r, cntR]; omega
theorem cntC_snoc (x : List Int) (r : List (List Int)) : ∀ c, cntC (c ++ [x]) r = cntC c r + cntR x r
  | [] => by simp [cntC]
  | z :: c => by rw [List.cons_append, cntC, cntC_snoc x r c, cntC]; omega
theorem cntR_le (x : List Int) : ∀ r, cntR x r ≤ r.length
  | [] => Nat.le_refl _
  | z :: r => by
    have := cntR_le x r
    rw [cntR, List.length_cons]
    unfold eqN
    split <;> omega
theorem cntC_le (r : List (List Int)) : ∀ c, cntC c r ≤ c.length * r.length
  | [] => by simp [cntC]
  | x :: c => by
    have := cntC_le r c
    have := cntR_le x r
    rw [cntC, List.length_cons, Nat.add_mul]
    omega
theorem cntC_nil : ∀ c : List (List Int), cntC c [] = 0
  | [] => rfl
  | x :: c => by rw [cntC, cntC_nil c, cntR]
theorem cntC_cons (y : List Int) (r : List (List Int)) : ∀ c, cntC c (y :: r) = cntC c r + cntC c [y]
  | [] => rfl
  | x :: c => by
    rw [cntC, cntC, cntC, cntC_cons y r c]
    simp only [cntR]
    omega
theorem cntC_none {y : List Int} : ∀ {c : List (List Int)}, y ∉ c → cntC c [y] = 0
  | [], _ => rfl
  | x :: c, h => by
    rw [cntC, cntC_none (fun hc => h (List.mem_cons_of_mem _ hc))]
    have : ¬ x = y := fun e => h (e ▸ List.mem_cons_self)
    simp [cntR, eqN, this]
theorem cntC_one {y : List Int} : ∀ {c : List (List Int)}, c.Nodup → y ∈ c → cntC c [y] = 1
  | [], _, h => by cases h
  | x :: c, hn, h => by
    obtain ⟨h1, h2⟩ := List.nodup_cons.1 hn
    rw [cntC]
    by_cases e : x = y
    · subst e
      rw [cntC_none h1]
      simp [cntR, eqN]
    · rw [cntC_one h2 ((List.mem_cons.1 h).resolve_left (fun h => e h.symm))]
      simp [cntR, eqN, e]
theorem cnt_all {c : List (List Int)} (hn : c.Nodup) : ∀ (r : List (List Int)), (∀ y ∈ r, y ∈ c) → cntC c r = r.length
  | [], _ => cntC_nil c
  | y :: r, h => by
    rw [cntC_cons, cnt_all hn r (fun z hz => h z (List.mem_cons_of_mem _ hz)), cntC_one hn (h y List.mem_cons_self), List.length_cons]
theorem rdL1_one (x : List Int) : rd_L1 [x] 0 = x := rfl
theorem one_loop {x y : List Int} (hl : x.length = y.length) (hx : x.length ≤ 1000) : ∀ (n i : Nat), i + n = x.length → x.take i = y.take i → Ev (fun k => gristmillref08_Sets.l1 k [x] [y] 0 (i : Int)) (decide (x = y))
  | 0, i, hi, he => by
    obtain rfl : i = x.length := by omega
    have e : x = y := by
      rw [List.take_length, hl, List.take_length] at he
      exact he
    refine Ev.step (f := fun k => gristmillref08_Sets.l0 k [x] [y] 1) (fun k => ?_) (Ev.step (f := fun _ => some true) (fun k => ?_) ?_)
    · simp only [gristmillref08_Sets.l1]
      rw [if_pos (by omega), if_pos (by simp), if_neg (by rw [rdL1_one]; omega), show wrap64 (0 + 1) = 1 from q_w64 (by decide) (by decide)]
    · simp only [gristmillref08_Sets.l0]
      rw [if_neg (by simp)]
    · rw [decide_eq_true e]; exact Ev.now _
  | n + 1, i, hi, he => by
    have h1 : i < x.length := by omega
    have h2 : i < y.length := by omega
    have r1 : rd x (i : Int) = x[i] := by
      unfold rd
      rw [Int.toNat_natCast, List.getD_eq_getElem?_getD, List.getElem?_eq_getElem h1]; rfl
    have r2 : rd y (i : Int) = y[i] := by
      unfold rd
      rw [Int.toNat_natCast, List.getD_eq_getElem?_getD, List.getElem?_eq_getElem h2]; rfl
    by_cases hxy : x[i] = y[i]
    · have ih := one_loop hl hx n (i + 1) (by omega) (by rw [List.take_succ_eq_append_getElem h1, List.take_succ_eq_append_getElem h2, he, hxy])
      refine Ev.step (fun k => ?_) ih
      simp only [gristmillref08_Sets.l1, rdL1_one, r1, r2]
      rw [if_pos (by omega), if_pos (by simp), if_pos (by omega), if_pos (by omega), if_pos (by simp), if_pos (by omega), if_pos hxy, q_w64 (by omega) (by omega)]
      rfl
    · have e : ¬ x = y := fun e => hxy (by subst e; rfl)
      refine Ev.step (f := fun _ => some false) (fun k => ?_) (by rw [decide_eq_false e]; exact Ev.now _)
      simp only [gristmillref08_Sets.l1, rdL1_one, r1, r2]
      rw [if_pos (by omega), if_pos (by simp), if_pos (by omega), if_pos (by omega), if_pos (by simp), if_pos (by omega), if_neg hxy]
theorem one_ev (x y : List Int) (hx : x.length ≤ 1000) : Ev (fun k => gristmillref08_Sets.f k [x] [y]) (decide (x = y)) := by
  by_cases hl : x.length = y.length
  · refine Ev.congr (fun k => ?_) (Ev.step (f := fun k => gristmillref08_Sets.l1 k [x] [y] 0 0) (g := fun k => gristmillref08_Sets.l0 k [x] [y] 0) (fun k => ?_) (one_loop hl hx x.length 0 (by omega) rfl))
    · unfold gristmillref08_Sets.f
      rw [if_pos (by simp)]
    · simp only [gristmillref08_Sets.l0]
      rw [if_pos (by simp), if_pos (by omega), if_pos (by simp), if_pos (by rw [rdL1_one, rdL1_one]; omega)]
  · have e : ¬ x = y := fun e => hl (by rw [e])
    refine Ev.congr (fun k => ?_) (Ev.step (f := fun _ => some false) (g := fun k => gristmillref08_Sets.l0 k [x] [y] 0) (fun k => ?_) (by rw [decide_eq_false e]; exact Ev.now _))
    · unfold gristmillref08_Sets.f
      rw [if_pos (by simp)]
    · simp only [gristmillref08_Sets.l0]
      rw [if_pos (by simp), if_pos (by omega), if_pos (by simp), if_neg (by rw [rdL1_one, rdL1_one]; omega)]
end Go.Proofs.YteleaflneejipaaDoor.PQ
