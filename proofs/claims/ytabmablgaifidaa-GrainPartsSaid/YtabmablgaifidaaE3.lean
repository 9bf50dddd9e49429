/- What the printed functions of the reference come to: put, Edges, Parts, Split; the laws' first call. No condition beyond numbers of 64 bits and lengths. -/
import Derived.Test.YtabmablgaifidaaE1
import Derived.Test.YtabmablgaifidaaE2
import Derived.Test.YtabmablgaifidaaPGrainx6
import Derived.Test.YtabmablgaifidaaPGrainx7
namespace Go.Proofs.Ytabmablgaifidaa.PGrain
open Go.RowKit Go.Proofs.YtabmablgaifidaaW.PrintWords Go.Proofs.YtabmablgaifidaaW.PrintLast Go.Proofs.YtabmablgaifidaaW.PrintMore
set_option linter.unusedVariables false

theorem rdI_is {xs : List Int} {i : Nat} (h : i < xs.length) : rd xs (i : Int) = xs[i] := by
  unfold rd
  rw [Int.toNat_natCast, List.getD_eq_getElem?_getD, List.getElem?_eq_getElem h]
  rfl
theorem put_loop {l : List Int} {n : Int} (hl : l.length < 8796093022208) : ∀ (m i : Nat), i + m = l.length → Ev (fun k => gristmillref07_put.l0 k l n (i : Int)) (l.take i ++ putS n (l.drop i))
  | 0, i, hi => by
    obtain rfl : i = l.length := by omega
    rw [List.drop_length]
    refine Ev.step (f := fun _ => some _) (fun k => ?_) (Ev.now _)
    simp only [gristmillref07_put.l0]
    rw [if_neg (Int.lt_irrefl _), if_pos (by omega), if_pos (by omega)]
    simp only [Int.toNat_natCast, List.drop_length, List.take_length, Option.bind_some, List.length_nil, List.nil_append, List.append_nil, List.length_append, List.length_singleton]
    rw [if_pos (by omega), if_pos (by omega), if_pos (by omega)]
    rfl
  | m + 1, i, hi => by
    have hlt : i < l.length := by omega
    have e : l.drop i = l[i] :: l.drop (i + 1) := List.drop_eq_getElem_cons hlt
    rw [e]
    unfold putS
    by_cases h1 : l[i] < n
    · rw [if_pos h1]
      have ih := put_loop (n := n) hl m (i + 1) (by omega)
      have e2 : l.take i ++ l[i] :: putS n (l.drop (i + 1)) = l.take (i + 1) ++ putS n (l.drop (i + 1)) := by
        rw [List.take_succ_eq_append_getElem hlt, List.append_assoc]; rfl
      rw [e2]
      refine Ev.step (fun k => ?_) ih
      simp only [gristmillref07_put.l0]
      rw [if_pos (by omega), if_pos (by omega), rdI_is hlt, if_pos h1, wrap_next hlt (by omega)]
    · rw [if_neg h1]
      by_cases h2 : l[i] = n
      · rw [if_pos h2, ← e, List.take_append_drop]
        refine Ev.step (f := fun _ => some _) (fun k => ?_) (Ev.now _)
        simp only [gristmillref07_put.l0]
        rw [if_pos (by omega), if_pos (by omega), rdI_is hlt, if_neg h1, if_pos h2]
      · rw [if_neg h2, ← e]
        refine Ev.step (f := fun _ => some _) (fun k => ?_) (Ev.now _)
        simp only [gristmillref07_put.l0]
        rw [if_pos (by omega), if_pos (by omega), rdI_is hlt, if_neg h1, if_neg h2, if_pos (by omega)]
        simp only [Int.toNat_natCast, Option.bind_some, List.length_nil, List.nil_append, List.length_append, List.length_singleton, List.length_take, List.length_drop]
        rw [if_pos (by omega), if_pos (by omega), if_pos (by omega), List.append_assoc]
        rfl
theorem put_ev {l : List Int} (n : Int) (hl : l.length < 8796093022208) : Ev (fun k => gristmillref07_put.f k l n) (putS n l) := by
  have := put_loop (n := n) hl l.length 0 (by omega)
  rw [List.take_zero, List.drop_zero, List.nil_append] at this
  exact this
theorem edges_loop {l : List S26} (hl : l.length < 4000000000000) : ∀ (m i : Nat) (acc : List Int), i + m = l.length → acc.length ≤ 2 * i → Ev (fun k => gristmillref07_Edges.l0 k l acc (i : Int)) (edgesF acc (l.drop i))
  | 0, i, acc, hi, ha => by
    obtain rfl : i = l.length := by omega
    rw [List.drop_length]
    refine Ev.step (f := fun _ => some _) (fun k => ?_) (Ev.now _)
    simp only [gristmillref07_Edges.l0]
    rw [if_neg (Int.lt_irrefl _)]
    rfl
  | m + 1, i, acc, hi, ha => by
    have hlt : i < l.length := by omega
    rw [List.drop_eq_getElem_cons hlt]
    have e : edgesF acc (l[i] :: l.drop (i + 1)) = edgesF (putS l[i].f1 (putS l[i].f0 acc)) (l.drop (i + 1)) := rfl
    rw [e]
    have h1 := putS_length l[i].f0 acc
    have h2 := putS_length l[i].f1 (putS l[i].f0 acc)
    have ih := edges_loop hl m (i + 1) (putS l[i].f1 (putS l[i].f0 acc)) (by omega) (by omega)
    refine Ev.step (f := fun k => (gristmillref07_put.f k acc l[i].f0).bind fun t => (gristmillref07_put.f k t l[i].f1).bind fun u => gristmillref07_Edges.l0 k l u ((i + 1 : Nat) : Int)) (fun k => ?_) ?_
    · simp only [gristmillref07_Edges.l0]
      rw [if_pos (by omega), if_pos (by omega), rd_is hlt, wrap_next hlt (by omega)]
    · refine Ev.bind (put_ev l[i].f0 (by omega)) ?_
      exact Ev.bind (put_ev l[i].f1 (by omega)) ih
theorem edges_ev {l : List S26} (hl : l.length < 4000000000000) : Ev (fun k => gristmillref07_Edges.f k l) (edgesS l) := edges_loop hl l.length 0 [] (by omega) (by simp)

/-! ### Parts -/
theorem parts_loop {a b : List S26} {e : List Int} (ha : a.length ≤ 8796093022208) (hb : b.length ≤ 8796093022208) (he : e.length < 8796093022208) : ∀ (m i : Nat) (out : List S26), i + m = e.length → out.length ≤ i → Ev (fun k => gristmillref07_Parts.l0 k a b e out (i : Int)) (partsL a b (e.drop i) out)
  | 0, i, out, hi, ho => by
    obtain rfl : i = e.length := by omega
    rw [List.drop_length]
    refine Ev.step (f := fun _ => some _) (fun k => ?_) (Ev.now _)
    simp only [gristmillref07_Parts.l0]
    rw [w64 (by unfold I64; omega), if_neg (by omega)]
    rfl
  | m + 1, i, out, hi, ho => by
    have hlt : i < e.length := by omega
    rw [List.drop_eq_getElem_cons hlt]
    rcases Nat.eq_zero_or_pos m with rfl | hm
    · have hi1 : e.drop (i + 1) = [] := List.drop_eq_nil_of_le (by omega)
      rw [hi1]
      refine Ev.step (f := fun _ => some _) (fun k => ?_) (Ev.now _)
      simp only [gristmillref07_Parts.l0]
      rw [w64 (by unfold I64; omega), if_neg (by omega)]
      rfl
    · have hlt2 : i + 1 < e.length := by omega
      rw [List.drop_eq_getElem_cons hlt2]
      show Ev _ (partsL a b (e[i + 1] :: e.drop (i + 2)) (if anyS a e[i] && !anyS b e[i] then joinS out e[i] e[i + 1] else out))
      have hd : e[i + 1] :: e.drop (i + 2) = e.drop (i + 1) := (List.drop_eq_getElem_cons hlt2).symm
      rw [hd]
      have hskip : ∀ out' : List S26, Ev (fun k => gristmillref07_Parts.l0 k a b e out' ((i + 1 : Nat) : Int)) (partsL a b (e.drop (i + 1)) out') → Ev (fun k => gristmillref07_Parts.j1 k a b e out' (i : Int) true) (partsL a b (e.drop (i + 1)) out') := fun out' h => by
        refine Ev.step (fun k => ?_) h
        simp only [gristmillref07_Parts.j1]
        rw [if_pos trivial, wrap_next hlt (by omega)]
      refine Ev.step (f := fun k => (gristmillref07_Any.f k a e[i]).bind fun t => (gristmillref07_Any.f k b e[i]).bind fun u => if t = true then gristmillref07_Parts.j1 k a b e out (i : Int) u else gristmillref07_Parts.j1 k a b e out (i : Int) true) (fun k => ?_) ?_
      · simp only [gristmillref07_Parts.l0]
        rw [wrap_next hlt (by omega), if_pos (by omega), if_pos (by omega), if_pos (by omega), rdI_is hlt]
      refine Ev.bind (any_ev ha _) ?_
      refine Ev.bind (any_ev hb _) ?_
      cases hA : anyS a e[i] with
      | false =>
        rw [if_neg (by simp)]
        exact hskip out (parts_loop ha hb he m (i + 1) out (by omega) (by omega))
      | true =>
        cases hB : anyS b e[i] with
        | true =>
          rw [if_neg (by simp)]
          exact hskip out (parts_loop ha hb he m (i + 1) out (by omega) (by omega))
        | false =>
          rw [if_pos (by simp)]
          have hj := joinS_length out e[i] e[i + 1]
          have ih := parts_loop ha hb he m (i + 1) (joinS out e[i] e[i + 1]) (by omega) (by omega)
          refine Ev.step (fun k => ?_) ih
          simp only [gristmillref07_Parts.j1, if_true]
          rw [if_neg (by simp)]
          rcases nil_or_snoc out with rfl | ⟨o, q, rfl⟩
          · rw [if_neg (by simp), if_pos (by omega), if_pos (by omega), wrap_next hlt (by omega), if_pos (by omega), if_pos (by omega), if_pos (by simp), rdI_is hlt, rdI_is hlt2]
            rfl
          · have hlen : (o ++ [q]).length = o.length + 1 := by simp
            have hw : wrap64 (((o ++ [q]).length : Int) - 1) = (o.length : Int) := by rw [hlen, w64 (by unfold I64; omega)]; omega
            have hrd : rd_T26 (o ++ [q]) (o.length : Int) = q := by rw [rd_is (by simp)]; simp
            rw [if_pos (by rw [hlen]; omega), hw, if_pos (by omega), if_pos (by rw [hlen]; omega), if_pos (by omega), if_pos (by omega), hrd, wrap_next hlt (by omega), rdI_is hlt, rdI_is hlt2, joinS_snoc]
            by_cases hq : q.f1 = e[i]
            · rw [if_pos hq, if_pos (by omega), if_pos (by omega), if_pos hq, Int.toNat_natCast]
              have hset : (o ++ [q]).set o.length ⟨q.f0, e[i + 1]⟩ = o ++ [⟨q.f0, e[i + 1]⟩] := by simp
              rw [hset]
            · rw [if_neg hq, if_pos (by omega), if_pos (by omega), if_pos (by omega), if_neg hq]
theorem parts_ev {a b : List S26} (hl : a.length + b.length < 4000000000000) : Ev (fun k => gristmillref07_Parts.f k a b) (partsS a b) := by
  have he := edges_length (a ++ b) []
  rw [List.length_append, List.length_nil] at he
  unfold gristmillref07_Parts.f
  simp only [List.nil_append, List.length_nil, Option.bind_some]
  simp only [if_pos (show 0 + a.length < 8796093022208 by omega), if_pos (show a.length + b.length < 8796093022208 by omega)]
  refine Ev.bind (edges_ev (l := a ++ b) (by rw [List.length_append]; exact hl)) ?_
  have := parts_loop (a := a) (b := b) (e := edgesS (a ++ b)) (by omega) (by omega) (by unfold edgesS; omega) (edgesS (a ++ b)).length 0 [] (by omega) (by simp)
  rw [List.drop_zero] at this
  exact this

/-! ### The reference's Split -/
theorem refSplit_loop {g hi a : Int} (hh : -1152921504606846976 ≤ hi ∧ hi ≤ 1152921504606846976) (h1 : 1 ≤ g) (hg : g ≤ 1152921504606846976) : ∀ (n : Nat) (x : Int) (out : List S26), -1152921504606846976 ≤ x → x ≤ 1152921504606846976 → out.length + n = 1000 → Ev (fun k => gristmillref07_Split.l0 k g out x a hi) (splitR (splitL hi g n x out))
  | 0, x, out, hx, hx2, hn => by
    refine Ev.step (f := fun _ => some (splitR (splitL hi g 0 x out))) (fun k => ?_) (Ev.now _)
    simp only [gristmillref07_Split.l0, splitL]
    by_cases hlt : x < hi
    · rw [if_pos hlt, if_pos hlt, if_pos (by omega)]; rfl
    · rw [if_neg hlt, if_neg hlt]; rfl
  | n + 1, x, out, hx, hx2, hn => by
    by_cases hlt : x < hi
    · have hb := next_bd (t := x) (show 0 < g by omega)
      have hf := floor_bd (t := x) (show 0 < g by omega)
      have hN : nextS x g = floorS x g + g := rfl
      have ih := refSplit_loop (a := a) hh h1 hg n (min hi (nextS x g)) (out ++ [⟨x, min hi (nextS x g)⟩]) (by omega) (by omega) (by simp; omega)
      have e : splitL hi g (n + 1) x out = splitL hi g n (min hi (nextS x g)) (out ++ [⟨x, min hi (nextS x g)⟩]) := by
        simp only [splitL]
        rw [if_pos hlt]
      rw [e]
      refine Ev.step (fun k => ?_) ih
      simp only [gristmillref07_Split.l0]
      rw [if_pos hlt, if_neg (by omega), refBucket_is (by unfold I64; omega) (by unfold I64; omega)]
      simp only [Option.bind_some]
      have hbk : bucketS x g = floorS x g := bucket_floor (by omega) (by omega)
      rw [hbk, w64 (by unfold I64; omega), ← hN]
      by_cases h3 : nextS x g > hi
      · have : min hi (nextS x g) = hi := by omega
        rw [if_pos h3, if_pos (by omega), this]
      · have : min hi (nextS x g) = nextS x g := by omega
        rw [if_neg h3, if_pos (by omega), this]
    · refine Ev.step (f := fun _ => some (splitR (splitL hi g (n + 1) x out))) (fun k => ?_) (Ev.now _)
      simp only [gristmillref07_Split.l0, splitL]
      rw [if_neg hlt, if_neg hlt]; rfl
theorem refSplit_ev {a b g : Int} (ha : -1152921504606846976 ≤ a ∧ a ≤ 1152921504606846976) (hb : -1152921504606846976 ≤ b ∧ b ≤ 1152921504606846976) (hg : g ≤ 1152921504606846976) : Ev (fun k => gristmillref07_Split.f k a b g) (splitS ⟨a, b⟩ g) := by
  unfold gristmillref07_Split.f splitS
  by_cases h1 : g < 1
  · simp only [if_pos h1]
    exact Ev.now _
  · simp only [if_neg h1]
    have := refSplit_loop (a := a) hb (by omega) hg 1000 a [] ha.1 ha.2 rfl
    exact this

theorem covers_is (a b : S26) : grain_Covers.f a.f0 a.f1 b.f0 b.f1 = some (coversS a b) := by
  unfold grain_Covers.f grain_Empty.f coversS emptyS
  simp only [Option.bind_some]
  by_cases h : b.f0 ≥ b.f1
  · simp [h]
  · rw [if_neg (by simpa using h)]
    by_cases h2 : a.f0 ≤ b.f0
    · rw [if_pos h2]; simp [h, h2]
    · rw [if_neg h2]; simp [h, h2]

/-! ### The laws' first call -/
theorem awake_ev : Ev (fun k => gristmilllaw07_awake.f k) true := by
  unfold gristmilllaw07_awake.f
  have h1 : splitS ⟨3, 12⟩ 5 = ([⟨3, 5⟩, ⟨5, 10⟩, ⟨10, 12⟩], 0) := by kernel_rfl
  have h2 : minusS ⟨0, 10⟩ [⟨2, 3⟩, ⟨9, 20⟩] = [⟨0, 2⟩, ⟨3, 9⟩] := by kernel_rfl
  have h3 : bucketS 7 5 = 5 := by decide +kernel
  have h4 : bucketS (-1) 5 = -5 := by decide +kernel
  have e1 := split_ev (a := 3) (b := 12) (g := 5) (by unfold I64; omega) (by unfold I64; omega) (by unfold I64; omega)
  have e2 := minus_ev (a := 0) (b := 10) (l := [⟨2, 3⟩, ⟨9, 20⟩]) (by simp)
  rw [h1] at e1
  rw [h2] at e2
  refine Ev.bind e1 ?_
  refine Ev.bind e2 ?_
  simp only [bucket_is (t := 7) (g := 5) (by unfold I64; omega) (by unfold I64; omega), bucket_is (t := -1) (g := 5) (by unfold I64; omega) (by unfold I64; omega), h3, h4, Option.bind_some]
  exact Ev.now _
end Go.Proofs.Ytabmablgaifidaa.PGrain
