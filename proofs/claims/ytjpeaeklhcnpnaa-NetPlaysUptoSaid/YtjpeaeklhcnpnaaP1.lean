/- What was seen: the reference's rows and the program's rising lists tell the same. Plain. -/
import Derived.Test.YtjpeaeklhcnpnaaR2
namespace Go.Proofs.Ytjpeaeklhcnpnaa.K
set_option linter.unusedVariables false
set_option linter.unusedSimpArgs false
def pk (L : List (Int × Int)) (k : Int) : List Int := (L.filter fun x => decide (x.1 = k)).map Prod.snd
theorem mem_pk {L : List (Int × Int)} {k y : Int} : y ∈ pk L k ↔ (k, y) ∈ L := by
  unfold pk
  constructor
  · intro h
    obtain ⟨x, hx, rfl⟩ := List.mem_map.1 h
    obtain ⟨h1, h2⟩ := List.mem_filter.1 hx
    obtain ⟨a, b⟩ := x
    simp at h2
    subst h2
    exact h1
  · intro h
    exact List.mem_map.2 ⟨(k, y), List.mem_filter.2 ⟨h, by simp⟩, rfl⟩
theorem pk_len (L : List (Int × Int)) (k : Int) : (pk L k).length = cnt L k := by simp [pk, cnt]
theorem pk_perm {L L' : List (Int × Int)} (h : L.Perm L') (k : Int) : (pk L k).Perm (pk L' k) := (h.filter _).map _
theorem pk_cons (x : Int × Int) (L : List (Int × Int)) (k : Int) : pk (x :: L) k = if x.1 = k then x.2 :: pk L k else pk L k := by
  unfold pk
  rw [List.filter_cons]
  by_cases h : x.1 = k <;> simp [h]
theorem ins_perm (id : Int) : ∀ l : List Int, (ins id l).Perm (id :: l)
  | [] => List.Perm.refl _
  | x :: r => by
    unfold ins
    split
    · exact ((ins_perm id r).cons x).trans (List.Perm.swap _ _ _)
    · exact List.Perm.refl _
theorem erase_perm {α : Type} : ∀ (L : List α) (j : Nat) (hj : j < L.length), L.Perm (L[j] :: L.eraseIdx j)
  | x :: r, 0, _ => List.Perm.refl _
  | x :: r, j + 1, hj => ((erase_perm r j (by simpa using hj)).cons x).trans (List.Perm.swap _ _ _)
theorem set_perm {α : Type} (y : α) : ∀ (L : List α) (j : Nat), j < L.length → (L.set j y).Perm (y :: L.eraseIdx j)
  | x :: r, 0, _ => List.Perm.refl _
  | x :: r, j + 1, hj => ((set_perm y r j (by simpa using hj)).cons x).trans (List.Perm.swap _ _ _)
def Inv (most : Nat) (L : List (Int × Int)) (M : Int → List Int) : Prop := Rises most M ∧ ∀ k, (pk L k).Perm (M k)
theorem inv_start (most : Nat) : Inv most [] (fun _ => []) := ⟨fun k => ⟨List.Pairwise.nil, Nat.zero_le _⟩, fun k => List.Perm.refl _⟩
theorem step_law {most : Nat} {L L' : List (Int × Int)} {M : Int → List Int} {fr id : Int} {r : Bool} (h : Inv most L M) (hm : 1 ≤ most) (hs : RefStep most L fr id r L') :
    r = freshB most (M fr) id ∧ Inv most L' (if freshB most (M fr) id then setM M fr (freshL most (M fr) id) else M) ∧ L'.length ≤ L.length + 1 := by
  obtain ⟨hR, hP⟩ := h
  have hmem : ∀ y, (fr, y) ∈ L ↔ y ∈ M fr := fun y => mem_pk.symm.trans (hP fr).mem_iff
  have hlen : cnt L fr = (M fr).length := (pk_len L fr).symm.trans (hP fr).length_eq
  rcases hs with ⟨h1, rfl, rfl⟩ | ⟨h1, h2, j, hj, hjf, hjl, h3⟩ | ⟨h1, h2, rfl, rfl⟩
  · have hb : freshB most (M fr) id = false := by simp [freshB, (hmem id).1 h1]
    rw [hb]
    exact ⟨rfl, ⟨hR, hP⟩, Nat.le_succ _⟩
  · have h1' : id ∉ M fr := fun h => h1 ((hmem id).2 h)
    have hjm : L[j].2 ∈ M fr := (hmem _).1 (by rw [← hjf]; exact List.getElem_mem hj)
    have hjl' : ∀ y ∈ M fr, L[j].2 ≤ y := fun y hy => hjl (fr, y) ((hmem y).2 hy) rfl
    rcases h3 with ⟨h3, rfl, rfl⟩ | ⟨h3, rfl, rfl⟩
    · have hb : freshB most (M fr) id = false := by
        simp only [freshB, h1', not_false_eq_true, decide_true, Bool.true_and, hlen.symm.trans h2]
        rw [show ((M fr).all fun x => decide (id ≤ x)) = true from List.all_eq_true.2 fun y hy => decide_eq_true (by have := hjl' y hy; omega)]
        rfl
      rw [hb]
      exact ⟨rfl, ⟨hR, hP⟩, Nat.le_succ _⟩
    · have hb : freshB most (M fr) id = true := by
        simp only [freshB, h1', not_false_eq_true, decide_true, Bool.true_and, Bool.not_eq_true', Bool.and_eq_false_iff]
        exact .inr (Bool.eq_false_iff.2 fun h => h3 (by
          have h4 := of_decide_eq_true ((List.all_eq_true.1 h) _ hjm)
          rcases Int.lt_or_eq_of_le h4 with h5 | h5
          · exact h5
          · exact absurd (h5 ▸ hjm) h1'))
      rw [hb]
      refine ⟨rfl, ⟨rises_fresh hR fr id hb, fun k => ?_⟩, by rw [List.length_set]; exact Nat.le_succ _⟩
      simp only [if_true]
      have p1 : L.Perm (L[j] :: L.eraseIdx j) := erase_perm L j hj
      have p2 : (L.set j (fr, id)).Perm ((fr, id) :: L.eraseIdx j) := set_perm _ L j hj
      have q1 := pk_perm p1 k
      have q2 := pk_perm p2 k
      rw [pk_cons] at q1 q2
      by_cases e : k = fr
      · subst e
        rw [if_pos hjf] at q1
        simp only [if_true] at q2
        simp only [setM, if_true]
        have hne : (M k).length = most := hlen.symm.trans h2
        have hcut : most < (M k).length + 1 := by omega
        unfold freshL
        rw [if_pos hcut]
        obtain ⟨m0, rest, hmr⟩ : ∃ m0 rest, M k = m0 :: rest := by
          cases hM : M k with
          | nil => rw [hM] at hne; simp at hne; omega
          | cons a t => exact ⟨a, t, rfl⟩
        have hrise := (hR k).1
        rw [hmr] at hrise hjm hjl'
        have hj0 : L[j].2 = m0 := by
          have a1 := hjl' m0 List.mem_cons_self
          rcases List.mem_cons.1 hjm with a2 | a2
          · exact a2
          · have := (List.pairwise_cons.1 hrise).1 _ a2; omega
        have hlt : m0 < id := by
          have : m0 ≠ id := fun e => h1' (by rw [hmr, e]; exact List.mem_cons_self)
          omega
        have q3 : (pk (L.eraseIdx j) k).Perm rest := by
          have := q1.symm.trans (hP k)
          rw [hmr, hj0] at this
          exact this.cons_inv
        rw [hmr]
        simp only [ins, hlt, if_true, List.drop_succ_cons, List.drop_zero]
        exact (q2.trans (q3.cons id)).trans (ins_perm id rest).symm
      · simp only [setM, if_neg e]
        rw [if_neg (fun h => e (h.symm.trans hjf))] at q1
        rw [if_neg (fun h => e h.symm)] at q2
        exact (q2.trans q1.symm).trans (hP k)
  · have h1' : id ∉ M fr := fun h => h1 ((hmem id).2 h)
    have hne : (M fr).length ≠ most := fun e => h2 (hlen.trans e)
    have hb : freshB most (M fr) id = true := by simp [freshB, h1', hne]
    rw [hb]
    refine ⟨rfl, ⟨rises_fresh hR fr id hb, fun k => ?_⟩, by simp⟩
    simp only [if_true]
    have q := pk_perm (List.perm_append_comm (l₁ := L) (l₂ := [(fr, id)])) k
    rw [List.singleton_append, pk_cons] at q
    by_cases e : k = fr
    · subst e
      simp only [if_true] at q
      simp only [setM, if_true]
      have hle := (hR k).2
      unfold freshL
      rw [if_neg (by omega)]
      exact (q.trans ((hP k).cons id)).trans (ins_perm id (M k)).symm
    · rw [if_neg (fun h => e h.symm)] at q
      simp only [setM, if_neg e]
      exact q.trans (hP k)
end Go.Proofs.Ytjpeaeklhcnpnaa.K
