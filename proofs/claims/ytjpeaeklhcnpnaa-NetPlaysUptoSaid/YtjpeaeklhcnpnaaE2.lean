/- gristmillref01.Uint, Int and Text by contracts. No condition. -/
import Derived.Test.YtjpeaeklhcnpnaaE1
namespace Go.Proofs.Ytjpeaeklhcnpnaa.K
open Go.RowKit Go.Lib
set_option linter.unusedVariables false
set_option linter.unusedSimpArgs false
/-- The bytes of a number from 0 on. -/
def uintF : Nat → Nat → List Value
  | 0, n => [.int .u8 ((n % 128 : Nat) : Int)]
  | f + 1, n => if n < 128 then [.int .u8 (n : Int)] else .int .u8 ((n % 128 + 128 : Nat) : Int) :: uintF f (n / 128)
def uintV (n : Nat) : List Value := uintF 10 n
theorem uintF_len : ∀ f n, 0 < (uintF f n).length ∧ (uintF f n).length ≤ f + 1
  | 0, n => by simp [uintF]
  | f + 1, n => by
    unfold uintF
    by_cases h : n < 128
    · simp [h]
    · have := uintF_len f (n / 128)
      simp [h]
      omega
theorem uintV_len (n : Nat) : 0 < (uintV n).length ∧ (uintV n).length ≤ 11 := uintF_len 10 n
/-- The bytes of a number. -/
def intV (n : Int) : List Value := if 0 ≤ n then uintV (2 * n).toNat else uintV (2 * (-(n + 1)) + 1).toNat
theorem intV_len (n : Int) : 0 < (intV n).length ∧ (intV n).length ≤ 11 := by
  unfold intV
  split
  · exact uintV_len _
  · exact uintV_len _
theorem bb_one (w : World) (u : Value) (hu : ∃ n : Int, u = .int .u8 n) {base : Nat} (hb : base ≤ w.heap.size) : BB (w.alloc (.cells #[u] 5)) base (.slice (some ⟨w.heap.size, 0, none⟩) 1 1) [u] :=
  ⟨⟨rfl, .inr ⟨w.heap.size, 1, #[u], rfl, hb, blk_new w _, Nat.le_refl _, by decide, rfl, rfl⟩⟩, fun x hx => by rw [List.mem_singleton.1 hx]; exact hu⟩
theorem BS.made {w0 w : World} {A : Option Addr} {n c : Nat} {bs : List Value} {gb : Option Nat} {obj : Obj} (h : BS w0 w w0.heap.size (.slice none 0 0) (.slice A n c) bs gb obj) : Made w0 bs (.returned (.slice A n c)) w :=
  ⟨A, n, c, rfl, h.own, h.chg.below (Nat.le_refl _) (fun k hk => by cases hk)⟩
theorem BS.empty (w : World) (obj : Obj) : BS w w w.heap.size (.slice none 0 0) (.slice none 0 0) [] none obj := BS.start (BB.nil _ _) (Nat.le_refl _) obj
set_option maxHeartbeats 4000000 in
set_option maxRecDepth 100000 in
theorem uint_any (n : Nat) (hn : n ≤ 18446744073709551615) (w : World) : Calls Try.prog 59 #[.int .u64 n] w (Made w (uintV n)) := by
  have H0 := Aside.mk (BS.empty w (.cells #[] 5))
  have HN : Aside (n < 128 ^ 11) := ⟨by have : (128 : Nat) ^ 11 = 151115727451828646838272 := by decide
                                        omega⟩
  go_enter Try.func59, Try.ntmps59
  go_wp2
  go_loopw [0, 3] (fun v0 v3 wr => ∃ (f m : Nat) (pre : List Value) (A : Option Addr) (k c : Nat), v0 = .int .u64 m ∧ m ≤ 18446744073709551615 ∧ v3 = .slice A k c ∧ Aside (m < 128 ^ (f + 1)) ∧ Aside (uintV n = pre ++ uintF f m) ∧ Aside (pre.length + f ≤ 10) ∧ Aside (BS w wr w.heap.size (.slice none 0 0) (.slice A k c) pre none (.cells #[] 5))) (fun v0 _ _ => (intOf v0).toNat)
  case atStart => exact ⟨10, n, [], none, 0, 0, rfl, hn, rfl, HN, ⟨rfl⟩, ⟨by simp⟩, H0⟩
  case round =>
    obtain ⟨f, m, pre, A, k, c, rfl, hm, rfl, HM, HE, HL, HS⟩ := hrel
    have htm : ((m : Int).tmod 128) = ((m % 128 : Nat) : Int) := (Int.ofNat_tmod m 128).symm
    have htd : ((m : Int).tdiv 128) = ((m / 128 : Nat) : Int) := (Int.ofNat_tdiv m 128).symm
    have hw8 : IntKind.u8.wrap ((m % 128 : Nat) : Int) = ((m % 128 : Nat) : Int) := by simp [IntKind.wrap, IntKind.bits, IntKind.signed]; omega
    have hw8b : IntKind.u8.wrap (((m % 128 : Nat) : Int) + 128) = ((m % 128 + 128 : Nat) : Int) := by simp [IntKind.wrap, IntKind.bits, IntKind.signed]; omega
    have hlen : Aside (pre.length + 1 ≤ 140737488355328) := ⟨by have := HL.out; omega⟩
    by_cases h : m < 128
    · have h0 : m / 128 = 0 := Nat.div_eq_of_lt h
      have hq : m % 128 = m := Nat.mod_eq_of_lt h
      have HF : Aside (uintF f m = [.int .u8 ((m : Nat) : Int)]) := ⟨by cases f <;> simp [uintF, h, hq]⟩
      rw [h0] at htd
      rw [hq] at htm hw8
      have HP : Aside (BS w (wr.alloc (.cells #[.int .u8 (m : Int)] 5)) w.heap.size (.slice none 0 0) (.slice A k c) pre none (.cells #[] 5)) := ⟨HS.out.call (below_alloc (Below.refl _ _) _)⟩
      have HY := Aside.mk (bb_one wr (.int .u8 (m : Int)) ⟨_, rfl⟩ (Nat.le_refl _))
      clear h0 hq hw8b
      go_wp2_with (refine wpList_append_bb rfl _ _ rfl (by rfl) (by rfl) HP.out HY.out (Nat.zero_lt_succ 0) hlen.out ?_; intro A' n' c' w' hO; have HO := Aside.mk hO; clear hO)
      go_ret
      have := HO.out.made
      rw [← HF.out, ← HE.out] at this
      exact this
    · have h0 : ¬ m / 128 = 0 := by omega
      have h0' : (((m / 128 : Nat) : Int) == 0) = false := by rw [beq_eq_false_iff_ne]; omega
      have HP : Aside (BS w (wr.alloc (.cells #[.int .u8 ((m % 128 + 128 : Nat) : Int)] 5)) w.heap.size (.slice none 0 0) (.slice A k c) pre none (.cells #[] 5)) := ⟨HS.out.call (below_alloc (Below.refl _ _) _)⟩
      have HY := Aside.mk (bb_one wr (.int .u8 ((m % 128 + 128 : Nat) : Int)) ⟨_, rfl⟩ (Nat.le_refl _))
      have hf : Aside (∃ f', f = f' + 1) := ⟨by
        cases f with
        | zero => have := HM.out; omega
        | succ f' => exact ⟨f', rfl⟩⟩
      obtain ⟨f', rfl⟩ := hf.out
      have HE' : Aside (uintV n = (pre ++ [.int .u8 ((m % 128 + 128 : Nat) : Int)]) ++ uintF f' (m / 128)) := ⟨by rw [HE.out]; simp [uintF, h]⟩
      have HM' : Aside (m / 128 < 128 ^ (f' + 1)) := ⟨by have := HM.out; rw [Nat.pow_succ] at this; exact (Nat.div_lt_iff_lt_mul (by decide)).2 this⟩
      have HL' : Aside ((pre ++ [Value.int .u8 ((m % 128 + 128 : Nat) : Int)]).length + f' ≤ 10) := ⟨by rw [List.length_append, List.length_singleton]; have := HL.out; omega⟩
      generalize hqq : m % 128 + 128 = q at *
      generalize hrr : m % 128 = r at *
      generalize hmm : m / 128 = m2 at *
      clear hqq hrr
      clear hf h0
      go_wp2_with (refine wpList_append_bb rfl _ _ rfl (by rfl) (by rfl) HP.out HY.out (Nat.zero_lt_succ 0) hlen.out ?_; intro A' n' c' w' hO; have HO := Aside.mk hO; clear hO)
      go_round
      case rel => exact ⟨f', m2, _, A', n', c', rfl, by omega, rfl, HM', HE', HL', HO⟩
      case measure => simp only [intOf]; omega
set_option maxHeartbeats 4000000 in
set_option maxRecDepth 100000 in
theorem int_any (n : Int) (hn : (Lit.int .i64 n).wf = true) (w : World) : Calls Try.prog 58 #[.int .i64 n] w (Made w (intV n)) := by
  have hb : -9223372036854775808 ≤ n ∧ n ≤ 9223372036854775807 := by
    simp only [Lit.wf, Bool.and_eq_true, decide_eq_true_eq] at hn
    exact hn
  by_cases h : 0 ≤ n
  · obtain ⟨m, rfl⟩ := Int.eq_ofNat_of_zero_le h
    have e : intV (m : Int) = uintV (2 * m) := by unfold intV; rw [if_pos h]; congr 1
    have HU := Aside.mk (uint_any (2 * m) (by omega) w)
    rw [← e] at HU
    have h1 : IntKind.u64.wrap (m : Int) = m := by rw [IntKind.wrap_u64]; omega
    have h2 : IntKind.u64.wrap (2 * (m : Int)) = ((2 * m : Nat) : Int) := by rw [IntKind.wrap_u64]; omega
    generalize 2 * m = q at HU h2
    clear e hn hb
    go_enter Try.func58, Try.ntmps58
    go_wp2_with (go_at_call 59; refine HU.out.mono ?_; rintro e w1 ⟨A, k, c, rfl, hO, hbw⟩; have HO := Aside.mk (And.intro hO hbw); clear hO hbw)
    go_ret
    exact ⟨A, k, c, rfl, HO.out⟩
  · obtain ⟨m, hm⟩ : ∃ m : Nat, -(n + 1) = (m : Int) := ⟨(-(n + 1)).toNat, by omega⟩
    have e : intV n = uintV (2 * m + 1) := by unfold intV; rw [if_neg h, hm]; congr 1
    have HU := Aside.mk (uint_any (2 * m + 1) (by omega) w)
    rw [← e] at HU
    have h0 : IntKind.i64.wrap (n + 1) = n + 1 := by rw [IntKind.wrap_i64]; omega
    have h3 : IntKind.i64.wrap (-(n + 1)) = (m : Int) := by rw [hm, IntKind.wrap_i64]; omega
    have h1 : IntKind.u64.wrap (m : Int) = m := by rw [IntKind.wrap_u64]; omega
    have h2 : IntKind.u64.wrap (2 * (m : Int)) = ((2 * m : Nat) : Int) := by rw [IntKind.wrap_u64]; omega
    obtain ⟨p, hp⟩ : ∃ p, 2 * m = p := ⟨_, rfl⟩
    rw [hp] at h2 HU
    have h4 : IntKind.u64.wrap ((p : Int) + 1) = ((p + 1 : Nat) : Int) := by rw [IntKind.wrap_u64]; omega
    generalize p + 1 = q at HU h4
    clear e hn hb hm hp
    go_enter Try.func58, Try.ntmps58
    go_wp2_with (go_at_call 59; refine HU.out.mono ?_; rintro e w1 ⟨A, k, c, rfl, hO, hbw⟩; have HO := Aside.mk (And.intro hO hbw); clear hO hbw)
    go_ret
    exact ⟨A, k, c, rfl, HO.out⟩
theorem strCells_byte (s : ByteArray) : ∀ u ∈ strCells s, ∃ n : Int, u = .int .u8 n := by
  intro u hu
  simp only [strCells, List.mem_map] at hu
  obtain ⟨b, _, rfl⟩ := hu
  exact ⟨_, rfl⟩
/-- The bytes of a text. -/
def textV (s : ByteArray) : List Value := uintV s.size ++ strCells s
theorem textV_len (s : ByteArray) : 0 < (textV s).length ∧ (textV s).length ≤ s.size + 11 := by
  unfold textV
  rw [List.length_append, strCells_length]
  have := uintV_len s.size
  omega
set_option maxHeartbeats 4000000 in
set_option maxRecDepth 100000 in
theorem text_any (s : ByteArray) (hs : s.size + 11 ≤ 140737488355328) (w : World) : Calls Try.prog 75 #[.string s] w (Made w (textV s)) := by
  have HU := Aside.mk (uint_any s.size (by omega) w)
  have hl := (uintV_len s.size).2
  have HL : Aside ((uintV s.size).length + s.size ≤ 140737488355328) := ⟨by omega⟩
  have h1 : IntKind.u64.wrap (s.size : Int) = s.size := by rw [IntKind.wrap_u64]; omega
  obtain ⟨i0, hi, hzz⟩ := Option.map_eq_some_iff.1 info5
  simp only [Prod.mk.injEq] at hzz
  obtain ⟨hz0, hz1, hz2⟩ := hzz
  have HI := Aside.mk (And.intro hi (And.intro hz0 (And.intro hz1 hz2)))
  clear hl hi hz0 hz1 hz2
  go_enter Try.func75, Try.ntmps75
  go_wp2_with (first
    | (go_at_call 59; refine HU.out.mono ?_; rintro e w1 ⟨A, k, c, rfl, hO, hbw⟩; have HO := Aside.mk hO; have HB := Aside.mk hbw; clear hO hbw)
    | (refine wpList_append_own_string _ rfl _ _ 91 9 rfl w.heap.size 5 i0 und91 und9 HI.out.1 HI.out.2.1 HI.out.2.2.1 HI.out.2.2.2 (.slice A k c) (uintV s.size).length (uintV s.size) (by rfl) HO.out.row s (by rfl) (by have := HL.out; simp only [maxLen]; omega) HL.out HB.out.size ?_; intro v' w' hO' hgr _; have HE := Aside.mk (And.intro hO' hgr); clear hO' hgr))
  go_ret
  have hr : w'.ownsRow w.heap.size 5 1 v' (textV s).length (textV s) := by unfold textV; rw [List.length_append, strCells_length]; exact HE.out.1
  obtain ⟨A', n', c', rfl⟩ : ∃ A' n' c', v' = .slice A' n' c' := by
    rcases hr.2 with ⟨rfl, _⟩ | ⟨g', cap', cur', rfl, _⟩
    · exact ⟨_, _, _, rfl⟩
    · exact ⟨_, _, _, rfl⟩
  exact ⟨A', n', c', rfl, ⟨hr, fun u hu => (List.mem_append.1 hu).elim (HO.out.one u) (strCells_byte s u)⟩, HB.out.grown HE.out.2 HB.out.size (fun k hk => (HO.out.lt k hk).1)⟩
end Go.Proofs.Ytjpeaeklhcnpnaa.K
