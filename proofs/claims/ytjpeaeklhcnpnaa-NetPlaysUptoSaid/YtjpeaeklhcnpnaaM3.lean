/- NetPlays walked: every script of which each message may be put. No condition but small numbers. -/
import Derived.Test.YtjpeaeklhcnpnaaM2
import Derived.Test.YtjpeaeklhcnpnaaE8
namespace Go.Proofs.Ytjpeaeklhcnpnaa.K
open Go.RowKit
set_option linter.unusedVariables false
set_option linter.unusedSimpArgs false
/-- A guarded load whose guard says yes. -/
theorem wpList_load_midG {P : Program} {ops : Array Oper} {rest : List Oper} {op : Oper} {a : Act} {w : World} {Q : Exit → Act → World → Prop} (hw : Region.wanted op (yielded ops a.tmps) = true) (ty : TypeId) (x : Operand) (ho : op.op = .load ty x)
    (b o : Nat) (hx : a.eval x = .pointer (some ⟨b, o, none⟩)) (cs : List Value) (d : TypeDesc) (hc : w.rangeAt b o cs)
    (hu : P.underlying ty = some d) (hd : d.isRow = true) (hi : (P.info? ty).map (·.size) = some cs.length)
    (h : wpList P ops Q rest (a.put op.dst (.agg cs.toArray)) w) : wpList P ops Q (op :: rest) a w :=
  BigFrame.wpList_want hw fun _ hK => wp_load_mid ty x ho b o hx cs d hc hu hd hi (hK _ _ h)
/-- The nets beside an op in its box. -/
structure PBox (w : World) (nb rb i : Nat) (F G : Nat → Prop) (ms : List Msg) (last : Int) (V : World) (ob : Nat) (x : Op) (mcs fcs : List Value) : Prop where
  at_ : PAt w nb rb i F G ms last V
  box : MBox w.heap.size V ob x mcs fcs
  oF : ¬ F ob
  oG : ¬ G ob
  on : ob ≠ nb
  or_ : ob ≠ rb
section
variable {w wo V W w4 w5 : World} {nb rb i ob : Nat} {F G F' G' : Nat → Prop} {ms ms' : List Msg} {last last' : Int} {x : Op} {mcs fcs : List Value}
theorem PBox.later (h : PBox w nb rb i F G ms last V ob x mcs fcs) (hc : Chg V W NoF) : PBox w nb rb i F G ms last W ob x mcs fcs :=
  ⟨h.at_.later hc, h.box.chg hc (fun h => h) (fun _ _ h => h), h.oF, h.oG, h.on, h.or_⟩
theorem p_box (h : PAt w nb rb i F G ms last wo) (hb : MBox w.heap.size V wo.heap.size x mcs fcs) (hB : Below wo.heap.size wo V) : PBox w nb rb i F G ms last V wo.heap.size x mcs fcs := by
  have t1 := h.net.lt
  have t2 := h.ref.lt
  exact ⟨h.later (Chg.of_below hB _), hb, fun hf => by have := (h.hF _ hf).2.2.2; omega, fun hg => by have := (h.hG _ hg).2.2; omega, by omega, by omega⟩
theorem PBox.did (h : PBox w nb rb i F G ms last V ob x mcs fcs) (hd : Did V nb F ms' last' w4) : MBox w.heap.size w4 ob x mcs fcs := by
  have hn := h.at_.hn
  exact h.box.chg hd.chg (fun hh => hh.elim h.oF h.on) (fun k hk hh => hh.elim (fun hf => by have := (h.at_.hF k hf).1; omega) (fun e => by omega))
theorem PBox.mid (h : PBox w nb rb i F G ms last V ob x mcs fcs) (hb : MBox w.heap.size w4 ob x mcs fcs) (hc : Chg w4 w5 (fun k => G k ∨ k = rb)) : MBox w.heap.size w5 ob x mcs fcs := by
  have hr := h.at_.ref.hb
  exact hb.chg hc (fun hh => hh.elim h.oG h.or_) (fun k hk hh => hh.elim (fun hg => by have := (h.at_.hG k hg).1; omega) (fun e => by omega))
theorem PBox.mid1 (h : PBox w nb rb i F G ms last V ob x mcs fcs) (hb : MBox w.heap.size w4 ob x mcs fcs) (hc : Chg w4 w5 (fun k => k = rb)) : MBox w.heap.size w5 ob x mcs fcs := h.mid hb (hc.mono fun k _ hk => .inr hk)
theorem PLoop.later (h : PLoop w nb rb i V) (hc : Chg V W NoF) : PLoop w nb rb i W := by
  obtain ⟨F, G, ms, last, h⟩ := h
  exact (h.later hc).loop
theorem PLoop.below (h : PLoop w nb rb i V) : Below w.heap.size w V := by
  obtain ⟨F, G, ms, last, h⟩ := h
  exact PAt.below h
theorem PAt.ref0 (h : PAt w nb rb i F G ms last V) : ∃ A c, V.cell? ⟨rb, 0, none⟩ = some (.slice A ms.length c) := by
  obtain ⟨⟨A, c, h1, _⟩, _, _⟩ := h.ref
  exact ⟨A, c, (blk_cell h1 0).trans rfl⟩
/-- A message in its box. -/
theorem msg_box {y : Msg} {cs : List Value} (hV : (W.alloc (.cells mZ 54)).setCells W.heap.size 0 cs = V) (h : kMsg.K W F y cs) : V.rangeAt W.heap.size 0 cs ∧ kMsg.K V F y cs ∧ Below W.heap.size W V ∧ W.heap.size < V.heap.size := by
  obtain ⟨_, _, hb, hl⟩ := box_told hV (told_of h)
  subst hV
  exact ⟨World.rangeAt_setCells_same _ _ _ _ (there_blk (blk_new W _) rfl (kMsg.len h)), Kd.below h hb, hb, hl⟩
/-- Two messages in boxes. -/
structure Two (V : World) (z1 z2 : Nat) (y : Msg) (cs1 cs2 : List Value) : Prop where
  r1 : V.rangeAt z1 0 cs1
  r2 : V.rangeAt z2 0 cs2
  k1 : kMsg.K V Any y cs1
  k2 : kMsg.K V Any y cs2
theorem range_below {z : Nat} {cs : List Value} (h : V.rangeAt z 0 cs) (hz : z < V.heap.size) (hb : Below V.heap.size V W) : W.rangeAt z 0 cs := range_move h (hb.block z hz)
theorem two_peek {V1 V2 w3 : World} {y : Msg} {cs1 cs2 : List Value} (hK1 : kMsg.K w3 Any y cs1) (hV1 : (w3.alloc (.cells mZ 54)).setCells w3.heap.size 0 cs1 = V1) (hb5 : Below V1.heap.size V1 w5) (hK2 : kMsg.K w5 Any y cs2) (hV2 : (w5.alloc (.cells mZ 54)).setCells w5.heap.size 0 cs2 = V2) :
    Two V2 w3.heap.size w5.heap.size y cs1 cs2 ∧ Below V1.heap.size V1 V2 := by
  obtain ⟨a1, a2, a3, a4⟩ := msg_box hV1 hK1
  obtain ⟨b1, b2, b3, b4⟩ := msg_box hV2 hK2
  have hb := below_self hb5 b3
  exact ⟨⟨range_below a1 a4 hb, b1, Kd.below a2 hb, b2⟩, hb⟩
theorem two_deliver {V6 w7 W8 w9 : World} {y : Msg} {cs1 cs2 : List Value} (hr : rb < V.heap.size) (hs : V.heap.size ≤ w5.heap.size) (hK1 : kMsg.K w5 (New V) y cs1) (hV1 : (w5.alloc (.cells mZ 54)).setCells w5.heap.size 0 cs1 = V6) (hb7 : Below V6.heap.size V6 w7) (hK2 : kMsg.K w7 (fun k => k ≠ rb) y cs2) (hV2 : (w7.alloc (.cells mZ 54)).setCells w7.heap.size 0 cs2 = W8) (hc : Chg W8 w9 (fun k => k = rb)) :
    Two w9 w5.heap.size w7.heap.size y cs1 cs2 := by
  obtain ⟨a1, a2, a3, a4⟩ := msg_box hV1 hK1
  obtain ⟨b1, b2, b3, b4⟩ := msg_box hV2 hK2
  have hb := below_self hb7 b3
  have s1 := hb7.size
  have c1 := range_below a1 a4 hb
  have c2 := Kd.below a2 hb
  have s2 := b3.size
  exact ⟨range_move c1 (hc.block _ (by omega) (by omega)), range_move b1 (hc.block _ (by omega) (by omega)), Kd.any (kMsg.move (fun k (hk : V.heap.size ≤ k) hl => hc.block k hl (by omega)) c2), Kd.any (kMsg.move (fun k (hk : k ≠ rb) hl => hc.block k hl hk) b2)⟩
end
set_option maxHeartbeats 16000000 in
set_option maxRecDepth 100000 in
theorem netPlays_any (w : World) (xs : List Op) (A : Option Addr) (n c : Nat) (hx : (Kd.slice 480 kOp).K w Any xs [.slice A n c]) (hsm : ∀ x ∈ xs, (putV x.M).length + 200 ≤ 140737488355328) :
    Calls Try.prog 3 #[.slice A n c] w fun e w' => e = .returned (.bool true) ∧ Below w.heap.size w w' := by
  obtain ⟨A', c', he, hc, hb, hC⟩ := hx
  simp only [List.cons.injEq, and_true] at he
  injection he with e1 e2 e3
  subst e1 e2 e3
  have HC := Aside.mk hC
  have HS := Aside.mk hsm
  clear hC hsm
  go_enter Try.func3, Try.ntmps3
  go_wp2_with fail
  refine (awake_any w).mono ?_
  rintro e w1 ⟨rfl, hB1⟩
  have HB1 := Aside.mk hB1
  clear hB1
  go_wp2_with fail
  refine (new_any w1).mono ?_
  rintro e w2 ⟨rfl, hN, hB2⟩
  have HN2 := Aside.mk hN
  have HB2 := Aside.mk hB2
  clear hN hB2
  go_wp2_with fail
  go_loopw [6] (fun v6 wr => ∃ i : Nat, i ≤ xs.length ∧ i ≤ 100 ∧ v6 = .int .i64 i ∧ Aside (PLoop w w1.heap.size w2.heap.size i wr)) (fun v6 _ => xs.length - (intOf v6).toNat)
  case atStart => exact ⟨0, Nat.zero_le _, Nat.zero_le _, rfl, ⟨p_begin HB1.out HN2.out HB2.out⟩⟩
  case round =>
    obtain ⟨i, hi, hi2, rfl, HR⟩ := hrel
    obtain ⟨wo, rfl⟩ : ∃ wo : World, wo = wr := ⟨_, rfl⟩
    clear HN2 HB2 HB1
    generalize w2.heap.size = rb at *
    generalize w1.heap.size = nb at *
    by_cases hlt : i < xs.length ∧ i < 100
    · obtain ⟨hlt1, hlt2⟩ := hlt
      have hi9 : i ≤ 100 := hi2
      obtain ⟨F, G, ms, last, hP⟩ := HR.out
      obtain ⟨b0, o0, cs, rfl, hO⟩ := opM_row HC.out hP.below hlt1
      have hxs := HS.out _ (List.getElem_mem hlt1)
      obtain ⟨x, hx⟩ : ∃ x, xs[i] = x := ⟨_, rfl⟩
      rw [hx] at hO hxs
      have HO := Aside.mk hO
      have HP := Aside.mk hP
      have HX := Aside.mk hxs
      clear hP hO hx HR hxs
      go_upto_region 10 with (first
        | (refine wpList_load_mid rfl 56 (.tmp 36) (by rfl) b0 (o0 + i * 44) (by rfl) cs _ HO.out.at_ Try.underlying56 rfl (jj56 HO.out.len) ?_)
        | (refine wpList_store_mid rfl 56 (.tmp 7) (.tmp 37) (by rfl) wo.heap.size 0 cs.toArray (by rfl) (by rfl) (there_blk (blk_new wo _) rfl (by rw [List.size_toArray]; exact HO.out.len)) (jj56 (by rw [List.size_toArray]; exact HO.out.len)) (all_oneCell_toArray HO.out.one) ?_))
      generalize hV : World.setCells _ _ _ _ = V
      obtain ⟨mcs, fcs, hbx, hvb⟩ := opM_box hV rfl HO.out HP.out.below.size
      have HB := Aside.mk (p_box HP.out hbx hvb)
      have HW := Aside.mk (And.intro HO.out.wk HO.out.wi)
      clear hV hbx hvb HO HP
      generalize wo.heap.size = ob at *
      have HF := Aside.mk (parts_all (SizeOf.sizeOf x.M.Query.Filter) x.M.Query.Filter (Nat.le_refl _) V fcs 500 (by decide) (Kd.any HB.out.box.flt))
      go_wp2_with (refine wpList_load_mid rfl 40 (.tmp 40) (by rfl) ob 17 (by rfl) fcs _ HB.out.box.f Try.underlying40 rfl (j40 (kFilter.len HB.out.box.flt)) ?_)
      refine HF.out.mono ?_
      rintro e w3 ⟨⟨r, rfl, hr1, hr2⟩, hb3⟩
      have HB := Aside.mk (HB.out.later (Chg.of_below hb3 NoF))
      clear HF hb3
      by_cases hr : r < 0
      · go_wp2
        go_round
        case rel => exact ⟨i + 1, hlt1, hlt2, rfl, ⟨HB.out.at_.next.loop⟩⟩
        case measure => simp only [intOf]; omega
      · have HD := Aside.mk (depth_any (W := w3) (Kd.any HB.out.box.flt))
        go_wp2_with (refine wpList_load_mid rfl 40 (.tmp 46) (by rfl) ob 17 (by rfl) fcs _ HB.out.box.f Try.underlying40 rfl (j40 (kFilter.len HB.out.box.flt)) ?_)
        refine HD.out.mono ?_
        rintro e w4 ⟨rfl, hb4⟩
        have HB := Aside.mk (HB.out.later (Chg.of_below hb4 NoF))
        clear HD hb4
        generalize depthV x.M.Query.Filter = dv
        by_cases hd : (20 : Int) < dv
        · go_wp2
          go_round
          case rel => exact ⟨i + 1, hlt1, hlt2, rfl, ⟨HB.out.at_.next.loop⟩⟩
          case measure => simp only [intOf]; omega
        · have f0 : w4.cell? ⟨ob, 0, none⟩ = some (.int .i64 x.Kind) := HB.out.box.kind
          have HBD := Aside.mk (HB.out.later ((Chg.refl w4 NoF).drew))
          go_wp2_with fail
          refine (abs_any _ HW.out.1 _).mono ?_
          rintro e w' ⟨⟨k2, rfl⟩, hw⟩
          obtain rfl := hw.symm
          clear hw
          have hk2 : ((k2 : Int).tmod 6) = ((k2 % 6 : Nat) : Int) := (Int.ofNat_tmod k2 6).symm
          have hrl : k2 % 6 < 6 := Nat.mod_lt _ (by decide)
          generalize k2 % 6 = q at *
          clear hr hr1 hr2 hd
          go_upto_block 2 with fail
          go_cut [8] (fun v8 wc => v8 = .bool true ∧ Aside (PLoop w nb rb (i + 1) wc))
          case first =>
            by_cases hq1 : q = 0 ∨ q = 1
            · have HS1 := Aside.mk (p_send HBD.out.at_ hi9 x.M mcs HBD.out.box.msg)
              rcases hq1 with rfl | rfl
              all_goals
                clear f0
                go_upto_region 20 with fail
                have hS0 : (fun W : World => W.rangeAt ob 3 mcs) w4.drew := HBD.out.box.m
                refine region_L (fun W : World => W.rangeAt ob 3 mcs) (fun j => j != 9) (by kernel_rfl) ?_
                try simp only [Act.put, List.setIfInBounds_toArray, List.set_cons_zero, List.set_cons_succ]
                refine anyL_take0 (i := 0) (oi := _) (v := ?_) rfl (by kernel_rfl) (by kernel_rfl) (by kernel_rfl) (fun _ _ _ h => h) (Or.inl ⟨by rfl, ?_⟩) ?_
                rotate_left
                · intro wv
                  go_simp
                  try with_reducible rfl
                try simp only [Act.put, List.setIfInBounds_toArray, List.set_cons_zero, List.set_cons_succ]
                refine anyL_take0 (i := 1) (oi := _) (v := ?_) rfl (by kernel_rfl) (by kernel_rfl) (by kernel_rfl) (fun _ _ _ h => h) (Or.inl ⟨by rfl, ?_⟩) ?_
                rotate_left
                · intro wv
                  go_simp
                  try with_reducible rfl
                try simp only [Act.put, List.setIfInBounds_toArray, List.set_cons_zero, List.set_cons_succ]
                refine anyL_take (i := 2) (oi := _) (v := .agg mcs.toArray) rfl (by kernel_rfl) (by kernel_rfl) (by kernel_rfl) (by kernel_rfl) (fun _ _ _ h => h) (yieldsIf_load_mid (by rfl) 54 (.tmp 84) (by rfl) ob 3 (by rfl) mcs _ (fun _ h => h) Try.underlying54 rfl (j54 (kMsg.len HBD.out.box.msg))) (by assumption) ?_
                try simp only [Act.put, List.setIfInBounds_toArray, List.set_cons_zero, List.set_cons_succ]
                refine anyL_take0 (i := 4) (oi := _) (v := ?_) rfl (by kernel_rfl) (by kernel_rfl) (by kernel_rfl) (fun _ _ _ h => h) (Or.inl ⟨by rfl, ?_⟩) ?_
                rotate_left
                · intro wv
                  go_simp
                  try with_reducible rfl
                try simp only [Act.put, List.setIfInBounds_toArray, List.set_cons_zero, List.set_cons_succ]
                refine anyL_take0 (i := 5) (oi := _) (v := ?_) rfl (by kernel_rfl) (by kernel_rfl) (by kernel_rfl) (fun _ _ _ h => h) (Or.inl ⟨by rfl, ?_⟩) ?_
                rotate_left
                · intro wv
                  go_simp
                  try with_reducible rfl
                try simp only [Act.put, List.setIfInBounds_toArray, List.set_cons_zero, List.set_cons_succ]
                refine anyL_take (i := 6) (oi := _) (v := .agg mcs.toArray) rfl (by kernel_rfl) (by kernel_rfl) (by kernel_rfl) (by kernel_rfl) (fun _ _ _ h => h) (yieldsIf_load_mid (by rfl) 54 (.tmp 88) (by rfl) ob 3 (by rfl) mcs _ (fun _ h => h) Try.underlying54 rfl (j54 (kMsg.len HBD.out.box.msg))) (by assumption) ?_
                try simp only [Act.put, List.setIfInBounds_toArray, List.set_cons_zero, List.set_cons_succ]
                refine anyL_one (i := 3) (by kernel_rfl) rfl rfl (fun K hK => ?_)
                go_simp
                go_at_call 13
                refine HS1.out.mono ?_
                rintro e w5 ⟨rfl, hd⟩
                have HMB := Aside.mk (HBD.out.did hd)
                have HRS := Aside.mk (p_rsend HBD.out.at_ hi9 x.M mcs HX.out hd HMB.out.msg)
                clear hd
                try go_wp2_with fail
                refine hK _ _ (fun _ => HMB.out.m) ?_
                clear hK K hS0
                have hS1 : (fun W : World => W.rangeAt ob 3 mcs) w5 := HMB.out.m
                try simp only [Act.put, List.setIfInBounds_toArray, List.set_cons_zero, List.set_cons_succ]
                refine anyL_one (i := 7) (by kernel_rfl) rfl rfl (fun K hK => ?_)
                go_simp
                go_at_call 14
                refine HRS.out.mono ?_
                rintro e w6 ⟨rfl, hl, hc⟩
                have HMB6 := Aside.mk (HBD.out.mid HMB.out hc)
                have HEND := Aside.mk hl
                clear hl hc
                try go_wp2_with fail
                refine hK _ _ (fun _ => HMB6.out.m) ?_
                clear hK K hS1
                have hS2 : (fun W : World => W.rangeAt ob 3 mcs) w6 := HMB6.out.m
                try simp only [Act.put, List.setIfInBounds_toArray, List.set_cons_zero, List.set_cons_succ]
                refine anyL_take0 (i := 8) (oi := _) (v := ?_) rfl (by kernel_rfl) (by kernel_rfl) (by kernel_rfl) (fun _ _ _ h => h) (Or.inl ⟨by rfl, ?_⟩) ?_
                rotate_left
                · intro wv
                  go_simp
                  try with_reducible rfl
                try simp only [Act.put, List.setIfInBounds_toArray, List.set_cons_zero, List.set_cons_succ]
                refine anyL_one (i := 9) (by kernel_rfl) rfl rfl (fun K hK => ?_)
                go_simp
                refine hK _ _ (fun h => by simp at h) ?_
                clear hK K
                refine anyL_done (by kernel_rfl) ?_ _
                try simp only [Act.put, List.setIfInBounds_toArray, List.set_cons_zero, List.set_cons_succ]

                go_simp
                go_wp2
                go_meet
                exact ⟨by simp, HEND⟩
            · by_cases hq2 : q = 2
              · subst hq2
                obtain ⟨rr, ms', h15, h16⟩ := p_lose HBD.out.at_ hi9 x.I
                have H15 := Aside.mk h15
                have H16 := Aside.mk h16
                clear h15 h16
                have hcl : ∀ W', Aside (MBox w.heap.size W' ob x mcs fcs) → W'.cell? ⟨ob, 1, none⟩ = some (.int .i64 x.I) := fun W' I => I.out.i
                have HI5 : Aside (MBox w.heap.size w4.drew ob x mcs fcs) := ⟨HBD.out.box⟩
                go_upto_region 22 with fail
                go_region_held3 (fun W : World => W.cell? ⟨ob, 1, none⟩ = some (.int .i64 x.I)) (exact hcl _ (by assumption))
                  (first
                    | (go_at_call 16; refine (H16.out _ HD.out).mono ?_; rintro e w6 ⟨rfl, h5, hc5⟩; have HEND := Aside.mk h5; have HI7 : Aside (MBox w.heap.size w6 ob x mcs fcs) := ⟨HBD.out.mid1 HI6.out hc5⟩; clear h5 hc5 HI6)
                    | (go_at_call 15; refine H15.out.mono ?_; rintro e w5 ⟨rfl, hd⟩; have HD := Aside.mk hd; have HI6 : Aside (MBox w.heap.size w5 ob x mcs fcs) := ⟨HBD.out.did hd⟩; clear hd HI5))
                all_goals
                  clear hcl
                  go_wp2
                  go_meet
                  exact ⟨by simp, HEND⟩

              · by_cases hq3 : q = 3
                · subst hq3
                  obtain ⟨rr, ms', h15, h16⟩ := p_twice HBD.out.at_ hi9 x.I
                  have H15 := Aside.mk h15
                  have H16 := Aside.mk h16
                  clear h15 h16
                  have hcl : ∀ W', Aside (MBox w.heap.size W' ob x mcs fcs) → W'.cell? ⟨ob, 1, none⟩ = some (.int .i64 x.I) := fun W' I => I.out.i
                  have HI5 : Aside (MBox w.heap.size w4.drew ob x mcs fcs) := ⟨HBD.out.box⟩
                  go_upto_region 24 with fail
                  go_region_held3 (fun W : World => W.cell? ⟨ob, 1, none⟩ = some (.int .i64 x.I)) (exact hcl _ (by assumption))
                    (first
                      | (go_at_call 18; refine (H16.out _ HD.out).mono ?_; rintro e w6 ⟨rfl, h5, hc5⟩; have HEND := Aside.mk h5; have HI7 : Aside (MBox w.heap.size w6 ob x mcs fcs) := ⟨HBD.out.mid HI6.out hc5⟩; clear h5 hc5 HI6)
                      | (go_at_call 17; refine H15.out.mono ?_; rintro e w5 ⟨rfl, hd⟩; have HD := Aside.mk hd; have HI6 : Aside (MBox w.heap.size w5 ob x mcs fcs) := ⟨HBD.out.did hd⟩; clear hd HI5))
                  all_goals
                    clear hcl
                    go_wp2
                    go_meet
                    exact ⟨by simp, HEND⟩

                · have q0 : ((q : Int) == 0) = false := by rw [beq_eq_false_iff_ne]; omega
                  have q1 : ((q : Int) == 1) = false := by rw [beq_eq_false_iff_ne]; omega
                  have q2 : ((q : Int) == 2) = false := by rw [beq_eq_false_iff_ne]; omega
                  have q3 : ((q : Int) == 3) = false := by rw [beq_eq_false_iff_ne]; omega
                  clear hq1 hq2 hq3
                  obtain ⟨f, y, ms', hy, h19, h20⟩ := p_deliver HB.out.at_ hi9 x.I
                  have H19 := Aside.mk h19
                  have H20 := Aside.mk h20
                  have HY := Aside.mk hy
                  clear h19 h20 hy
                  have f1 : w4.cell? ⟨ob, 1, none⟩ = some (.int .i64 x.I) := HB.out.box.i
                  cases f
                  all_goals
                    go_upto_region 15 with (first
                      | (refine wpList_store_mid rfl 54 (.tmp 9) (.tmp 59) (by rfl) w5.heap.size 0 cs1.toArray (by rfl) (by rfl) (there_blk (blk_new w5 _) rfl (by rw [List.size_toArray]; exact (HO1.out).1)) (j54 (by rw [List.size_toArray]; exact (HO1.out).1)) (all_oneCell_toArray (HO1.out).2) ?_)
                      | (go_at_call 19; refine H19.out.mono ?_; rintro e w5 ⟨cs1, rfl, hK1, hd5⟩; have HK1 := Aside.mk hK1; have HO1 := Aside.mk (And.intro (kMsg.len hK1) (kMsg.one hK1)); have HD5 := Aside.mk hd5; clear hK1 hd5))
                    generalize hV6 : World.setCells _ _ _ _ = V6
                    have HV6 := Aside.mk hV6
                    have HC6 := Aside.mk (Chg.of_below (msg_box hV6 HK1.out).2.2.1 NoF)
                    have HD6 := Aside.mk (HD5.out.later HC6.out)
                    have HM6 := Aside.mk ((HB.out.did HD5.out).chg HC6.out (fun h => h) (fun _ _ h => h))
                    have f2 : V6.cell? ⟨ob, 1, none⟩ = some (.int .i64 x.I) := HM6.out.i
                    clear hV6
                    go_upto_region 16 with (first
                      | (refine wpList_store_mid rfl 54 (.tmp 11) (.tmp 66) (by rfl) w7.heap.size 0 cs2.toArray (by rfl) (by rfl) (there_blk (blk_new w7 _) rfl (by rw [List.size_toArray]; exact (HO2.out).1)) (j54 (by rw [List.size_toArray]; exact (HO2.out).1)) (all_oneCell_toArray (HO2.out).2) ?_)
                      | (go_at_call 20; refine (H20.out V6 HD6.out).1.mono ?_; rintro e w7 ⟨cs2, rfl, hK2, hb7⟩; have HK2 := Aside.mk hK2; have HO2 := Aside.mk (And.intro (kMsg.len hK2) (kMsg.one hK2)); have HB7 := Aside.mk hb7; clear hK2 hb7))
                    generalize hV8 : World.setCells _ _ _ _ = V8
                    have HV8 := Aside.mk hV8
                    have HC8 := Aside.mk (Chg.of_below (below_self HB7.out (msg_box hV8 HK2.out).2.2.1) NoF)
                    have HD8 := Aside.mk (HD6.out.later HC8.out)
                    have f3 : V8.cell? ⟨ob, 1, none⟩ = some (.int .i64 x.I) := (HM6.out.chg HC8.out (fun h => h) (fun _ _ h => h)).i
                    clear hV8
                    go_upto_region 17 with (go_at_call 16; refine (H20.out V8 HD8.out).2.mono ?_; rintro e w9 ⟨⟨rr, rfl⟩, hl9, hc9⟩; have HL9 := Aside.mk hl9; have HT := Aside.mk (two_deliver HB.out.at_.ref.lt HD5.out.chg.size HK1.out HV6.out HB7.out HK2.out HV8.out hc9); clear hl9 hc9)
                    clear HV6 HV8 HC6 HC8 HD5 HD6 HD8 HK1 HK2 H19 H20 f1 f2 f3
                    generalize w5.heap.size = z1 at *
                    generalize w7.heap.size = z2 at *
                    go_wp2_with (first
                      | (refine wpList_load_midG (by rfl) 54 (.tmp 9) (by rfl) z1 0 (by rfl) cs1 _ HT.out.r1 Try.underlying54 rfl (j54 HO1.out.1) ?_)
                      | (refine wpList_load_midG (by rfl) 54 (.tmp 11) (by rfl) z2 0 (by rfl) cs2 _ HT.out.r2 Try.underlying54 rfl (j54 HO2.out.1) ?_)
                      | (go_at_call 21; refine (same_any HT.out.k1 HT.out.k2 HY.out).mono ?_; rintro e w10 ⟨rfl, hb10⟩; have HEND := Aside.mk (HL9.out.later (Chg.of_below hb10 NoF)); clear hb10))
                    go_meet
                    exact ⟨rfl, HEND⟩

          case rest =>
            obtain ⟨rfl, HL⟩ := hcut
            clear HB HBD HW HX f0 hk2 hrl
            obtain ⟨F, G, ms, last, hP⟩ := HL.out
            have HP := Aside.mk (hP.later ((Chg.refl wc NoF).drew))
            obtain ⟨Ar, cr, f0⟩ := HP.out.ref0
            have HWt := Aside.mk (waiting_any HP.out.net)
            clear hP HL
            go_upto_region 25 with fail
            go_region_held3 (fun W : World => W.cell? ⟨rb, 0, none⟩ = some (.slice Ar ms.length cr)) (exact f0)
              (first
                | (go_at_call 22; refine HWt.out.mono ?_; rintro e w' ⟨rfl, hw⟩; obtain rfl := hw.symm; clear hw HWt))
            go_wp2_with fail
            go_loopw [13] (fun v13 wr => ∃ k : Int, -1 ≤ k ∧ k ≤ (ms.length : Int) + 1 ∧ v13 = .int .i64 k ∧ Aside (PAt w nb rb (i + 1) F G ms last wr)) (fun v13 _ => ((ms.length : Int) + 1 - intOf v13).toNat)
            case atStart => exact ⟨-1, by omega, by omega, rfl, HP⟩
            case round =>
              obtain ⟨k, hk1, hk2, rfl, HQ⟩ := hrel
              obtain ⟨wp, rfl⟩ : ∃ wp : World, wp = wr := ⟨_, rfl⟩
              clear HP f0
              obtain ⟨Ar, cr, f0⟩ := HQ.out.ref0
              by_cases hk : k ≤ (ms.length : Int)
              · skip
                obtain ⟨f, y, hy, h23, h20⟩ := p_peek HQ.out k
                have H23 := Aside.mk h23
                have H20 := Aside.mk h20
                have HY := Aside.mk hy
                have hkw : IntKind.i64.wrap (k + 1) = k + 1 := by
                  have := HQ.out.len
                  rw [IntKind.wrap_i64]; omega
                clear h23 h20 hy
                cases f
                all_goals
                  go_upto_region 31 with (first
                    | (refine wpList_store_mid rfl 54 (.tmp 14) (.tmp 139) (by rfl) w3.heap.size 0 cs1.toArray (by rfl) (by rfl) (there_blk (blk_new w3 _) rfl (by rw [List.size_toArray]; exact (HO1.out).1)) (j54 (by rw [List.size_toArray]; exact (HO1.out).1)) (all_oneCell_toArray (HO1.out).2) ?_)
                    | (go_at_call 23; refine H23.out.mono ?_; rintro e w3 ⟨cs1, rfl, hK1, hb3⟩; have HK1 := Aside.mk hK1; have HO1 := Aside.mk (And.intro (kMsg.len hK1) (kMsg.one hK1)); have HB3 := Aside.mk hb3; clear hK1 hb3))
                  generalize hV1 : World.setCells _ _ _ _ = V1
                  have HV1 := Aside.mk hV1
                  have HC1 := Aside.mk (Chg.of_below (below_self HB3.out (msg_box hV1 HK1.out).2.2.1) NoF)
                  clear hV1
                  go_upto_region 32 with (first
                    | (refine wpList_store_mid rfl 54 (.tmp 16) (.tmp 145) (by rfl) w5.heap.size 0 cs2.toArray (by rfl) (by rfl) (there_blk (blk_new w5 _) rfl (by rw [List.size_toArray]; exact (HO2.out).1)) (j54 (by rw [List.size_toArray]; exact (HO2.out).1)) (all_oneCell_toArray (HO2.out).2) ?_)
                    | (go_at_call 20; refine (H20.out V1 HC1.out).mono ?_; rintro e w5 ⟨cs2, rfl, hK2, hb5⟩; have HK2 := Aside.mk hK2; have HO2 := Aside.mk (And.intro (kMsg.len hK2) (kMsg.one hK2)); have HB5 := Aside.mk hb5; clear hK2 hb5))
                  generalize hV2 : World.setCells _ _ _ _ = V2
                  have HT := Aside.mk (two_peek HK1.out HV1.out HB5.out HK2.out hV2)
                  have HQ2 := Aside.mk ((HQ.out.later HC1.out).later (Chg.of_below HT.out.2 NoF))
                  clear hV2 HV1 HC1 HK1 HK2 H23 H20
                  generalize w3.heap.size = z1 at *
                  generalize w5.heap.size = z2 at *
                  go_wp2_with (first
                    | (refine wpList_load_midG (by rfl) 54 (.tmp 14) (by rfl) z1 0 (by rfl) cs1 _ HT.out.1.r1 Try.underlying54 rfl (j54 HO1.out.1) ?_)
                    | (refine wpList_load_midG (by rfl) 54 (.tmp 16) (by rfl) z2 0 (by rfl) cs2 _ HT.out.1.r2 Try.underlying54 rfl (j54 HO2.out.1) ?_)
                    | (go_at_call 21; refine (same_any HT.out.1.k1 HT.out.1.k2 HY.out).mono ?_; rintro e w6 ⟨rfl, hb6⟩; have HQ3 := Aside.mk (HQ2.out.later (Chg.of_below hb6 NoF)); clear hb6))
                  go_round
                  case rel => exact ⟨k + 1, by omega, by omega, rfl, HQ3⟩
                  case measure => simp only [intOf]; omega

              · have HEND := Aside.mk HQ.out.loop
                go_wp2
                go_round
                case rel => exact ⟨i + 1, hlt1, hlt2, rfl, HEND⟩
                case measure => simp only [intOf]; omega
    · have HB := Aside.mk HR.out.below
      by_cases hlt1 : i < xs.length
      · obtain rfl : i = 100 := by omega
        go_wp2
        go_ret
        exact ⟨rfl, HB.out⟩
      · obtain rfl : i = xs.length := by omega
        clear hlt
        go_wp2
        go_ret
        exact ⟨rfl, HB.out⟩
end Go.Proofs.Ytjpeaeklhcnpnaa.K
