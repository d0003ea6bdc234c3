/- The walk of steps, whose taker is the body of a range over a function. -/
import Derived.Test.YtnfjfifdkmgbdaaWp
namespace Go.Proofs.Ytnfjfifdkmgbdaa
open Go.RowKit Go.Shelf
attribute [local go_sem] Oper.semAt_some

/-- Where steps stands: the steps that have come, its two boxes, and what has been kept. -/
structure Sy {pn : Nat} (J : List (OkStep pn) → World → Prop) (Wf : World → Prop) (O : World → Nat → Prop) (n0 : Nat) (w : World) (fl fv : Array Value) (pre : List (OkStep pn)) (l : List Fl.Step) (W : World) : Prop where
  j : J pre W
  l : stepsOf pre = l
  wf : Wf W
  k : Ky Wf O n0 w W
  x1 : W.heap[w.heap.size]? = some (.cells fl 32 (0, 0))
  o1 : ¬ O W w.heap.size
  x2 : W.heap[w.heap.size + 1]? = some (.cells fv 75 (0, 0))
  o2 : ¬ O W (w.heap.size + 1)
section
variable {pn : Nat} {J : List (OkStep pn) → World → Prop} {Wf : World → Prop} {O : World → Nat → Prop} {w : World} {fl fv : Array Value} {n0 : Nat}
theorem Sy.yield {pre pre' : List (OkStep pn)} {l l' : List Fl.Step} {W W' : World} (h : Sy J Wf O n0 w fl fv pre l W) (hj : J pre' W') (hl : stepsOf pre' = l') (hk : Ky Wf O n0 W W') : Sy J Wf O n0 w fl fv pre' l' W' :=
  ⟨hj, hl, (hk.keep h.wf).1, h.k.trans hk, (hk.cells h.wf h.x1 h.o1).1, (hk.cells h.wf h.x1 h.o1).2, (hk.cells h.wf h.x2 h.o2).1, (hk.cells h.wf h.x2 h.o2).2⟩
theorem Sy.pure (I : Iface Wf O n0) (hJp : ∀ pre W W', J pre W → Below W.heap.size W W' → J pre W') (hn : n0 ≤ w.heap.size) {pre : List (OkStep pn)} {l : List Fl.Step} {W W' : World} (h : Sy J Wf O n0 w fl fv pre l W) (hb : Below W.heap.size W W') : Sy J Wf O n0 w fl fv pre l W' :=
  h.yield (hJp _ _ _ h.j hb) h.l (Ky.of_pure I hb (Nat.le_trans hn h.k.low.size))
theorem Sy.start (I : Iface Wf O n0) (hJp : ∀ pre W W', J pre W → Below W.heap.size W W' → J pre W') (hn : n0 ≤ w.heap.size) (hj : J [] w) (hw : Wf w) : Sy J Wf O n0 w fl fv [] [] ((w.alloc (.cells fl 32)).alloc (.cells fv 75)) := by
  have hb : Below w.heap.size w ((w.alloc (.cells fl 32)).alloc (.cells fv 75)) := (pure_alloc _ _).alloc (by simp) _
  exact ⟨hJp _ _ _ hj hb, rfl, (I.pure _ _ hw hb).1, Ky.of_pure I hb hn, alloc_keep (alloc_new _ _), new_not_owned I hw hb (by omega), alloc_new' _ _ _ (by simp), new_not_owned I hw hb (by omega)⟩
end
theorem pfx_left {a b c : List Fl.Step} (h : a <+: b) : a <+: b ++ c := h.trans (List.prefix_append _ _)
theorem pfx_in {a b c : List Fl.Step} (h : a <+: b) : c ++ a <+: c ++ b := (List.prefix_append_right_inj c).2 h
/-- What steps leaves: all steps have come, or it was stopped. -/
def StepsPost {pn : Nat} (J Jx : List (OkStep pn) → World → Prop) (Wf : World → Prop) (O : World → Nat → Prop) (n0 : Nat) (l : List Fl.Step) (w : World) (e : Ending) (w' : World) : Prop :=
  e = .returned (.tuple #[]) ∧ ((∃ r, stepsOf r = l ∧ J r w' ∧ Ky Wf O n0 w w') ∨ ∃ r, stepsOf r <+: l ∧ Jx r w')

/-- A record is handed on, from where steps stands. -/
theorem write_sy {Wf : World → Prop} {O : World → Nat → Prop} {n0 : Nat} (I : Iface Wf O n0) (pn lp nd N : Nat) (J Jx : List (OkStep pn) → World → Prop)
    (HY : ∀ pre (s : OkStep pn) W, J pre W → Wf W → pre.length < N → YieldAt Fence.wide nd Try.prog lp #[encS s.1] W (RoundOk J Jx Wf O n0 (pre ++ [s]) W))
    (page : Int) (k0 : Nat) (a : Option Addr) (len cap : Nat) (r : List UInt8) (w : World) (fl : Array Value) (pre : List (OkStep pn)) (l : List Fl.Step) (W : World) (S : Sy J Wf O n0 w fl #[.func (.yield lp) #[] #[]] pre l W)
    (hb : BsP O W a len r) (hp0 : 0 ≤ page) (hp : page < pn) (hpn : pn ≤ 1000) (hn : k0 ≤ 1000) (hlen : len ≤ 1000) (hN : l.length + len ≤ N) :
    Calls Try.prog 54 #[.int .i64 page, .int .i64 k0, .slice a len cap, .pointer (some ⟨w.heap.size + 1, 0, none⟩)] W (fun e W' =>
      (e = .returned (.bool true) ∧ ∃ pre', Sy J Wf O n0 w fl #[.func (.yield lp) #[] #[]] pre' (l ++ Fl.writes page k0 r) W') ∨ (e = .returned (.bool false) ∧ ∃ r', stepsOf r' <+: l ++ Fl.writes page k0 r ∧ Jx r' W')) :=
  (callsIn_wide.1 (write_y I pn lp nd N J Jx HY page k0 a len cap r (w.heap.size + 1) pre W S.j S.wf S.x2 S.o2 hb hp0 hp hpn hn hlen (by have h := congrArg List.length S.l; rw [stepsOf, List.length_map] at h; omega))).mono fun e W' h => by
    rcases h with ⟨he, rr, h1, h2, h3⟩ | ⟨he, rr, h1, h2⟩
    · exact .inl ⟨he, _, S.yield h2 (by rw [stepsOf_append, S.l, h1]) h3⟩
    · exact .inr ⟨he, _, by rw [stepsOf_append, S.l]; exact pfx_in h1, h2⟩

set_option maxHeartbeats 1600000 in
set_option maxRecDepth 100000 in
theorem steps_y {Wf : World → Prop} {O : World → Nat → Prop} {n0 : Nat} (I : Iface Wf O n0) (pn lp nd N : Nat) (J Jx : List (OkStep pn) → World → Prop) (hJp : ∀ pre W W', J pre W → Below W.heap.size W W' → J pre W')
    (sz : Int) (pa : Option Addr) (pc : Nat) (ea : Option Addr) (en ec : Nat) (m : Fl.Mem) (key v : Int) (w0 w : World) (h : FRep w0 sz pa pn ea en m) (hv : Fl.validP m = true) (hn0 : n0 = w0.heap.size) (h0 : Below w0.heap.size w0 w)
    (HY : ∀ pre (s : OkStep pn) W, J pre W → Wf W → pre.length < N → YieldAt Fence.wide nd Try.prog lp #[encS s.1] W (RoundOk J Jx Wf O n0 (pre ++ [s]) W))
    (hJ : J [] w) (hW : Wf w) (k0 : 0 ≤ key) (k1 : key ≤ 15) (v0 : 0 ≤ v) (v1 : v ≤ 1099511627775) (hN : 200 ≤ N) :
    Calls Try.prog 40 #[.agg #[.int .i64 sz, .slice pa pn pc, .slice ea en ec], .int .i64 key, .int .i64 v, .func (.yield lp) #[] #[]] w (StepsPost J Jx Wf O n0 (Fl.stepsP m key v) w) := by
  have V := vfacts hv
  obtain ⟨s1, s2, s3⟩ := V.size
  rw [← h.size] at s1 s2 s3
  obtain ⟨a1, a2⟩ := V.at_
  rw [h.pages.1] at a2
  obtain ⟨g1, g2⟩ := V.gen
  have pl := V.pages
  rw [h.pages.1] at pl
  have HI := Lib.hid I
  have HJP := Lib.hid hJp
  have HF := Lib.hid h
  have HYH := Lib.hid HY
  have HSZ := Lib.hid h.size
  have HV := Lib.hid V
  subst hn0
  have S0 := Lib.hid (Sy.start (pn := pn) (fl := #[.int .i64 sz, .slice pa pn pc, .slice ea en ec]) (fv := #[.func (.yield lp) #[] #[]]) I hJp h0.size hJ hW)
  have H0 := Lib.hid h0
  have HW0 := Lib.hid hW
  have hF := fun (W : World) (k : Ky Wf O w0.heap.size w W) => h.below (h0.trans k.low)
  have hsz0 := h0.size
  have HFW := Lib.hid hF
  clear I hJp h HY h0 hJ hW V hv hF
  go_enter Try.func40, Try.ntmps40
  go_wp2_with fail
  refine (newest_any _ _ _ _ _ _ _ _ _ (HFW.out _ S0.out.k) (by omega) (by omega)).mono ?_
  rintro e w2 ⟨rfl, hw2⟩
  have S2 := Lib.hid (S0.out.pure HI.out HJP.out hsz0 hw2)
  clear hw2 S0
  have c0 := cell_of_arr S2.out.x1 0
  have c1' := cell_of_arr S2.out.x1 1
  simp at c0 c1'
  obtain ⟨q, hq⟩ : ∃ q : Nat, (q : Int) = (Fl.newest m).1 := ⟨(Fl.newest m).1.toNat, by omega⟩
  have HQ := Lib.hid hq
  rw [← hq] at a1 a2 ⊢
  obtain ⟨b, o, c, len, cap, rfl, e2, e3⟩ := (HFW.out _ S2.out.k).pages.2.2 q (by omega)
  have hlen : (len : Int) ≤ 256 := by
    have := rows_len _ _ q HV.out.rows (by have := HF.out.pages.1; omega)
    rw [e3.1] at this
    have := HSZ.out
    omega
  have HE3 := Lib.hid e3
  have HCUR : Hid (Fl.cur m = m.pages.getD q []) := by show Fl.page m (Fl.newest m).1.toNat = _; rw [← HQ.out]; rfl
  have HSLOT : Hid (Fl.slotOf (Fl.cur m) = (len + 7) / 8) := by show Fl.slotOf _ = _; rw [HCUR.out]; unfold Fl.slotOf; rw [e3.1]
  clear hq e3
  have q1 : (q : Int) < (pn : Int) := by omega
  by_cases hst : ((len : Int) + 7) / 8 * 8 < sz
  · have HST : Hid (Fl.stepsP m key v = Fl.writes (q : Int) ((len + 7) / 8) (Fl.record key v)) := by
      show _ = _
      unfold Fl.stepsP Fl.stays
      rw [HSLOT.out, if_pos (by simp; have := HSZ.out; omega), HQ.out]
    go_wp2_with fail
    refine (record_any _ _ _ (by omega) (by omega) (by omega) (by omega)).mono ?_
    rintro e w3 ⟨vr, rfl, hr, hw3⟩
    obtain ⟨ar, capr, rfl, hbr⟩ := hr.bsP HI.out S2.out.wf hw3
    have S3 := Lib.hid (S2.out.pure HI.out HJP.out hsz0 hw3)
    have HBR := Lib.hid hbr
    have hrl := record_len key v
    clear hw3 S2 hr hbr
    go_wp2_with fail
    rw [show ((len : Int) + 8 - 1) / 8 = (((len + 7) / 8 : Nat) : Int) by omega]
    refine (write_sy HI.out pn lp nd N J Jx HYH.out (q : Int) ((len + 7) / 8) ar _ capr _ w _ _ _ _ S3.out HBR.out (by omega) (by omega) (by omega) (by omega) (by omega) (by simp; omega)).mono ?_
    rintro e w4 (⟨rfl, pre9, hS9⟩ | ⟨rfl, r9, p9, x9⟩)
    rotate_left
    · have P9 := Lib.hid p9
      have X9 := Lib.hid x9
      clear p9 x9
      go_wp2_with fail
      refine bodyPost_ret (results_none rfl _ _ _) rfl ?_
      exact ⟨rfl, .inr ⟨r9, by rw [HST.out]; simpa using P9.out, X9.out⟩⟩
    have S4 := Lib.hid hS9
    clear hS9
    go_wp2_with fail
    refine bodyPost_ret (results_none rfl _ _ _) rfl ?_
    exact ⟨rfl, .inl ⟨_, by rw [HST.out, S4.out.l]; simp, S4.out.j, S4.out.k⟩⟩
  · obtain ⟨nx, hnx, hnx2⟩ : ∃ nx : Nat, ((q : Int) + 1) % (pn : Int) = (nx : Int) ∧ nx < pn := ⟨(q + 1) % pn, by rw [show ((q : Int) + 1) = ((q + 1 : Nat) : Int) by omega, ← Int.natCast_emod], Nat.mod_lt _ (by omega)⟩
    have HNX : Hid (Fl.nextOf m = (nx : Int)) := by show Fl.nextOf m = _; unfold Fl.nextOf; rw [← HQ.out, HF.out.pages.1, hnx]
    obtain ⟨b', o', cn, len2, cap2, e1', e2', e3'⟩ := (HFW.out _ S2.out.k).pages.2.2 nx hnx2
    simp only [Option.some.injEq, Addr.mk.injEq, and_true] at e1'
    obtain ⟨rfl, rfl⟩ := e1'
    have HE3' := Lib.hid e3'
    have HER : Hid (Fl.eraseSteps m = if len2 = 0 then [] else [⟨(nx : Int), 0, true, 0⟩]) := by
      show Fl.eraseSteps m = _
      unfold Fl.eraseSteps Fl.page
      rw [HNX.out, Int.toNat_natCast, e3'.1]
    have hel : (Fl.eraseSteps m).length ≤ 1 := by rw [HER.out]; split <;> simp
    have HST : Hid (Fl.stepsP m key v = Fl.eraseSteps m ++ Fl.writes (nx : Int) 0 (Fl.record 240 ((Fl.newest m).2 + 1)) ++ (Fl.moved m key v).1 ++ Fl.writes (nx : Int) (Fl.moved m key v).2 (Fl.record 241 ((Fl.newest m).2 + 1))) := by
      show _ = _
      unfold Fl.stepsP Fl.stays
      rw [HSLOT.out, if_neg (by simp; have := HSZ.out; omega)]
      unfold Fl.stepsMove
      rw [HNX.out]
    have HMV : Hid (Fl.moved m key v = Fl.copies (m.pages.getD q []) (sz / 8).toNat key v (nx : Int) 16 0 1) := by
      show _ = _
      unfold Fl.moved Fl.N
      rw [HCUR.out, HNX.out, ← HSZ.out]
    have q2 : (nx : Int) < (pn : Int) := by omega
    have cfv := cell_of_arr S2.out.x2 0
    simp at cfv
    clear e3'
    go_upto_region 7 with fail
    rw [hnx]
    clear hnx
    go_cut [63] (fun s W => (s = .bool false ∧ ∃ pre9, Sy J Wf O w0.heap.size w #[.int .i64 sz, .slice (some ⟨b, o, none⟩) pn pc, .slice ea en ec] #[.func (.yield lp) #[] #[]] pre9 (Fl.eraseSteps m) W) ∨ (s = .bool true ∧ ∃ r9, stepsOf r9 <+: Fl.eraseSteps m ∧ Jx r9 W))
    case first =>
      by_cases hl2 : len2 = 0
      · subst hl2
        have hd : decide ((0 : Int) < ((0 : Nat) : Int)) = false := by simp
        go_wp2_with fail
        go_meet
        case rel => exact .inl ⟨rfl, [], by rw [HER.out]; simpa using S2.out⟩
      · have hl3 : 0 < len2 := by omega
        have hok : StepOk pn ⟨(nx : Int), 0, true, 0⟩ := ⟨by show (0 : Int) ≤ (nx : Int); omega, q2, by show (0 : Int) ≤ 0; omega, by show (0 : Int) ≤ _; omega⟩
        obtain ⟨fn, tmps, assign, body, hy, hR⟩ := HYH.out _ ⟨_, hok⟩ _ S2.out.j S2.out.wf (by simp; omega)
        simp only [encS] at hy
        rw [show ((UInt8.toNat 0 : Nat) : Int) = 0 from rfl] at hy
        have HR := Lib.hid hR
        clear hR
        refine (wpIn_wide (n := nd + 1)).1 ?_
        gi_wp2
        refine HR.out.mono ?_
        rintro e w3 (⟨rfl, hJ2, hK2⟩ | ⟨rfl, hJ2⟩)
        · have HJ2 := Lib.hid hJ2
          have HK2 := Lib.hid hK2
          clear hJ2 hK2
          gi_wp2
          go_meet
          case rel => exact .inl ⟨rfl, _, S2.out.yield HJ2.out (by rw [HER.out, if_neg hl2]; rfl) HK2.out⟩
        · have HJ2 := Lib.hid hJ2
          clear hJ2
          gi_wp2
          go_meet
          case rel => exact .inr ⟨rfl, [⟨_, hok⟩], by rw [HER.out, if_neg hl2]; exact List.prefix_refl _, HJ2.out⟩
    case rest =>
      rcases hcut with ⟨rfl, pre3, hS3⟩ | ⟨rfl, r9, p9, x9⟩
      rotate_left
      · have P9 := Lib.hid p9
        have X9 := Lib.hid x9
        clear p9 x9
        go_wp2_with fail
        refine bodyPost_ret (results_none rfl _ _ _) rfl ?_
        exact ⟨rfl, .inr ⟨r9, by rw [HST.out]; exact pfx_left (pfx_left (pfx_left P9.out)), X9.out⟩⟩
      have S3 := Lib.hid hS3
      clear hS3 S2 cfv e2' c0 c1' e2
      go_wp2_with fail
      refine (record_any _ _ _ (by omega) (by omega) (by omega) (by omega)).mono ?_
      rintro e w4 ⟨vr, rfl, hr, hw4⟩
      obtain ⟨ar, capr, rfl, hbr⟩ := hr.bsP HI.out S3.out.wf hw4
      have S4 := Lib.hid (S3.out.pure HI.out HJP.out hsz0 hw4)
      have HBR := Lib.hid hbr
      have hrl := record_len 240 ((Fl.newest m).2 + 1)
      clear hw4 S3 hr hbr
      go_wp2_with fail
      refine (write_sy HI.out pn lp nd N J Jx HYH.out (nx : Int) 0 ar _ capr _ w _ _ _ _ S4.out HBR.out (by omega) (by omega) (by omega) (by omega) (by omega) (by omega)).mono ?_
      rintro e w5 (⟨rfl, pre9, hS9⟩ | ⟨rfl, r9, p9, x9⟩)
      rotate_left
      · have P9 := Lib.hid p9
        have X9 := Lib.hid x9
        clear p9 x9
        go_wp2_with fail
        refine bodyPost_ret (results_none rfl _ _ _) rfl ?_
        exact ⟨rfl, .inr ⟨r9, by rw [HST.out]; exact pfx_left (pfx_left P9.out), X9.out⟩⟩
      have S5 := Lib.hid hS9
      clear hS9 S4 HBR hrl
      have hbl : (Fl.eraseSteps m ++ Fl.writes (nx : Int) 0 (Fl.record 240 ((Fl.newest m).2 + 1))).length ≤ 9 := by
        have := record_len 240 ((Fl.newest m).2 + 1)
        rw [List.length_append, writes_len]; omega
      generalize hbase : Fl.eraseSteps m ++ Fl.writes (nx : Int) 0 (Fl.record 240 ((Fl.newest m).2 + 1)) = base at *
      clear hbase
      generalize hpg : m.pages.getD q [] = pg at *
      have HPG := Lib.hid hpg
      clear hpg
      go_wp2_with fail
      go_loopw [13, 14] (fun t i wr => ∃ (k n : Nat) (pre : List Fl.Step), i = .int .i64 k ∧ t = .int .i64 n ∧ k ≤ 16 ∧ n ≤ k + 1 ∧ pre.length ≤ 9 + 8 * k ∧ (∃ pre9, Sy J Wf O w0.heap.size w #[.int .i64 sz, .slice (some ⟨b, o, none⟩) pn pc, .slice ea en ec] #[.func (.yield lp) #[] #[]] pre9 pre wr) ∧ Hid (base ++ (Fl.moved m key v).1 = pre ++ (Fl.copies pg (sz / 8).toNat key v (nx : Int) (16 - k) k n).1 ∧ (Fl.moved m key v).2 = (Fl.copies pg (sz / 8).toNat key v (nx : Int) (16 - k) k n).2)) (fun _ i _ => 16 - (intOf i).toNat)
      case atStart => exact ⟨0, 1, base, rfl, rfl, by omega, by omega, by omega, ⟨_, S5.out⟩, by show _ ∧ _; rw [HMV.out]; exact ⟨rfl, rfl⟩⟩
      case round =>
        obtain ⟨k, n, pre, rfl, rfl, hk, hnk, hpl8, ⟨pre8, hS⟩, hE⟩ := hrel
        have S6 := Lib.hid hS
        have c0 := cell_of_arr hS.x1 0
        have c1' := cell_of_arr hS.x1 1
        simp at c0 c1'
        have cfv := cell_of_arr hS.x2 0
        simp at cfv
        have xl := lt_of_block hS.x1
        clear hS S5
        by_cases hk16 : k < 16
        · obtain ⟨b', o', c', len', cap', e1', e2', e3'⟩ := (HFW.out _ S6.out.k).pages.2.2 q (by omega)
          simp only [Option.some.injEq, Addr.mk.injEq, and_true] at e1'
          obtain ⟨rfl, rfl⟩ := e1'
          rw [HPG.out] at e3'
          have HE3' := Lib.hid e3'
          clear e3'
          have hE2 : base ++ (Fl.moved m key v).1 = pre ++ (if (Fl.copyAt pg (sz / 8).toNat key v k).2 then (Fl.writes (nx : Int) n (Fl.record k (Fl.copyAt pg (sz / 8).toNat key v k).1) ++ (Fl.copies pg (sz / 8).toNat key v (nx : Int) (16 - (k + 1)) (k + 1) (n + 1)).1) else (Fl.copies pg (sz / 8).toNat key v (nx : Int) (16 - (k + 1)) (k + 1) n).1) ∧ (Fl.moved m key v).2 = (if (Fl.copyAt pg (sz / 8).toNat key v k).2 then (Fl.copies pg (sz / 8).toNat key v (nx : Int) (16 - (k + 1)) (k + 1) (n + 1)).2 else (Fl.copies pg (sz / 8).toNat key v (nx : Int) (16 - (k + 1)) (k + 1) n).2) := by
            have h := hE.out
            rw [show 16 - k = (16 - (k + 1)) + 1 by omega] at h
            rw [h.1, h.2]
            cases hc : (Fl.copyAt pg (sz / 8).toNat key v k).2 <;> simp [Fl.copies, hc]
          have HE2 := Lib.hid hE2
          clear hE2 hE
          have hk0 : (0 : Int) ≤ (k : Int) := by omega
          go_upto_region 13 with fail
          go_region_held3 (fun w' => w'.cell? ⟨w.heap.size, 0, none⟩ = some (.int .i64 sz) ∧ w'.cell? ⟨w.heap.size, 1, none⟩ = some (.slice (some ⟨b, o, none⟩) pn pc) ∧ w'.cell? ⟨b, o + q, none⟩ = some (.slice c' len' cap')) (first | exact ⟨c0, c1', e2'⟩ | exact ⟨d0, d1, d2⟩) (first | (go_at_call 46; refine (value_any _ _ _ _ _ _ _ (HE3'.out.below (below_drewN (Below.refl _ _) 1)) (by omega) (by omega)).mono ?_; rintro e w7 ⟨rfl, hw7⟩; have d0 := (hw7.cell (p := ⟨w.heap.size, 0, none⟩) xl).trans c0; have d1 := (hw7.cell (p := ⟨w.heap.size, 1, none⟩) xl).trans c1'; have d2 := (hw7.cell (p := ⟨b, o + q, none⟩) (lt_of_cell e2')).trans e2'))
          have S7 := Lib.hid (S6.out.pure HI.out HJP.out hsz0 ((below_drewN (Below.refl _ _) 1).trans hw7))
          clear hw7 S6 d0 d1 d2 c0 c1' e2' cfv HE3'
          have hvb := valueBelow_bd pg k (sz / 8).toNat
          have hca : Fl.copyAt pg (sz / 8).toNat key v k = if (k : Int) == key then (v, true) else Fl.valueBelow pg k (sz / 8).toNat := rfl
          have HCA := Lib.hid hca
          clear hca
          generalize Fl.valueBelow pg k (sz / 8).toNat = vb at *
          obtain ⟨vb1, vb2⟩ := vb
          dsimp only at *
          cases hkk : ((k : Int) == key)
          · have HCB : Hid (Fl.copyAt pg (sz / 8).toNat key v k = (vb1, vb2)) := by show _ = _; rw [HCA.out, hkk]; rfl
            clear HCA
            cases vb2
            · have HE3 : Hid (base ++ (Fl.moved m key v).1 = pre ++ (Fl.copies pg (sz / 8).toNat key v (nx : Int) (16 - (k + 1)) (k + 1) n).1 ∧ (Fl.moved m key v).2 = (Fl.copies pg (sz / 8).toNat key v (nx : Int) (16 - (k + 1)) (k + 1) n).2) := by
                show _ ∧ _
                have h := HE2.out
                rw [HCB.out] at h
                simpa using h
              clear HE2 HCB
              go_wp2_with fail
              go_roundw
              case rel => exact ⟨k + 1, n, pre, by go_num, rfl, by omega, by omega, by omega, ⟨_, S7.out⟩, HE3⟩
              case measure => simp [intOf]; omega
            · -- the key has a value
              have HE3 : Hid (base ++ (Fl.moved m key v).1 = (pre ++ Fl.writes (nx : Int) n (Fl.record k vb1)) ++ (Fl.copies pg (sz / 8).toNat key v (nx : Int) (16 - (k + 1)) (k + 1) (n + 1)).1 ∧ (Fl.moved m key v).2 = (Fl.copies pg (sz / 8).toNat key v (nx : Int) (16 - (k + 1)) (k + 1) (n + 1)).2) := by
                show _ ∧ _
                have h := HE2.out
                rw [HCB.out] at h
                simpa using h
              clear HE2 HCB
              go_wp2_with fail
              refine (record_any _ _ _ (by omega) (by omega) (by omega) (by omega)).mono ?_
              rintro e w8 ⟨vr, rfl, hr, hw8⟩
              obtain ⟨ar, capr, rfl, hbr⟩ := hr.bsP HI.out S7.out.wf hw8
              have S8 := Lib.hid (S7.out.pure HI.out HJP.out hsz0 hw8)
              have HBR := Lib.hid hbr
              have hrl := record_len k vb1
              clear hw8 S7 hr hbr
              go_wp2_with fail
              refine (write_sy HI.out pn lp nd N J Jx HYH.out (nx : Int) n ar _ capr _ w _ _ _ _ S8.out HBR.out (by omega) (by omega) (by omega) (by omega) (by omega) (by omega)).mono ?_
              rintro e w9 (⟨rfl, pre9, hS9⟩ | ⟨rfl, r9, p9, x9⟩)
              rotate_left
              · have P9 := Lib.hid p9
                have X9 := Lib.hid x9
                clear p9 x9
                go_wp2_with fail
                refine bodyPost_ret (results_none rfl _ _ _) rfl ?_
                exact ⟨rfl, .inr ⟨r9, by rw [HST.out, HE3.out.1]; exact pfx_left (pfx_left P9.out), X9.out⟩⟩
              have hpl9 : (pre ++ Fl.writes (nx : Int) n (Fl.record k vb1)).length ≤ 9 + 8 * (k + 1) := by rw [List.length_append, writes_len]; omega
              have S9 := Lib.hid hS9
              clear hS9 S8 HBR hrl
              go_wp2_with fail
              go_roundw
              case rel => exact ⟨k + 1, n + 1, _, by go_num, by go_num, by omega, by omega, hpl9, ⟨_, S9.out⟩, HE3⟩
              case measure => simp [intOf]; omega
          · have HCB : Hid (Fl.copyAt pg (sz / 8).toNat key v k = (v, true)) := by show _ = _; rw [HCA.out, hkk]; rfl
            clear HCA
            have HE3 : Hid (base ++ (Fl.moved m key v).1 = (pre ++ Fl.writes (nx : Int) n (Fl.record k v)) ++ (Fl.copies pg (sz / 8).toNat key v (nx : Int) (16 - (k + 1)) (k + 1) (n + 1)).1 ∧ (Fl.moved m key v).2 = (Fl.copies pg (sz / 8).toNat key v (nx : Int) (16 - (k + 1)) (k + 1) (n + 1)).2) := by
              show _ ∧ _
              have h := HE2.out
              rw [HCB.out] at h
              simpa using h
            clear HE2 HCB
            go_wp2_with fail
            refine (record_any _ _ _ (by omega) (by omega) (by omega) (by omega)).mono ?_
            rintro e w8 ⟨vr, rfl, hr, hw8⟩
            obtain ⟨ar, capr, rfl, hbr⟩ := hr.bsP HI.out S7.out.wf hw8
            have S8 := Lib.hid (S7.out.pure HI.out HJP.out hsz0 hw8)
            have HBR := Lib.hid hbr
            have hrl := record_len k v
            clear hw8 S7 hr hbr
            go_wp2_with fail
            refine (write_sy HI.out pn lp nd N J Jx HYH.out (nx : Int) n ar _ capr _ w _ _ _ _ S8.out HBR.out (by omega) (by omega) (by omega) (by omega) (by omega) (by omega)).mono ?_
            rintro e w9 (⟨rfl, pre9, hS9⟩ | ⟨rfl, r9, p9, x9⟩)
            rotate_left
            · have P9 := Lib.hid p9
              have X9 := Lib.hid x9
              clear p9 x9
              go_wp2_with fail
              refine bodyPost_ret (results_none rfl _ _ _) rfl ?_
              exact ⟨rfl, .inr ⟨r9, by rw [HST.out, HE3.out.1]; exact pfx_left (pfx_left P9.out), X9.out⟩⟩
            have hpl9 : (pre ++ Fl.writes (nx : Int) n (Fl.record k v)).length ≤ 9 + 8 * (k + 1) := by rw [List.length_append, writes_len]; omega
            have S9 := Lib.hid hS9
            clear hS9 S8 HBR hrl
            go_wp2_with fail
            go_roundw
            case rel => exact ⟨k + 1, n + 1, _, by go_num, by go_num, by omega, by omega, hpl9, ⟨_, S9.out⟩, HE3⟩
            case measure => simp [intOf]; omega
        · obtain rfl : k = 16 := by omega
          have HE3 : Hid (base ++ (Fl.moved m key v).1 = pre ∧ (Fl.moved m key v).2 = n) := by
            show _ ∧ _
            have h := hE.out
            simpa [Fl.copies] using h
          clear hE
          go_wp2_with fail
          refine (record_any _ _ _ (by omega) (by omega) (by omega) (by omega)).mono ?_
          rintro e w8 ⟨vr, rfl, hr, hw8⟩
          obtain ⟨ar, capr, rfl, hbr⟩ := hr.bsP HI.out S6.out.wf hw8
          have S8 := Lib.hid (S6.out.pure HI.out HJP.out hsz0 hw8)
          have HBR := Lib.hid hbr
          have hrl := record_len 241 ((Fl.newest m).2 + 1)
          clear hw8 S6 hr hbr
          go_wp2_with fail
          refine (write_sy HI.out pn lp nd N J Jx HYH.out (nx : Int) n ar _ capr _ w _ _ _ _ S8.out HBR.out (by omega) (by omega) (by omega) (by omega) (by omega) (by omega)).mono ?_
          rintro e w9 (⟨rfl, pre9, hS9⟩ | ⟨rfl, r9, p9, x9⟩)
          rotate_left
          · have P9 := Lib.hid p9
            have X9 := Lib.hid x9
            clear p9 x9
            go_wp2_with fail
            go_end0
            exact ⟨rfl, .inr ⟨r9, by rw [HST.out, HE3.out.1, HE3.out.2]; exact P9.out, X9.out⟩⟩
          have S9 := Lib.hid hS9
          clear hS9 S8 HBR hrl
          go_wp2_with fail
          go_end0
          exact ⟨rfl, .inl ⟨_, by rw [HST.out, HE3.out.1, HE3.out.2]; exact S9.out.l, S9.out.j, S9.out.k⟩⟩
end Go.Proofs.Ytnfjfifdkmgbdaa
