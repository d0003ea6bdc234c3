/- The walk of closed. -/
import Derived.Test.YtkgbjoepjcenlaaDoorWq
import Derived.Test.YtkgbjoepjcenlaaDoorPe
import Derived.Deep.LoopGhost
namespace Go.Proofs.YtkgbjoepjcenlaaDoor
open Go.RowKit Go.Maps
/-- What closed leaves: a set that is the least one. -/
def ClPost (l : List Tm) (w : World) (e : Ending) (w' : World) : Prop := ∃ K M C, e = .returned (.tuple #[.pointer (some ⟨K, 0, none⟩), .int .i64 0]) ∧ KB w' K M C ∧ Tm.IsCl l C ∧ Below w.heap.size w w'
theorem kn_made (w : World) : KN ((w.alloc (.map #[] 0)).alloc (.cells #[.slice none 0 0, .map (some w.heap.size)] 75)) (w.heap.size + 2) (w.heap.size + 1) w.heap.size (.slice none 0 0) [] [] := by
  refine ⟨alloc_new' _ _ _ (by simp), OutT.nil _ _ _ _, ⟨0, .map [], own_map_keep (World.ownsMap_made (H := Unit) w Tryd.prog 9 (plainElem Tryd.prog 4)) ((pure_alloc _ _).block _ (by simp)), Nat.le_refl _, MapOf.nil⟩, by omega, by omega, by omega, by simp⟩
/-- The loop of parts: what is known of the set. -/
structure Lp (l C0 C : List Tm) (gr : Bool) (j : Nat) : Prop where
  inv : Tm.Inv l C
  sub : ∀ x ∈ C0, x ∈ C
  get : ∀ i (h : i < C0.length), ∃ h' : i < C.length, C[i] = C0[i]
  same : gr = false → C = C0 ∧ ∀ i (h : i < C0.length), i < j → ∀ p ∈ Tm.parts C0 C0[i], p ∈ C0
  less : gr = true → Tm.rem (Tm.accN l) C < Tm.rem (Tm.accN l) C0
theorem Lp.start {l C : List Tm} (h : Tm.Inv l C) : Lp l C C false 0 := ⟨h, fun _ h => h, fun i h => ⟨h, rfl⟩, fun _ => ⟨rfl, fun i _ h => by omega⟩, fun h => by cases h⟩
/-- The loop over the parts of one term, behind q of them. D: the set when they were reckoned. -/
structure Lq (l C0 D C : List Tm) (gr0 gr : Bool) (j q : Nat) (P : List Tm) : Prop where
  inv : Tm.Inv l C
  sub : ∀ x ∈ D, x ∈ C
  get : ∀ i (h : i < D.length), ∃ h' : i < C.length, C[i] = D[i]
  same : gr = false → C = D ∧ gr0 = false ∧ ∀ p ∈ P.take q, p ∈ D
  less : gr = true → gr0 = true ∨ Tm.rem (Tm.accN l) C < Tm.rem (Tm.accN l) D
theorem Lq.start {l C0 D : List Tm} {gr : Bool} {j : Nat} {P : List Tm} (h : Tm.Inv l D) : Lq l C0 D D gr gr j 0 P := ⟨h, fun _ h => h, fun i h => ⟨h, rfl⟩, fun h => ⟨rfl, h, fun p hp => by simp at hp⟩, fun h => .inl h⟩
theorem Lq.step {l C0 D C : List Tm} {gr0 gr : Bool} {j q : Nat} {t : Tm} {P : List Tm} (h : Lq l C0 D C gr0 gr j q P) (ht : t ∈ D) (hP : P = Tm.parts D t) (hq : q < P.length) : Lq l C0 D (Tm.put C P[q]) gr0 (decide (P[q] ∉ C) || gr) j (q + 1) P := by
  have hp : P[q] ∈ Tm.parts D t := hP ▸ List.getElem_mem hq
  refine ⟨h.inv.addP h.sub ht hp, fun x hx => Tm.put_mem.2 (.inl (h.sub x hx)), fun i hi => ?_, fun hg => ?_, fun hg => ?_⟩
  · obtain ⟨h1, h2⟩ := h.get i hi
    obtain ⟨h3, h4⟩ := Tm.put_take (t := P[q]) h1
    exact ⟨h3, h4.trans h2⟩
  · simp only [Bool.or_eq_false_iff, decide_eq_false_iff_not, Classical.not_not] at hg
    obtain ⟨e1, e2, e3⟩ := h.same hg.2
    have hin : P[q] ∈ C := hg.1
    refine ⟨by unfold Tm.put; rw [if_pos hin]; exact e1, e2, fun p hp => ?_⟩
    rw [List.take_succ_eq_append_getElem hq] at hp
    rcases List.mem_append.1 hp with hp | hp
    · exact e3 p hp
    · simp at hp; rw [hp, ← e1]; exact hin
  · by_cases hin : P[q] ∈ C
    · have hg' : gr = true := by simpa [hin] using hg
      unfold Tm.put; rw [if_pos hin]
      exact h.less hg'
    · refine .inr (Tm.rem_lt (fun x hx => Tm.put_mem.2 (.inl (h.sub x hx))) (y := P[q]) ?_ (fun hd => hin (h.sub _ hd)) (Tm.put_mem.2 (.inr rfl)))
      exact (h.inv.addP h.sub ht hp).acc _ (Tm.put_mem.2 (.inr rfl))
theorem Lq.done {l C0 D C : List Tm} {gr0 gr : Bool} {j : Nat} {P : List Tm} (hp : Lp l C0 D gr0 j) (hj : j < D.length) (hP : P = Tm.parts D D[j]) (h : Lq l C0 D C gr0 gr j P.length P) : Lp l C0 C gr (j + 1) := by
  refine ⟨h.inv, fun x hx => h.sub x (hp.sub x hx), fun i hi => ?_, fun hg => ?_, fun hg => ?_⟩
  · obtain ⟨h1, h2⟩ := hp.get i hi
    obtain ⟨h3, h4⟩ := h.get i h1
    exact ⟨h3, h4.trans h2⟩
  · obtain ⟨e1, e2, e3⟩ := h.same hg
    obtain ⟨f1, f2⟩ := hp.same e2
    subst f1
    refine ⟨e1, fun i hi hij p hpp => ?_⟩
    by_cases e : i < j
    · exact f2 i hi e p hpp
    · have e' : i = j := by omega
      subst e'
      exact e3 p (by rw [List.take_length, hP]; exact hpp)
  · rcases h.less hg with e | e
    · exact Nat.lt_of_le_of_lt (Tm.rem_mono _ h.sub) (hp.less e)
    · exact Nat.lt_of_lt_of_le e (Tm.rem_mono _ hp.sub)
theorem Lp.closed {l C0 C : List Tm} {j : Nat} (h : Lp l C0 C false j) (hj : C.length ≤ j) : C = C0 ∧ Tm.Closed C := by
  obtain ⟨e, f⟩ := h.same rfl
  refine ⟨e, fun t ht p hp => ?_⟩
  subst e
  obtain ⟨i, hi, rfl⟩ := List.getElem_of_mem ht
  exact f i hi (by omega) p hp
set_option maxRecDepth 100000 in
set_option maxHeartbeats 6400000 in
theorem closed_any (l : List Tm) (a : Option Addr) (n c : Nat) (w : World) (ok : Nat → Prop) (hTL : TL ok w l a n) (hv : ∀ t ∈ l, Tm.valid t = true) (hl : l.length ≤ 60) (hA : (Tm.accN l).length ≤ 400) (hE : Env w) :
    Calls Tryd.prog 34 #[.slice a n c] w (ClPost l w) := by
  have hn : n ≤ 60 := by have := hTL.1; omega
  have HTL := Lib.hid hTL
  have HV := Lib.hid hv
  have HLN := Lib.hid hTL.1
  have HE := Lib.hid hE
  have HA := Lib.hid hA
  have hmm := @run_makeMap Tryd.prog
  clear hTL hv hE hl hA
  go_enter Tryd.func34, Tryd.ntmps34
  go_wp2_with fail
  go_step3
  go_wp2_with fail
  go_loopw [15] (fun i W => ∃ j : Nat, i = .int .i64 j ∧ j ≤ n ∧ Below w.heap.size w W) (fun i _ => n - (intOf i).toNat)
  case atStart => exact ⟨0, rfl, by omega, Below.refl _ _⟩
  case round =>
    obtain ⟨j, rfl, hj, hB⟩ := hrel
    by_cases hjn : j < n
    · have hjl : j < l.length := by have := HLN.out; omega
      obtain ⟨b, o, an, nn, cc, hea, hb, c0, c1, c2, ht⟩ := (HTL.out.below hB).2.2 j hjl
      subst hea
      have PA := pure_alloc wr (.cells #[.int .i64 l[j].op, .int .i64 l[j].num, .slice an nn cc] 28)
      have HVL := Lib.hid (valid_any l[j] an nn cc _ ok (ht.below PA))
      have HVT := Lib.hid (HV.out l[j] (List.getElem_mem hjl))
      have HB := Lib.hid (hB.trans (PA.mono hB.size))
      clear hB ht PA
      generalize l[j] = k at *
      have hlt : (j : Int) < n := by omega
      go_wp2_with fail
      refine HVL.out.mono ?_
      rintro e w3 ⟨rfl, hw3⟩
      rw [HVT.out]
      have HB3 := Lib.hid (HB.out.trans (hw3.mono HB.out.size))
      clear hw3 c0 c1 c2 HVL HVT HB
      go_wp2_with fail
      go_roundw
      case rel => exact ⟨j + 1, by go_num, by omega, HB3.out⟩
      case measure => simp [intOf]; omega
    have hjn' : ¬ ((j : Int) < n) := by omega
    have hn60 : ¬ ((60 : Int) < (n : Int)) := by omega
    obtain ⟨w2, rfl⟩ : ∃ w2 : World, w2 = wr := ⟨_, rfl⟩
    have HP2 := Lib.hid hB
    have HTL2 := Lib.hid (HTL.out.below hB)
    have HE2 := Lib.hid (HE.out.below hB)
    have HKN := Lib.hid (kn_made w2)
    have HP3 : Hid (Below w2.heap.size w2 ((w2.alloc (.map #[] 0)).alloc (.cells #[.slice none 0 0, .map (some w2.heap.size)] 75))) := (pure_alloc _ _).alloc (by simp) _
    clear hB HTL HE
    go_upto_region 10 with fail
    generalize (w2.alloc (.map #[] 0)).alloc (.cells #[.slice none 0 0, .map (some w2.heap.size)] 75) = w3 at *
    go_wp2_with fail
    clear hjn hjn' hj
    go_loopw [31] (fun i W => ∃ (j : Nat) (v : Value) (es : List Elem) (C : List Tm), i = .int .i64 j ∧ j ≤ n ∧ KN W (w2.heap.size + 2) (w2.heap.size + 1) w2.heap.size v es C ∧ Tm.Inv l C ∧ (∀ t ∈ l.take j, Tm.normal t ∈ C) ∧ Below w2.heap.size w2 W) (fun i _ => n - (intOf i).toNat)
    case atStart => exact ⟨0, _, _, _, rfl, by omega, HKN.out, Tm.Inv.nil l, fun t ht => by simp at ht, HP3.out⟩
    case round =>
      obtain ⟨j, v, es, C, rfl, hj, hKN, hI, hhas, hB⟩ := hrel
      have hCl : C.length ≤ 400 := by have h1 := hI.len; have h2 := HA.out; omega
      by_cases hjn : j < n
      · have hjl : j < l.length := by have := HLN.out; omega
        obtain ⟨b, o, an, nn, cc, hea, hb, c0, c1, c2, ht⟩ := (HTL2.out.below hB).2.2 j hjl
        subst hea
        have PA := pure_alloc wr (.cells #[.int .i64 l[j].op, .int .i64 l[j].num, .slice an nn cc] 28)
        have hvk := HV.out l[j] (List.getElem_mem hjl)
        have hvn := Tm.valid_normal hvk
        have hsk : l[j].size ≤ 2000 := by simp [Tm.valid] at hvk; exact hvk.1
        have hsn : (Tm.normal l[j]).size ≤ 2000 := by simp [Tm.valid] at hvn; exact hvn.1
        have HWN := Lib.hid (Tm.valid_wf hvn)
        have HNM := Lib.hid (normal_any l[j].size l[j] an nn cc _ ok (Nat.le_refl _) (ht.below PA) (by omega))
        have HKN1 := Lib.hid (hKN.pure PA)
        have HI1 := Lib.hid (hI.addN (List.getElem_mem hjl))
        have HB1 := Lib.hid (hB.trans (PA.mono hB.size))
        have HHS : Hid (∀ t ∈ l.take (j + 1), Tm.normal t ∈ Tm.put C (Tm.normal l[j])) := by
          show ∀ t ∈ l.take (j + 1), _
          intro t ht
          rw [List.take_succ_eq_append_getElem hjl] at ht
          rcases List.mem_append.1 ht with ht | ht
          · exact Tm.put_mem.2 (.inl (hhas t ht))
          · simp at ht; rw [ht]; exact Tm.put_mem.2 (.inr rfl)
        have hszw : wr.heap.size ≤ (wr.alloc (.cells #[.int .i64 l[j].op, .int .i64 l[j].num, .slice an nn cc] 28)).heap.size := PA.size
        clear hB ht PA hKN hI hhas hvk hvn
        generalize l[j] = k at *
        have hlt : (j : Int) < n := by omega
        go_wp2_with fail
        refine HNM.out.mono ?_
        rintro e w5 ⟨ra, rn, rc, rfl, ⟨hTR, hrc⟩, hw5⟩
        have HKN5 := Lib.hid (HKN1.out.pure hw5)
        have HB5 := Lib.hid (HB1.out.trans (hw5.mono HB1.out.size))
        have HTR5 : Hid (TR (okV (w2.heap.size + 2) (w2.heap.size + 1) v) w5 (Tm.normal k) ra rn) := hTR.imp fun b hb hl => by
          have h1 := HKN1.out.lt
          have h2 : (wr.alloc (.cells #[.int .i64 k.op, .int .i64 k.num, .slice an nn cc] 28)).heap.size ≤ b := hb
          exact ⟨by omega, by omega, fun e => by have := (own_lt HKN1.out.out.row e).1; omega⟩
        have HAD := Lib.hid (add_any (w2.heap.size + 2) (w2.heap.size + 1) w2.heap.size v es C (Tm.normal k) ra rn rc w5 HKN5.out HTR5.out hrc HWN.out (HE2.out.below HB5.out) (by omega) (by omega))
        clear hTR hw5 c0 c1 c2 HNM HKN1 HTR5
        go_wp2_with fail
        refine HAD.out.mono ?_
        rintro e w6 ⟨v', es', rfl, hKN6, _, hb6⟩
        have HKN6 : Hid (KN w6 (w2.heap.size + 2) (w2.heap.size + 1) w2.heap.size v' es' (Tm.put C (Tm.normal k))) := hKN6
        have HB6 := Lib.hid (HB5.out.trans (hb6 w2.heap.size (by omega) (Nat.le_refl _)))
        clear hKN6 hb6 HAD HKN5
        go_wp2_with fail
        go_roundw
        case rel => exact ⟨j + 1, v', es', _, by go_num, by omega, HKN6.out, HI1.out, HHS.out, HB6.out⟩
        case measure => simp [intOf]; omega
      have hjn' : ¬ ((j : Int) < n) := by omega
      have HHAS : Hid (∀ t ∈ l, Tm.normal t ∈ C) := by
        show ∀ t ∈ l, _
        rw [List.take_of_length_le (by have := HLN.out; omega)] at hhas
        exact hhas
      have HKN3 := Lib.hid hKN
      have HI3 := Lib.hid hI
      have HB3 := Lib.hid hB
      obtain ⟨w4, rfl⟩ : ∃ w4 : World, w4 = wr := ⟨_, rfl⟩
      clear hKN hI hB hhas
      go_wp2_with fail
      go_step3
      go_wp2_with fail
      clear hjn hjn' hj
      go_loopg [9] (Tm.rem (Tm.accN l) C) (fun gk _ W => ∃ (v : Value) (es : List Elem) (C1 : List Tm), Tm.rem (Tm.accN l) C1 ≤ gk ∧ KN W (w2.heap.size + 2) (w2.heap.size + 1) w2.heap.size v es C1 ∧ Tm.Inv l C1 ∧ (∀ t ∈ l, Tm.normal t ∈ C1) ∧ Below w2.heap.size w2 W)
      case atStart => exact ⟨_, _, _, Nat.le_refl _, HKN3.out, HI3.out, HHAS.out, HB3.out⟩
      case round =>
        obtain ⟨v, es, C1, hrem, hKN, hI, hhas, hB⟩ := hrel
        have HREM := Lib.hid hrem
        have HHS1 := Lib.hid hhas
        have HKN1 := Lib.hid hKN
        have HI1 := Lib.hid hI
        have HB1 := Lib.hid hB
        clear hrem hKN hI hhas hB HKN3 HI3 HB3 HHAS
        obtain ⟨w5, rfl⟩ : ∃ w5 : World, w5 = wr := ⟨_, rfl⟩
        go_wp2_with fail
        go_loopw [9, 10] (fun g i W => ∃ (gr : Bool) (j : Nat) (v : Value) (es : List Elem) (C : List Tm), g = .bool gr ∧ i = .int .i64 j ∧ j ≤ C.length ∧ KN W (w2.heap.size + 2) (w2.heap.size + 1) w2.heap.size v es C ∧ Lp l C1 C gr j ∧ Below w2.heap.size w2 W) (fun _ i _ => 401 - (intOf i).toNat)
        case atStart => exact ⟨false, 0, _, _, _, rfl, rfl, by omega, HKN1.out, Lp.start HI1.out, HB1.out⟩
        case round =>
          obtain ⟨gr, j, v, es, C, rfl, rfl, hj, hKN, hLp, hB⟩ := hrel
          have hCl : C.length ≤ 400 := by have h1 := hLp.inv.len; have h2 := HA.out; omega
          obtain ⟨va, vc, hvv⟩ := own_form hKN.out.row
          subst hvv
          have k0 := cell_of_arr hKN.blk 0
          simp at k0
          by_cases hjn : j < C.length
          rotate_left
          · have hjn' : ¬ ((j : Int) < (C.length : Int)) := by omega
            cases gr
            · obtain ⟨e1, e2⟩ := hLp.closed (by omega)
              have HCL : Hid (Tm.IsCl l C) := ⟨fun t ht => by rw [e1]; exact HHS1.out t ht, e2, hLp.inv.least⟩
              have HKB := Lib.hid (hKN.kb (by omega))
              have HBE := Lib.hid (HP2.out.trans (hB.mono HP2.out.size))
              clear hKN hLp hB e1 e2
              go_wp2_with fail
              try rw [Exit.noGoto_ret]
              go_ret2
              exact ⟨_, _, C, rfl, HKB.out, HCL.out, HBE.out⟩
            · have HLS := Lib.hid (hLp.less rfl)
              have HSB := Lib.hid hLp.sub
              have HIN := Lib.hid hLp.inv
              have HKE := Lib.hid hKN
              have HBE := Lib.hid hB
              clear hKN hLp hB
              go_wp2_with fail
              go_roundg (Tm.rem (Tm.accN l) C)
              case measure => have h1 := HREM.out; have h2 := HLS.out; omega
              case rel => exact ⟨_, _, C, Nat.le_refl _, HKE.out, HIN.out, fun t ht => HSB.out _ (HHS1.out t ht), HBE.out⟩
          have hok := hLp.inv.ok HV.out C[j] (List.getElem_mem hjn)
          obtain ⟨g, cap, hvg, ⟨hgb, hgc⟩, _, hget⟩ := hKN.out.get (by omega)
          have hel := hKN.out.len
          obtain ⟨c0, c1, c2, htj, hcj⟩ := hget j (by omega) hjn
          have HPA := Lib.hid (parts_any (w2.heap.size + 1) w2.heap.size C C[j] es[j].an es[j].nn es[j].cc wr _ htj hcj hok.1 (HE2.out.below hB) (hKN.kb (by omega)) (by omega))
          generalize es[j] = ej at *
          cases hvg
          have HKN4 := Lib.hid hKN
          have HLP := Lib.hid hLp
          have HB4 := Lib.hid hB
          have hjn' : (j : Int) < (C.length : Int) := by omega
          have HCJ : Hid (C[j] ∈ C) := List.getElem_mem hjn
          have HPE : Hid (Tm.parts C C[j] = Tm.parts C C[j]) := rfl
          clear hKN hLp hB hget htj hcj hok
          generalize hPd : Tm.parts C C[j] = P at *
          have HPd := Lib.hid hPd
          clear hPd HPE
          go_wp2_with fail
          refine HPA.out.mono ?_
          rintro e w6 ⟨pa, pn, pc, rfl, hTLp, hw6⟩
          have hpn := hTLp.2.1
          have HPN := Lib.hid hTLp.1
          have HTP := Lib.hid hTLp
          have HKN6 := Lib.hid (HKN4.out.pure hw6)
          have HB6 := Lib.hid (HB4.out.trans (hw6.mono HB4.out.size))
          clear hTLp hw6 HPA c0 c1 c2 k0 HKN4 HB4
          go_wp2_with fail
          go_loopw [9, 59] (fun g i W => ∃ (gr' : Bool) (q : Nat) (v : Value) (es : List Elem) (C' : List Tm), g = .bool gr' ∧ i = .int .i64 q ∧ q ≤ pn ∧ KN W (w2.heap.size + 2) (w2.heap.size + 1) w2.heap.size v es C' ∧ TL (okV (w2.heap.size + 2) (w2.heap.size + 1) v) W P pa pn ∧ Lq l C1 C C' gr gr' j q P ∧ Below w2.heap.size w2 W) (fun _ i _ => pn - (intOf i).toNat)
          case atStart => exact ⟨gr, 0, _, _, _, rfl, rfl, by omega, HKN6.out, HTP.out, Lq.start HLP.out.inv, HB6.out⟩
          case round =>
            obtain ⟨gr', q, v, es, C', rfl, rfl, hq, hKN, hTP, hLq, hB⟩ := hrel
            have hCl' : C'.length ≤ 400 := by have h1 := hLq.inv.len; have h2 := HA.out; omega
            by_cases hqn : q < pn
            · have hql : q < P.length := by have := HPN.out; omega
              obtain ⟨b, o, an, nn, cc, hea, hb, c0, c1, c2, ht⟩ := hTP.2.2 q hql
              subst hea
              have PA := pure_alloc wr (.cells #[.int .i64 P[q].op, .int .i64 P[q].num, .slice an nn cc] 28)
              have hLn := hLq.step HCJ.out HPd.out.symm hql
              have hokq := (hLn.inv.ok HV.out) P[q] (Tm.put_mem.2 (.inr rfl))
              have HLN' := Lib.hid hLn
              have HTP1 := Lib.hid (hTP.below PA)
              have HB1' := Lib.hid (hB.trans (PA.mono hB.size))
              have HAD := Lib.hid (add_any (w2.heap.size + 2) (w2.heap.size + 1) w2.heap.size v es C' P[q] an nn cc _ (hKN.pure PA) (ht.below PA) hb.2 hokq.1 (HE2.out.below HB1'.out) (by omega) (by omega))
              clear hKN hTP hLq hB ht PA hLn hokq hb
              generalize P[q] = k at *
              have hqlt : (q : Int) < pn := by omega
              go_wp2_with fail
              refine HAD.out.mono ?_
              rintro e w8 ⟨v8, es8, rfl, hKN8, hkp, hb8⟩
              have HKN8 : Hid (KN w8 (w2.heap.size + 2) (w2.heap.size + 1) w2.heap.size v8 es8 (Tm.put C' k)) := hKN8
              have HTP8 := Lib.hid (HTP1.out.keep hkp)
              have HB8 := Lib.hid (HB1'.out.trans (hb8 w2.heap.size (by omega) (Nat.le_refl _)))
              clear hKN8 hkp hb8 HAD HTP1 HB1' c0 c1 c2
              cases hdk : decide (k ∉ C')
              · rw [hdk] at HLN'
                clear hdk
                go_wp2_with fail
                go_roundw
                case rel => exact ⟨_, q + 1, v8, es8, _, rfl, by go_num, by omega, HKN8.out, HTP8.out, HLN'.out, HB8.out⟩
                case measure => simp [intOf]; omega
              · rw [hdk] at HLN'
                clear hdk
                go_wp2_with fail
                go_roundw
                case rel => exact ⟨_, q + 1, v8, es8, _, rfl, by go_num, by omega, HKN8.out, HTP8.out, HLN'.out, HB8.out⟩
                case measure => simp [intOf]; omega
            have hqn' : ¬ ((q : Int) < pn) := by omega
            have hqe : q = P.length := by have := HPN.out; omega
            have HLP2 : Hid (Lp l C1 C' gr' (j + 1)) := by
              rw [hqe] at hLq
              exact Lq.done HLP.out hjn HPd.out.symm hLq
            have hjC : j + 1 ≤ C'.length := by
              obtain ⟨h1, _⟩ := hLq.get j hjn
              omega
            have hc4 : ¬ ((400 : Int) < (C'.length : Int)) := by omega
            obtain ⟨va, vc, hvv⟩ := own_form hKN.out.row
            subst hvv
            have k0 := cell_of_arr hKN.blk 0
            simp at k0
            have HKN9 := Lib.hid hKN
            have HB9 := Lib.hid hB
            clear hKN hTP hLq hB hqe
            go_wp2_with fail
            go_roundw
            case rel => exact ⟨gr', j + 1, _, es, C', rfl, by go_num, hjC, HKN9.out, HLP2.out, HB9.out⟩
            case measure => simp [intOf]; omega
end Go.Proofs.YtkgbjoepjcenlaaDoor
