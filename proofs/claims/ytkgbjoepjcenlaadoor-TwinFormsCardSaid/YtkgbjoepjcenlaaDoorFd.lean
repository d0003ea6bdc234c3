/- The walk of sides. -/
import Derived.Test.YtkgbjoepjcenlaaDoorFc
namespace Go.Proofs.YtkgbjoepjcenlaaDoor
open Go.RowKit
def SdPost (raw : Tm) (b : Nat) (w : World) (e : Ending) (w' : World) : Prop := ∃ (t t2 t3 : Tm) (g : Nat), e = .returned (.slice (some ⟨g, 0, none⟩) 4 4) ∧ Tm.shaped t 5 = true ∧ Tm.shaped t2 3 = true ∧ Tm.shaped t3 4 = true ∧ TL (fun k => k ≠ b) w' [raw, t, .mk (raw.op % 9) raw.num [t, t2], t3] (some ⟨g, 0, none⟩) 4 ∧ Deck w' b ∧ But b w w'
theorem GS.stored {b : Nat} {V : List (Nat × Tm)} {w : World} (hD : Deck w b) {q : Nat} (hq : w.heap[q]? = some (.cells #[.int .i64 0, .int .i64 0, .slice none 0 0] 28 (0, 0))) (hqb : b < q) (hV : ∀ p ∈ V, (p.1 ≠ b ∧ p.1 ≠ q) ∧ ∃ a n c, w.heap[p.1]? = some (.cells #[.int .i64 p.2.op, .int .i64 p.2.num, .slice a n c] 28 (0, 0)) ∧ TR (fun k => k ≠ b ∧ k ≠ q) w p.2 a n ∧ n ≤ c) {x : Tm} {a : Option Addr} {n c : Nat} (hT : TR (fun k => k ≠ b ∧ k ≠ q) w x a n) (hn : n ≤ c) :
    GS b ((q, x) :: V) (((w.setCell ⟨q, 0, none⟩ (.int .i64 x.op)).setCell ⟨q, 1, none⟩ (.int .i64 x.num)).setCell ⟨q, 2, none⟩ (.slice a n c)) := by
  obtain ⟨S1, S2, S3⟩ := put3 hq (.int .i64 x.op) (.int .i64 x.num) (.slice a n c) _ rfl
  refine ⟨hD.keep fun j hj => S2 j (by omega), fun p hp => ?_⟩
  rcases List.mem_cons.1 hp with rfl | hp
  · exact ⟨by show q ≠ b; omega, a, n, c, S1, hT.keep fun k hk _ => ⟨S2 k hk.2, hk.1⟩, hn⟩
  · obtain ⟨hne, a', n', c', hb', hT', hn'⟩ := hV p hp
    exact ⟨hne.1, a', n', c', (S2 _ hne.2).trans hb', hT'.keep fun k hk _ => ⟨S2 k hk.2, hk.1⟩, hn'⟩
set_option maxHeartbeats 1600000 in
theorem sides_any (raw : Tm) (ra : Option Addr) (rn rc b : Nat) (w : World) (hd : Deck w b) (hT : TR (fun k => k < b) w raw ra rn) (hn : rn ≤ rc) : Calls Tryd.prog 13 #[.agg #[.int .i64 raw.op, .int .i64 raw.num, .slice ra rn rc], .pointer (some ⟨b, 0, none⟩)] w (SdPost raw b w) := by
  have P1 := pure_alloc w (.cells #[.int .i64 raw.op, .int .i64 raw.num, .slice ra rn rc] 28)
  have HN1 := Lib.hid (alloc_new w (.cells #[.int .i64 raw.op, .int .i64 raw.num, .slice ra rn rc] 28))
  have HD1 := Lib.hid (hd.below P1)
  have HT1 := Lib.hid (hT.below P1)
  have HB1 := Lib.hid (But.of_below (b := b) P1)
  have hbw : b < w.heap.size := hd.lt
  clear P1 hd hT
  go_enter Tryd.func13, Tryd.ntmps13
  go_wp2_with fail
  generalize (w.alloc (.cells #[.int .i64 raw.op, .int .i64 raw.num, .slice ra rn rc] 28)) = w1 at *
  refine (term_any 4 b w1 HD1.out (by omega)).mono ?_
  rintro e w2 ⟨t, ta, tn, tc, rfl, hs, ⟨hTt, htc⟩, hd2, hb2⟩
  have hs1 := lt_of_block HN1.out
  have HTT2 : Hid (TR (fun k => k ≠ b) w2 t ta tn) := hTt.imp fun k hk _ => by have h1 : w1.heap.size ≤ k := hk; omega
  have HN2 := Lib.hid ((hb2.block _ hs1 (by omega)).trans HN1.out)
  have HT2 : Hid (TR (fun k => k < b) w2 raw ra rn) := HT1.out.keep fun k hk hl => ⟨hb2.block k hl (by omega), hk⟩
  have HB2 := Lib.hid (HB1.out.trans hb2)
  have HD2 := Lib.hid hd2
  have HS := Lib.hid hs
  clear hTt hd2 hb2 hs1 HD1 HT1 HB1 HN1 hs
  have P3 := pure_alloc w2 (.cells #[.int .i64 t.op, .int .i64 t.num, .slice ta tn tc] 28)
  have N3 := alloc_new w2 (.cells #[.int .i64 t.op, .int .i64 t.num, .slice ta tn tc] 28)
  have HN2' := Lib.hid (Below.keep P3 HN2.out (lt_of_block HN2.out))
  have hw2 := lt_of_block HN2.out
  have HG3 : Hid (GS b [(w2.heap.size, t), (w.heap.size, raw)] (w2.alloc (.cells #[.int .i64 t.op, .int .i64 t.num, .slice ta tn tc] 28))) := by
    refine ⟨HD2.out.below P3, fun p hp => ?_⟩
    simp only [List.mem_cons, List.not_mem_nil, or_false] at hp
    rcases hp with rfl | rfl
    · exact ⟨by show w2.heap.size ≠ b; omega, ta, tn, tc, N3, HTT2.out.below P3, htc⟩
    · exact ⟨by show w.heap.size ≠ b; omega, ra, rn, rc, HN2'.out, (HT2.out.below P3).imp fun k hk _ => by have h1 : k < b := hk; omega, hn⟩
  have HT3 := Lib.hid (HT2.out.below P3)
  have HB3 := Lib.hid (HB2.out.trans (But.of_below P3))
  have HZ3 : Hid (w2.heap.size < (w2.alloc (.cells #[.int .i64 t.op, .int .i64 t.num, .slice ta tn tc] 28)).heap.size) := lt_of_block N3
  have HNR := HN2'
  clear P3 N3 HTT2 HN2 HT2 HB2 HD2 HN2'
  go_upto_region 2 with fail
  generalize (w2.alloc (.cells #[.int .i64 t.op, .int .i64 t.num, .slice ta tn tc] 28)) = w3 at *
  refine region_s (M := 11) [.eq (.pointer (some ⟨w.heap.size, 0, none⟩)), .eq (.int .i64 raw.op), .eq (.int .i64 (raw.op % 9)), .eq (.pointer (some ⟨w.heap.size, 1, none⟩)), .eq (.int .i64 raw.num), .tm t, .eq (.pointer (some ⟨b, 0, none⟩)), .tmd 3, .row t 3, .bld (raw.op % 9) raw.num t 3, .cell w3.heap.size] (by kernel_rfl) (by kernel_rfl) HG3.out ?_ ?_
  · refine ⟨fun vs W hR hG hd => ?_, fun vs W hR hG hd => ?_, fun vs W hR hG hd => ?_, fun vs W hR hG hd => ?_, fun vs W hR hG hd => ?_, fun vs W hR hG hd => ?_, fun vs W hR hG hd => ?_, fun vs W hR hG hd => ?_, fun vs W hR hG hd => ?_, fun vs W hR hG hd => ?_, fun vs W hR hG hd => ?_, trivial⟩
    · exact s_field hG (.tmp 2) w.heap.size 0 (.inl rfl) rfl (by kernel_rfl)
    · exact s_int hG (.tmp 9) w.heap.size 0 raw.op rfl (hd 0 (by decide)) (by obtain ⟨_, _, _, _, hb, _, _⟩ := hG.var (w.heap.size, raw) (by simp); exact cell_of_arr hb 0)
    · have e1 : vs 1 = .int .i64 raw.op := hd 1 (by decide)
      exact s_mod hG (.tmp 10) raw.op _ rfl (by kernel_rfl) (Eq.trans (show _ = #[vs 1, .int .i64 9] by kernel_rfl) (by rw [e1]))
    · exact s_field hG (.tmp 2) w.heap.size 1 (.inr rfl) rfl (by kernel_rfl)
    · exact s_int hG (.tmp 12) w.heap.size 1 raw.num rfl (hd 3 (by decide)) (by obtain ⟨_, _, _, _, hb, _, _⟩ := hG.var (w.heap.size, raw) (by simp); exact cell_of_arr hb 1)
    · exact s_load hG (.tmp 5) w2.heap.size t (by simp) rfl (by kernel_rfl)
    · exact Rg.Does.move (.tmp 1) rfl ⟨But.refl _ _, hG, show _ = _ by kernel_rfl⟩
    · have e6 : vs 6 = .pointer (some ⟨b, 0, none⟩) := hd 6 (by decide)
      exact s_term hG (.tmp 15) 2 (by omega) _ rfl (by kernel_rfl) (Eq.trans (show _ = #[vs 6, .int .i64 (2 : Nat)] by kernel_rfl) (by rw [e6]))
    · exact s_row hG (.tmp 14) (.tmp 16) t 3 rfl (hd 5 (by decide)) (hd 7 (by decide))
    · exact s_build hG (.tmp 11) (.tmp 13) (.tmp 17) (raw.op % 9) raw.num t 3 rfl (hd 2 (by decide)) (hd 4 (by decide)) (hd 8 (by decide))
    · exact s_alloc hG _ hR.size rfl
  intro vs W1 hR1 hG1 hf
  obtain ⟨t2, hs2, xa, xc, ev, hTL, hxc⟩ := hf 9 (by decide)
  obtain ⟨q, eq, hq, hlo, hqb⟩ := hf 10 (by decide)
  have hqb2 : b < q := by have := HZ3.out; omega
  simp only [Rg.putAll, Rg.putFrom, List.take_succ_cons, List.take_zero, List.drop_succ_cons, List.drop_zero, Act.put, List.setIfInBounds_toArray, List.set_cons_zero, List.set_cons_succ, ev, eq]
  clear ev eq hf
  have hT1 : TR (fun k => k < b) W1 raw ra rn := HT3.out.keep fun k hk hl => ⟨hR1.block k hl (by omega), hk⟩
  have hTX : TR (fun k => k ≠ b ∧ k ≠ q) W1 (Tm.mk (raw.op % 9) raw.num [t, t2]) xa 2 := by
    have h1 := tr_nz hq (t := .mk 1 0 [t, t2]) (by simp [Tm.nz, Tm.nzs, Tm.shaped_nz HS.out, Tm.shaped_nz hs2]) (TR_iff.2 hTL)
    exact TR_iff.2 (TR_iff.1 h1)
  have hraw : W1.heap[w.heap.size]? = some (.cells #[.int .i64 raw.op, .int .i64 raw.num, .slice ra rn rc] 28 (0, 0)) := (hR1.block _ (lt_of_block HNR.out) (by omega)).trans HNR.out
  obtain ⟨_, t5a, t5n, t5c, ht5, hT5, hn5⟩ := hG1.var (w2.heap.size, t) (by simp)
  have HS4 := Lib.hid (GS.stored (V := [(w2.heap.size, t), (w.heap.size, raw)]) hG1.deck hq hqb2 (fun p hp => by
    simp only [List.mem_cons, List.not_mem_nil, or_false] at hp
    have h3 := HZ3.out
    rcases hp with rfl | rfl
    · exact ⟨⟨by show w2.heap.size ≠ b; omega, by show w2.heap.size ≠ q; omega⟩, t5a, t5n, t5c, ht5, tr_nz hq (Tm.shaped_nz HS.out) hT5, hn5⟩
    · exact ⟨⟨by show w.heap.size ≠ b; omega, by show w.heap.size ≠ q; omega⟩, ra, rn, rc, hraw, hT1.imp fun k hk _ => by have h4 : k < b := hk; omega, hn⟩) (x := (Tm.mk (raw.op % 9) raw.num [t, t2])) hTX hxc)
  have HB4 : Hid (But b w (((W1.setCell ⟨q, 0, none⟩ (.int .i64 (raw.op % 9))).setCell ⟨q, 1, none⟩ (.int .i64 raw.num)).setCell ⟨q, 2, none⟩ (.slice xa 2 xc))) := by
    have h3 := HZ3.out
    exact (((HB3.out.trans hR1).setNew (by show w.heap.size ≤ q; omega) _).setNew (by show w.heap.size ≤ q; omega) _).setNew (by show w.heap.size ≤ q; omega) _
  have HS2 := Lib.hid hs2
  clear hR1 hG1 hTL hT1 hTX hraw ht5 hT5 hlo HG3 HT3 HB3 HNR hs2
  have r0 := cell_of_arr hq 0
  have r1 := cell_of_arr hq 1
  have r2 := cell_of_arr hq 2
  simp at r0 r1 r2
  have f0 := frozen_of_arr hq 0
  have f1 := frozen_of_arr hq 1
  have f2 := frozen_of_arr hq 2
  clear hq
  go_upto_region 3 with fail
  clear r0 r1 r2 f0 f1 f2
  have HS4' : Hid (GS b ((q, (Tm.mk (raw.op % 9) raw.num [t, t2])) :: [(w2.heap.size, t), (w.heap.size, raw)]) (((W1.setCell ⟨q, 0, none⟩ (.int .i64 (raw.op % 9))).setCell ⟨q, 1, none⟩ (.int .i64 raw.num)).setCell ⟨q, 2, none⟩ (.slice xa 2 xc))) := HS4.out
  clear HS4
  generalize (((W1.setCell ⟨q, 0, none⟩ (.int .i64 (raw.op % 9))).setCell ⟨q, 1, none⟩ (.int .i64 raw.num)).setCell ⟨q, 2, none⟩ (.slice xa 2 xc)) = w4 at *
  clear W1
  refine region_s (M := 6) [.tm raw, .tm t, .tm (Tm.mk (raw.op % 9) raw.num [t, t2]), .eq (.pointer (some ⟨b, 0, none⟩)), .tmd 4, .four raw t (Tm.mk (raw.op % 9) raw.num [t, t2]) 4] (by kernel_rfl) (by kernel_rfl) HS4'.out ?_ ?_
  · refine ⟨fun vs W hR hG hd => ?_, fun vs W hR hG hd => ?_, fun vs W hR hG hd => ?_, fun vs W hR hG hd => ?_, fun vs W hR hG hd => ?_, fun vs W hR hG hd => ?_, trivial⟩
    · exact s_load hG (.tmp 2) w.heap.size raw (by simp) rfl (by kernel_rfl)
    · exact s_load hG (.tmp 5) w2.heap.size t (by simp) rfl (by kernel_rfl)
    · exact s_load hG (.tmp 6) q (Tm.mk (raw.op % 9) raw.num [t, t2]) (by simp) rfl (by kernel_rfl)
    · exact Rg.Does.move (.tmp 1) rfl ⟨But.refl _ _, hG, show _ = _ by kernel_rfl⟩
    · have e3 : vs 3 = .pointer (some ⟨b, 0, none⟩) := hd 3 (by decide)
      exact s_term hG (.tmp 22) 3 (by omega) _ rfl (by kernel_rfl) (Eq.trans (show _ = #[vs 3, .int .i64 (3 : Nat)] by kernel_rfl) (by rw [e3]))
    · exact s_four hG (.tmp 19) (.tmp 20) (.tmp 21) (.tmp 23) raw t (Tm.mk (raw.op % 9) raw.num [t, t2]) 4 rfl (hd 0 (by decide)) (hd 1 (by decide)) (hd 2 (by decide)) (hd 4 (by decide))
  intro vs W1 hR1 hG1 hf
  obtain ⟨t3, hs3, g, ev5, hO⟩ := hf 5 (by decide)
  have HE : Hid (SdPost raw b w (.returned (.slice (some ⟨g, 0, none⟩) 4 4)) W1) := ⟨t, t2, t3, g, rfl, HS.out, HS2.out, hs3, hO, hG1.deck, HB4.out.trans hR1⟩
  clear hR1 hG1 hf hs3 hO
  simp only [Rg.putAll, Rg.putFrom, List.take_succ_cons, List.take_zero, List.drop_succ_cons, List.drop_zero, Act.put, List.setIfInBounds_toArray, List.set_cons_zero, List.set_cons_succ, ev5]
  clear ev5
  go_wp2_with fail
  go_ret
  exact HE.out
end Go.Proofs.YtkgbjoepjcenlaaDoor
