/- How a term that came in reads. -/
import Derived.Test.YtkgbjoepjcenlaaDoorFf
import Derived.ProofKit
import Derived.OpenShut
import Derived.ChangeOld
import Derived.Lib.SmallJoins
import Derived.Lib.LaidTab
namespace Go.Proofs.YtkgbjoepjcenlaaDoor
open Go.ChangeShapes Go.WideShapes Go.ChangeAt Go.RowKit Go.Joins
theorem cells23 : Tryd.prog.cellsOf 23 = 1 := by kernel_rfl
theorem cells28 : Tryd.prog.cellsOf 28 = 3 := by kernel_rfl
theorem cells3 : Tryd.prog.cellsOf 3 = 1 := by kernel_rfl
/-- What a list of cells that reads as a term holds. -/
def Reads (w : World) (cs : List Value) (t : Tm) : Prop := ∃ a n c, cs = [.int .i64 t.op, .int .i64 t.num, .slice a n c] ∧ TR (fun _ => True) w t a n ∧ n ≤ c
set_option maxRecDepth 100000 in
theorem reads_of {H : Type} {enc : TypeId × Value → H} {w : World} {base : Nat} {spare : Nat → Bool} {held : Bool} : ∀ (m fuel : Nat), fuel ≤ m → ∀ (cs : List Value) (x : DataW H × List MemPlace), DataW.trod enc Tryd.prog w base spare held fuel 28 cs = some x → ∃ t, Reads w cs t := by
  intro m
  induction m with
  | zero =>
    intro fuel hf cs x h
    obtain ⟨xs, n, e, _⟩ := DataW.trod_struct Tryd.underlying28 h
    omega
  | succ m ih =>
    intro fuel hf cs x h
    obtain ⟨xs, n, e, _, hl, hlen, hfs⟩ := DataW.trod_struct Tryd.underlying28 h
    rw [cells28] at hl
    obtain ⟨v0, v1, v2, rfl⟩ : ∃ v0 v1 v2, cs = [v0, v1, v2] := by
      match cs, hl with
      | [v0, v1, v2], _ => exact ⟨v0, v1, v2, rfl⟩
    match xs, hlen with
    | [y0, y1, y2], _ =>
      have h0 : DataW.trod enc Tryd.prog w base spare held n 3 (List.take (Tryd.prog.cellsOf 3) [v0, v1, v2]) = some y0 := hfs 0 _ rfl
      have h1 : DataW.trod enc Tryd.prog w base spare held n 3 (List.take (Tryd.prog.cellsOf 3) [v1, v2]) = some y1 := hfs 1 _ rfl
      have h2 : DataW.trod enc Tryd.prog w base spare held n 23 (List.take (Tryd.prog.cellsOf 23) [v2]) = some y2 := hfs 2 _ rfl
      rw [cells3] at h0 h1
      rw [cells23] at h2
      have h0' : DataW.trod enc Tryd.prog w base spare held n 3 [v0] = some y0 := h0
      have h1' : DataW.trod enc Tryd.prog w base spare held n 3 [v1] = some y1 := h1
      have h2' : DataW.trod enc Tryd.prog w base spare held n 23 [v2] = some y2 := h2
      clear h0 h1 h2 hfs
      obtain ⟨op, e0, _, _⟩ := DataW.trod_int Tryd.underlying3 h0'
      obtain ⟨num, e1, _, _⟩ := DataW.trod_int Tryd.underlying3 h1'
      simp only [List.cons.injEq, and_true] at e0 e1
      subst e0 e1
      rcases DataW.trod_slice Tryd.underlying23 h2' with ⟨e2, _⟩ | ⟨a, len, cap, elems, rest, n2, en, e2, _, _, hlc, hcm, hel, hcells, _, _⟩
      · simp only [List.cons.injEq, and_true] at e2
        subst e2
        exact ⟨.mk op num [], none, 0, 0, rfl, TR_iff.2 (TL.nil _ _ _), Nat.le_refl _⟩
      · simp only [List.cons.injEq, and_true] at e2
        subst e2
        rw [cells28] at hcells
        have hsp : 0 < len → a.spot = none := by
          intro hi
          have hc := hcells 0 hi
          have hei : elems[0]? = some (elems[0]'(by omega)) := List.getElem?_eq_getElem (by omega)
          rw [hei] at hc
          obtain ⟨csi, hcs, _⟩ := Option.bind_eq_some_iff.1 hc
          unfold World.cells? at hcs
          split at hcs
          · obtain ⟨u0, _, k0⟩ := Lib.mapM_at hcs 0 0 rfl
            have := World.cell?_spot k0
            simpa [Addr.add] using this
          · cases hcs
        have hone : ∀ i, i < len → ∃ (t : Tm), EL (fun _ => True) w t (some a) i := by
          intro i hi
          have hc := hcells i hi
          have hei : elems[i]? = some (elems[i]'(by omega)) := List.getElem?_eq_getElem (by omega)
          rw [hei] at hc
          obtain ⟨csi, hcs, htr⟩ := Option.bind_eq_some_iff.1 hc
          obtain ⟨t, an, nn, cc, rfl, hT, hnc⟩ := ih n2 (by omega) csi _ htr
          unfold World.cells? at hcs
          split at hcs
          · obtain ⟨u0, g0, k0⟩ := Lib.mapM_at hcs 0 0 rfl
            obtain ⟨u1, g1, k1⟩ := Lib.mapM_at hcs 1 1 rfl
            obtain ⟨u2, g2, k2⟩ := Lib.mapM_at hcs 2 2 rfl
            simp at g0 g1 g2
            subst g0 g1 g2
            obtain ⟨bl, off, spot⟩ := a
            have hspot : spot = none := hsp (by omega)
            subst hspot
            have hadd : ∀ (q j : Nat), ((⟨bl, off, none⟩ : Addr).add q).add j = ⟨bl, off + q + j, none⟩ := fun q j => by
              have e1 : (⟨bl, off, none⟩ : Addr).add q = ⟨bl, off + q, none⟩ := by unfold Addr.add; split <;> simp_all
              rw [e1]
              unfold Addr.add; split <;> simp_all
            rw [hadd] at k0 k1 k2
            exact ⟨t, bl, off, an, nn, cc, rfl, ⟨trivial, hnc⟩, k0, k1, k2, hT⟩
          · cases hcs
        have hall : ∀ k, k ≤ len → ∃ ks : List Tm, ks.length = k ∧ ∀ j (h : j < ks.length), EL (fun _ => True) w ks[j] (some a) j := by
          intro k
          induction k with
          | zero => intro _; exact ⟨[], rfl, fun j h => by simp at h⟩
          | succ k ihk =>
            intro hk
            obtain ⟨ks, hks, hE⟩ := ihk (by omega)
            obtain ⟨t, ht⟩ := hone k (by omega)
            refine ⟨ks ++ [t], by simp [hks], fun j h => ?_⟩
            by_cases hj : j < ks.length
            · rw [List.getElem_append_left hj]; exact hE j hj
            · have hjk : j = ks.length := by simp at h; omega
              subst hjk
              rw [List.getElem_append_right (by omega)]
              simp only [Nat.sub_self, List.getElem_cons_zero]
              rw [hks]; exact ht
        obtain ⟨ks, hks, hE⟩ := hall len (Nat.le_refl _)
        have hm : len ≤ 9223372036854775807 := by unfold maxLen at hcm; omega
        exact ⟨.mk op num ks, some a, len, cap, rfl, TR_iff.2 ⟨hks.symm, hm, hE⟩, hlc⟩
end Go.Proofs.YtkgbjoepjcenlaaDoor
