/- The walk of TwinForms. -/
import Derived.Test.YtkgbjoepjcenlaaDoorFd
namespace Go.Proofs.YtkgbjoepjcenlaaDoor
open Go.RowKit
namespace Tm
def nmv (t : Tm) : Tm := if valid t then normal t else .mk 0 0 []
def ner (t : Tm) : Int := if valid t then 0 else 1
def prt (t : Tm) : List UInt8 := if valid t then text t else []
def hashN : Nat → Tm | 0 => nm 100 | n + 1 => .mk 3 0 [hashN n]
theorem hashN_size : ∀ n, (hashN n).size = n + 1
  | 0 => rfl
  | n + 1 => by simp [hashN, size, sizes, hashN_size n]; omega
end Tm
def NaPost (t : Tm) (w : World) (e : Ending) (w' : World) : Prop := ∃ a n c, e = .returned (.tuple #[.agg #[.int .i64 (Tm.nmv t).op, .int .i64 (Tm.nmv t).num, .slice a n c], .int .i64 (Tm.ner t)]) ∧ (TR (fun b => w.heap.size ≤ b) w' (Tm.nmv t) a n ∧ n ≤ c) ∧ Below w.heap.size w w'
theorem normT_all (t : Tm) (a : Option Addr) (n c : Nat) (w : World) (ok : Nat → Prop) (hT : TR ok w t a n) (hs : t.size ≤ 1000000) : Calls Tryd.prog 16 #[.agg #[.int .i64 t.op, .int .i64 t.num, .slice a n c]] w (NaPost t w) := by
  cases hv : Tm.valid t with
  | true => exact (normT_any t a n c w ok hT hv).mono fun e w' ⟨a', n', c', he, hT', hb⟩ => ⟨a', n', c', by rw [he]; simp [Tm.nmv, Tm.ner, hv], by simpa [Tm.nmv, hv] using hT', hb⟩
  | false => exact (normT_bad t a n c w ok hT hs hv).mono fun e w' ⟨he, hb⟩ => ⟨none, 0, 0, by rw [he]; simp [Tm.nmv, Tm.ner, hv, Tm.op, Tm.num], ⟨by simp only [Tm.nmv, hv]; exact TR_iff.2 (TL.nil _ _ _), Nat.le_refl _⟩, hb⟩
theorem normR_all (t : Tm) (a : Option Addr) (n c : Nat) (w : World) (ok : Nat → Prop) (hT : TR ok w t a n) (hs : t.size ≤ 1000000) : Calls Tryd.prog 17 #[.agg #[.int .i64 t.op, .int .i64 t.num, .slice a n c]] w (NaPost t w) := by
  cases hv : Tm.valid t with
  | true => exact (normR_good t a n c w ok hT hv).mono fun e w' ⟨a', n', c', he, hT', hb⟩ => ⟨a', n', c', by rw [he]; simp [Tm.nmv, Tm.ner, hv], by simpa [Tm.nmv, hv] using hT', hb⟩
  | false => exact (normR_bad t a n c w ok hT hs hv).mono fun e w' ⟨he, hb⟩ => ⟨none, 0, 0, by rw [he]; simp [Tm.nmv, Tm.ner, hv, Tm.op, Tm.num], ⟨by simp only [Tm.nmv, hv]; exact TR_iff.2 (TL.nil _ _ _), Nat.le_refl _⟩, hb⟩
theorem print_all (t : Tm) (a : Option Addr) (n c : Nat) (w : World) (ok : Nat → Prop) (hT : TR ok w t a n) (hs : t.size ≤ 1000000) (hE : Env w) : Calls Tryd.prog 23 #[.agg #[.int .i64 t.op, .int .i64 t.num, .slice a n c]] w fun e w' => e = .returned (Str (Tm.prt t)) ∧ Below w.heap.size w w' := by
  cases hv : Tm.valid t with
  | true => exact (print_any t a n c w ok hT hv hE).mono fun e w' ⟨he, hb⟩ => ⟨by rw [he]; simp [Tm.prt, hv], hb⟩
  | false => exact (print_bad t a n c w ok hT hs hv).mono fun e w' ⟨he, hb⟩ => ⟨by rw [he]; simp [Tm.prt, hv], hb⟩
theorem printR_all (t : Tm) (a : Option Addr) (n c : Nat) (w : World) (ok : Nat → Prop) (hT : TR ok w t a n) (hs : t.size ≤ 1000000) (hE : Env w) : Calls Tryd.prog 24 #[.agg #[.int .i64 t.op, .int .i64 t.num, .slice a n c]] w fun e w' => e = .returned (Str (Tm.prt t)) ∧ Below w.heap.size w w' := by
  cases hv : Tm.valid t with
  | true => exact (printR_any t a n c w ok hT hv hE).mono fun e w' ⟨he, hb⟩ => ⟨by rw [he]; simp [Tm.prt, hv], hb⟩
  | false => exact (printR_bad t a n c w ok hT hs hv).mono fun e w' ⟨he, hb⟩ => ⟨by rw [he]; simp [Tm.prt, hv], hb⟩
section steps
variable {b : Nat} {V : List (Nat × Tm)} {o : Oper} {ρ : Operand → Value} {w : World}
theorem s_pure (hG : GS b V w) (f : FuncId) (args : Array Operand) (ts : Array TypeId) (ho : o.op = .call { callee := .value (.func f), args := args, argTypes := ts }) (hf : ρ (.func f) = .func (.func f) #[] #[]) {vals : Array Value} (hv : args.map ρ = vals) (hcf : ∀ w, (callFunc f vals).run Tryd.prog w = .ok (.enter f vals) w) {r : Value} (h : Calls Tryd.prog f vals w fun e w' => e = .returned r ∧ Below w.heap.size w w') : Rg.Does Tryd.prog o ρ w fun v w' => But b w w' ∧ GS b V w' ∧ (Fs.eq r).holds b v w' :=
  Rg.Does.call f (.func f) args ts ho hf hv hcf (h.mono fun e w' ⟨he, hb⟩ => ⟨_, he, (hG.pure hb).1, (hG.pure hb).2, rfl⟩)
theorem s_neqB (hG : GS b V w) (x y : Operand) (p : Bool) (ho : o.op = .binOp .neq 4 x y 4) (hx : ρ x = .bool p) (hy : ρ y = .bool p) : Rg.Does Tryd.prog o ρ w fun v w' => But b w w' ∧ GS b V w' ∧ (Fs.eq (.bool false)).holds b v w' := by
  refine Rg.Does.value (v := .bool false) (w' := w) ?_ ⟨But.refl _ _, hG, rfl⟩
  simp only [execOp, ho, hx, hy]
  cases p <;> go_simp
theorem s_neqI (hG : GS b V w) (x y : Operand) (p : Int) (ho : o.op = .binOp .neq 3 x y 3) (hx : ρ x = .int .i64 p) (hy : ρ y = .int .i64 p) : Rg.Does Tryd.prog o ρ w fun v w' => But b w w' ∧ GS b V w' ∧ (Fs.eq (.bool false)).holds b v w' := by
  refine Rg.Does.value (v := .bool false) (w' := w) ?_ ⟨But.refl _ _, hG, rfl⟩
  simp only [execOp, ho, hx, hy]
  go_simp
theorem s_neqE (hG : GS b V w) (x y : Operand) (p : Int) (ho : o.op = .binOp .neq 30 x y 30) (hx : ρ x = .int .i64 p) (hy : ρ y = .int .i64 p) : Rg.Does Tryd.prog o ρ w fun v w' => But b w w' ∧ GS b V w' ∧ (Fs.eq (.bool false)).holds b v w' := by
  refine Rg.Does.value (v := .bool false) (w' := w) ?_ ⟨But.refl _ _, hG, rfl⟩
  simp only [execOp, ho, hx, hy]
  go_simp
theorem s_neqS (hG : GS b V w) (x y : Operand) (p : ByteArray) (ho : o.op = .binOp .neq 9 x y 9) (hx : ρ x = .string p) (hy : ρ y = .string p) : Rg.Does Tryd.prog o ρ w fun v w' => But b w w' ∧ GS b V w' ∧ (Fs.eq (.bool false)).holds b v w' := by
  refine Rg.Does.value (v := .bool false) (w' := w) ?_ ⟨But.refl _ _, hG, rfl⟩
  simp only [execOp, ho, hx, hy]
  go_simp
theorem s_pick (hG : GS b V w) (c x y : Operand) (ho : o.op = .pick c x y) (hc : ρ c = .bool false) (hy : ρ y = .bool false) : Rg.Does Tryd.prog o ρ w fun v w' => But b w w' ∧ GS b V w' ∧ (Fs.eq (.bool false)).holds b v w' := by
  refine Rg.Does.value (v := .bool false) (w' := w) ?_ ⟨But.refl _ _, hG, rfl⟩
  simp only [execOp, ho, hc, hy]
  go_simp
end steps
theorem flat_at : ∀ (es : List Elem) (j : Nat) (h : j < es.length) (r : Nat) (u : Value), (Elem.cells es[j])[r]? = some u → ∀ xs : List Value, (es.flatMap Elem.cells ++ xs)[j * 3 + r]? = some u
  | e :: es, 0, h, r, u, hu, xs => by
    have hr : r < 3 := by
      rcases Nat.lt_or_ge r 3 with h | h
      · exact h
      · rw [List.getElem?_eq_none (by simpa [Elem.cells] using h)] at hu; cases hu
    simp only [List.flatMap_cons, List.append_assoc]
    rw [List.getElem?_append_left (by simp [Elem.cells]; omega)]
    simpa using hu
  | e :: es, j + 1, h, r, u, hu, xs => by
    simp only [List.flatMap_cons, List.append_assoc]
    rw [List.getElem?_append_right (by simp [Elem.cells]; omega)]
    have e1 : (j + 1) * 3 + r - (Elem.cells e).length = j * 3 + r := by simp [Elem.cells]; omega
    rw [e1]
    exact flat_at es j (by simpa using h) r u (by simpa using hu) xs
/-- A fifth term behind a row of four: a new row. -/
theorem append5 {w : World} {b g a : Nat} {l : List Tm} (hl : l.length = 4) (hT : TL (fun k => k ≠ b) w l (some ⟨g, 0, none⟩) 4) (hbw : b < w.heap.size) {t : Tm} {ta : Option Addr} {tn tc : Nat} (ha : w.heap[a]? = some (.cells #[.int .i64 t.op, .int .i64 t.num, .slice ta tn tc] 28 (0, 0))) (hTt : TR (fun k => k ≠ b) w t ta tn) (htc : tn ≤ tc) :
    ∃ h cap w', (Builtin.append_ #[23, 23] 23 #[.slice (some ⟨g, 0, none⟩) 4 4, .slice (some ⟨a, 0, none⟩) 1 1]).run Tryd.prog w = .ok (.slice (some ⟨h, 0, none⟩) 5 cap) w' ∧ TL (fun k => k ≠ b) w' (l ++ [t]) (some ⟨h, 0, none⟩) 5 ∧ RB w w' := by
  obtain ⟨i0, hi, hz0, hz1, hz2⟩ := info_parts inf28
  obtain ⟨es, hlen, hes⟩ := hT.elems 4 (by omega)
  have c0 := cell_of_arr ha 0
  have c1 := cell_of_arr ha 1
  have c2 := cell_of_arr ha 2
  simp at c0 c1 c2
  have hadd : ∀ (q j : Nat), (⟨q, 0, none⟩ : Addr).add j = ⟨q, 0 + j, none⟩ := fun q j => by unfold Addr.add; split <;> simp_all
  have hrun := run_append_grow (P := Tryd.prog) w 23 23 28 i0 _ Tryd.underlying23 hi hz0 ⟨g, 0, none⟩ 4 4 (es.flatMap Elem.cells) (by rw [flatMap_len, hlen, hz1]) (fun j v hj => by
    obtain ⟨i, r, hi', rfl, hr⟩ := flat_get _ _ _ hj
    have := (hes i hi' (by omega)).2.2.1 r v hr
    rw [hadd, ← Nat.add_assoc]; exact this) ⟨a, 0, none⟩ 1 1 [.int .i64 t.op, .int .i64 t.num, .slice ta tn tc] (by rw [hz1]; rfl) (fun j u hu => by
    rw [hadd, Nat.zero_add]
    rcases (show j = 0 ∨ j = 1 ∨ j = 2 ∨ 3 ≤ j by omega) with rfl | rfl | rfl | hj
    · simp at hu; subst hu; exact c0
    · simp at hu; subst hu; exact c1
    · simp at hu; subst hu; exact c2
    · rw [List.getElem?_eq_none (by simpa using hj)] at hu; cases hu) (by omega) (by omega) (by rw [hz2]; decide)
  have hB : RB w (w.drew.alloc (.cells ((es.flatMap Elem.cells).toArray ++ [Value.int .i64 t.op, .int .i64 t.num, .slice ta tn tc].toArray ++ Builtin.zeroCells (Value.agg #[.int .i64 0, .int .i64 0, .slice none 0 0]).cells (grownCap w (4 + 1) 4 28 - (4 + 1))) 28)) := RB.trans _ _ _ (RB.drew w) (pure_alloc _ _)
  refine ⟨w.heap.size, _, _, hrun, ⟨by simp [hl], by omega, fun j hj => ?_⟩, hB⟩
  have hN := alloc_new w.drew (.cells ((es.flatMap Elem.cells).toArray ++ [Value.int .i64 t.op, .int .i64 t.num, .slice ta tn tc].toArray ++ Builtin.zeroCells (Value.agg #[.int .i64 0, .int .i64 0, .slice none 0 0]).cells (grownCap w (4 + 1) 4 28 - (4 + 1))) 28)
  have hfl : (es.flatMap Elem.cells).length = 12 := by rw [flatMap_len, hlen]
  have hcell : ∀ k u, (es.flatMap Elem.cells ++ [Value.int .i64 t.op, .int .i64 t.num, .slice ta tn tc])[k]? = some u → (w.drew.alloc (.cells ((es.flatMap Elem.cells).toArray ++ [Value.int .i64 t.op, .int .i64 t.num, .slice ta tn tc].toArray ++ Builtin.zeroCells (Value.agg #[.int .i64 0, .int .i64 0, .slice none 0 0]).cells (grownCap w (4 + 1) 4 28 - (4 + 1))) 28)).cell? ⟨w.heap.size, k, none⟩ = some u := fun k u hu => by
    have := cell_of_arr hN k
    rw [show w.drew.heap.size = w.heap.size from rfl] at this
    rw [this]
    have hk : k < 15 := by
      rcases Nat.lt_or_ge k 15 with h | h
      · exact h
      · rw [List.getElem?_eq_none (by simp [hfl]; omega)] at hu; cases hu
    rw [Array.getElem?_append_left (by simp [hfl]; omega)]
    simpa using hu
  have hne : w.heap.size ≠ b := by omega
  by_cases hj4 : j < 4
  · obtain ⟨h1, h2, h3, h4⟩ := hes j (by omega) (by omega)
    have e1 : (l ++ [t])[j] = l[j]'(by omega) := List.getElem_append_left (by omega)
    rw [e1]
    have hg3 : ∀ r u, (Elem.cells (es[j]'(by omega)))[r]? = some u → (es.flatMap Elem.cells ++ [Value.int .i64 t.op, .int .i64 t.num, .slice ta tn tc])[j * 3 + r]? = some u := fun r u hu => flat_at es j (by omega) r u hu _
    refine ⟨w.heap.size, 0, _, _, _, rfl, ⟨hne, h2.2⟩, ?_, ?_, ?_, h4.below hB⟩
    · rw [Nat.zero_add]; exact hcell _ _ (hg3 0 _ (by simp [Elem.cells, h1]))
    · rw [Nat.zero_add]; exact hcell _ _ (hg3 1 _ (by simp [Elem.cells, h2.1]))
    · rw [Nat.zero_add]; exact hcell _ _ (hg3 2 _ (by simp [Elem.cells]))
  · obtain rfl : j = 4 := by simp [hl] at hj; omega
    have e1 : (l ++ [t])[4] = t := by rw [List.getElem_append_right (by omega)]; simp [hl]
    rw [e1]
    refine ⟨w.heap.size, 0, ta, tn, tc, rfl, ⟨hne, htc⟩, ?_, ?_, ?_, hTt.below hB⟩
    · refine hcell _ _ ?_
      rw [List.getElem?_append_right (by omega), hfl]; rfl
    · refine hcell _ _ ?_
      rw [List.getElem?_append_right (by omega), hfl]; rfl
    · refine hcell _ _ ?_
      rw [List.getElem?_append_right (by omega), hfl]; rfl
end Go.Proofs.YtkgbjoepjcenlaaDoor
