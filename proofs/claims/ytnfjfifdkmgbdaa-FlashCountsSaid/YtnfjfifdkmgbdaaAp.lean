/- append onto a row of one's own, as an equation on its run: bytes, integers, slices. -/
import Derived.Test.YtnfjfifdkmgbdaaWk
import Derived.Maps.AppendAt
namespace Go.Proofs.Ytnfjfifdkmgbdaa
open Go.RowKit

/-- An append whose run is known, at the operation. -/
theorem wp_app {P : Program} {w w' : World} {o : Oper} {a : Act} {K : Act → World → Prop} {Q : Exit → Act → World → Prop} (s x : Operand) (t : TypeId) (ho : o.op = .call { callee := .builtin .append, args := #[s, x], argTypes := #[t, t] })
    {vs vx v' : Value} (hs : a.eval s = vs) (hx : a.eval x = vx) (hrun : (Builtin.append_ #[t, t] o.type #[vs, vx]).run P w = .ok v' w') (h : K (a.put o.dst v') w') : o.wp P a w K Q := by
  unfold Oper.wp execOp
  simp only [ho, resolve, invoke, builtin, Sem.run_bind, Sem.run_pure, Result.andThen_ok, List.map_toArray, List.map_cons, List.map_nil, hs, hx, hrun]
  exact h
theorem wpList_app {P : Program} {w w' : World} {ops : Array Oper} {rest : List Oper} {o : Oper} {a : Act} {Q : Exit → Act → World → Prop} (hgd : o.guard = none) (s x : Operand) (t : TypeId) (ho : o.op = .call { callee := .builtin .append, args := #[s, x], argTypes := #[t, t] })
    {vs vx v' : Value} (hs : a.eval s = vs) (hx : a.eval x = vx) (hrun : (Builtin.append_ #[t, t] o.type #[vs, vx]).run P w = .ok v' w') (h : wpList P ops Q rest (a.put o.dst v') w') : wpList P ops Q (o :: rest) a w :=
  wpList_plain hgd fun _ hK => wp_app s x t ho hs hx hrun (hK _ _ h)
/-- The source a, len holds the values xs, one cell each. -/
def Src1 (w : World) (a : Option Addr) (len : Nat) (xs : List Value) : Prop :=
  xs.length = len ∧ (∀ j u, xs[j]? = some u → ∃ b o, a = some ⟨b, o, none⟩ ∧ w.cell? ⟨b, o + j, none⟩ = some u) ∧ ∀ u ∈ xs, u.oneCell' = true
theorem app_run {P : Program} (w : World) (base : Nat) (t ty e : TypeId) (i : TypeInfo) (z : Value) (bytes : Nat) (ht : P.underlying t = some (.slice e)) (hi : P.info? e = some i) (hz : i.zero = some z)
    (hsize : i.size = 1) (hby : i.bytes = bytes) (hzs : z.cells.size = 1)
    (v : Value) (n : Nat) (xs : List Value) (hown : w.ownsRow base e 1 v n xs) (a : Option Addr) (len c : Nat) (news : List Value) (hs : Src1 w a len news)
    (h63 : n + len ≤ maxLen) (hbytes : (n + len) * bytes ≤ 140737488355328) (hbase : base ≤ w.heap.size) :
    ∃ v' w', (Builtin.append_ #[t, t] ty #[v, .slice a len c]).run P w = .ok v' w' ∧ w'.ownsRow base e 1 v' (n + len) (xs ++ news) ∧ w.grownBy w' v.ownBlock ∧
      (v'.ownBlock = v.ownBlock ∨ v'.ownBlock = some w.heap.size) := by
  obtain ⟨hl, hc, h1⟩ := hs
  cases a with
  | none =>
    have hn : news = [] := by
      cases news with
      | nil => rfl
      | cons x r => obtain ⟨b, o, h, _⟩ := hc 0 x rfl; cases h
    subst hn
    simp at hl
    subst hl
    refine ⟨v, w, ?_, by simpa using hown, ⟨rfl, rfl, rfl, Nat.le_refl _, fun _ _ _ => rfl⟩, .inl rfl⟩
    rcases hown.2 with ⟨rfl, rfl⟩ | ⟨g, cap, cur, rfl, _, _, hnc, _⟩
    · simp [Builtin.append_, run_underlying ht, sizeOf, typeInfo, hi, Builtin.lenOf, Builtin.firstCells]
    · simp [Builtin.append_, run_underlying ht, sizeOf, typeInfo, hi, Builtin.lenOf, Builtin.firstCells, hnc, storeCells]
  | some ad =>
    obtain ⟨v', w', h2, h3, h4, _, h5⟩ := run_append_own_at (P := P) w base t ty e i z 1 bytes ht hi hz hsize hby hzs (by omega) v n xs hown ad len c news (by omega) (fun j u hu => by
      obtain ⟨b, o, h, hcell⟩ := hc j u hu
      cases h
      have hadd : (⟨b, o, none⟩ : Addr).add j = ⟨b, o + j, none⟩ := by unfold Addr.add; split <;> simp_all
      rw [hadd]; exact hcell) h1 h63 hbytes hbase
    exact ⟨v', w', h2, h3, h4, h5⟩

theorem inf5 : (Try.prog.info? 5).map (fun i => (i.zero, i.size, i.bytes)) = some (some (.int .u8 0), 1, 1) := by kernel_rfl
theorem inf3 : (Try.prog.info? 3).map (fun i => (i.zero, i.size, i.bytes)) = some (some (.int .i64 0), 1, 8) := by kernel_rfl
theorem inf22 : (Try.prog.info? 22).map (fun i => (i.zero, i.size, i.bytes)) = some (some (.slice none 0 0), 1, 24) := by kernel_rfl

theorem Bs.src {w : World} {a : Option Addr} {len : Nat} {l : List UInt8} (h : Bs w a len l) : Src1 w a len (l.map bv) := by
  obtain ⟨h1, h2, h3⟩ := h
  refine ⟨by simpa using h1, fun j u hu => ?_, fun u hu => by simp at hu; obtain ⟨x, _, rfl⟩ := hu; rfl⟩
  have hj : j < l.length := by
    rcases Nat.lt_or_ge j l.length with h | h
    · exact h
    · simp [List.getElem?_eq_none h] at hu
  obtain ⟨b, o, e1, e2⟩ := h3 j (by omega)
  refine ⟨b, o, e1, ?_⟩
  rw [e2]
  simp [List.getElem?_eq_getElem hj] at hu
  rw [← hu]
  simp [bv, List.getElem?_eq_getElem hj]
theorem Is.src {w : World} {a : Option Addr} {len : Nat} {l : List Int} (h : Is w a len l) : Src1 w a len (l.map (Value.int .i64)) := by
  obtain ⟨h1, h2, h3⟩ := h
  refine ⟨by simpa using h1, fun j u hu => ?_, fun u hu => by simp at hu; obtain ⟨x, _, rfl⟩ := hu; rfl⟩
  have hj : j < l.length := by
    rcases Nat.lt_or_ge j l.length with h | h
    · exact h
    · simp [List.getElem?_eq_none h] at hu
  obtain ⟨b, o, e1, e2, _⟩ := h3 j (by omega)
  refine ⟨b, o, e1, ?_⟩
  rw [e2]
  simp [List.getElem?_eq_getElem hj] at hu
  rw [← hu]
  simp [List.getElem?_eq_getElem hj]

theorem own_form {w : World} {base e size : Nat} {v : Value} {n : Nat} {xs : List Value} (h : w.ownsRow base e size v n xs) : ∃ a c, v = .slice a n c := by
  rcases h.2 with ⟨rfl, rfl⟩ | ⟨g, cap, cur, rfl, _⟩
  · exact ⟨none, 0, rfl⟩
  · exact ⟨_, cap, rfl⟩
/-- append of bytes onto bytes of one's own. -/
theorem app_bytes (w : World) (base : Nat) (v : Value) (l : List UInt8) (h : OwnB w base v l) (a : Option Addr) (len c : Nat) (r : List UInt8) (hr : Bs w a len r) (hsz : l.length + len ≤ 1000000000000) (hb : base ≤ w.heap.size) :
    ∃ a' c' w', (Builtin.append_ #[22, 22] 22 #[v, .slice a len c]).run Try.prog w = .ok (.slice a' (l.length + len) c') w' ∧ OwnB w' base (.slice a' (l.length + len) c') (l ++ r) ∧ w.grownBy w' v.ownBlock ∧ ((Value.slice a' (l.length + len) c').ownBlock = v.ownBlock ∨ (Value.slice a' (l.length + len) c').ownBlock = some w.heap.size) := by
  obtain ⟨i0, hi, hz0, hz1, hz2⟩ := info_parts inf5
  obtain ⟨v', w', h1, h2, h3, h4⟩ := app_run (P := Try.prog) w base 22 22 5 i0 (.int .u8 0) 1 Try.underlying22 hi hz0 hz1 hz2 rfl v _ _ h a len c _ hr.src (by unfold maxLen; omega) (by omega) hb
  obtain ⟨a', c', rfl⟩ := own_form h2
  refine ⟨a', c', w', h1, ?_, h3, h4⟩
  unfold OwnB
  rw [List.length_append, List.map_append, hr.1]
  exact h2
theorem app_ints (w : World) (base : Nat) (v : Value) (l : List Int) (h : w.ownsRow base 3 1 v l.length (l.map (Value.int .i64))) (a : Option Addr) (len c : Nat) (r : List Int) (hr : Is w a len r) (hsz : l.length + len ≤ 1000000000000) (hb : base ≤ w.heap.size) :
    ∃ a' c' w', (Builtin.append_ #[27, 27] 27 #[v, .slice a len c]).run Try.prog w = .ok (.slice a' (l.length + len) c') w' ∧ w'.ownsRow base 3 1 (.slice a' (l.length + len) c') (l ++ r).length ((l ++ r).map (Value.int .i64)) ∧ w.grownBy w' v.ownBlock ∧ ((Value.slice a' (l.length + len) c').ownBlock = v.ownBlock ∨ (Value.slice a' (l.length + len) c').ownBlock = some w.heap.size) := by
  obtain ⟨i0, hi, hz0, hz1, hz2⟩ := info_parts inf3
  obtain ⟨v', w', h1, h2, h3, h4⟩ := app_run (P := Try.prog) w base 27 27 3 i0 (.int .i64 0) 8 Try.underlying27 hi hz0 hz1 hz2 rfl v _ _ h a len c _ hr.src (by unfold maxLen; omega) (by omega) hb
  obtain ⟨a', c', rfl⟩ := own_form h2
  refine ⟨a', c', w', h1, ?_, h3, h4⟩
  rw [List.length_append, List.map_append, hr.1]
  exact h2
/-- append of one slice onto slices of one's own. -/
theorem app_slice (w : World) (base : Nat) (v : Value) (vs : List Value) (h : w.ownsRow base 22 1 v vs.length vs) (g : Nat) (x : Value) (hx : w.heap[g]? = some (.cells #[x] 22 (0, 0))) (h1 : x.oneCell' = true) (hsz : vs.length ≤ 1000000000) (hb : base ≤ w.heap.size) :
    ∃ a' c' w', (Builtin.append_ #[30, 30] 30 #[v, .slice (some ⟨g, 0, none⟩) 1 1]).run Try.prog w = .ok (.slice a' (vs.length + 1) c') w' ∧ w'.ownsRow base 22 1 (.slice a' (vs.length + 1) c') (vs ++ [x]).length (vs ++ [x]) ∧ w.grownBy w' v.ownBlock ∧ ((Value.slice a' (vs.length + 1) c').ownBlock = v.ownBlock ∨ (Value.slice a' (vs.length + 1) c').ownBlock = some w.heap.size) := by
  obtain ⟨i0, hi, hz0, hz1, hz2⟩ := info_parts inf22
  obtain ⟨v', w', h2, h3, h4, h5⟩ := app_run (P := Try.prog) w base 30 30 22 i0 (.slice none 0 0) 24 Try.underlying30 hi hz0 hz1 hz2 rfl v _ _ h (some ⟨g, 0, none⟩) 1 1 [x] ⟨rfl, fun j u hu => by
    cases j with
    | zero => simp at hu; subst hu; exact ⟨g, 0, rfl, by rw [cell_of_arr hx]; rfl⟩
    | succ j => simp at hu, fun u hu => by simp at hu; subst hu; exact h1⟩ (by unfold maxLen; omega) (by omega) hb
  obtain ⟨a', c', rfl⟩ := own_form h3
  exact ⟨a', c', w', h2, by simpa using h3, h4, h5⟩
end Go.Proofs.Ytnfjfifdkmgbdaa
