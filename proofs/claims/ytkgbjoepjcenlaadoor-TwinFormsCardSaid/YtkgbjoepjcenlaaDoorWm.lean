/- Sets of terms in memory: the map of their texts; the walk of pub. -/
import Derived.Test.YtkgbjoepjcenlaaDoorWl
import Derived.StringKeys
namespace Go.Proofs.YtkgbjoepjcenlaaDoor
open Go.RowKit Go.Maps
/-- The map D tells the terms C by their texts. -/
def MapOf (D : DataW Unit) (C : List Tm) : Prop := ∀ t, Tm.wf t = true → D.atKey (.string (Tm.text t)) (.lit (.bool false)) = .lit (.bool (decide (t ∈ C)))
theorem MapOf.nil : MapOf (.map []) [] := fun t _ => rfl
theorem MapOf.add {D : DataW Unit} {C : List Tm} (h : MapOf D C) (hD : IsMap D) {t : Tm} (ht : Tm.wf t = true) : MapOf (D.put (.string (Tm.text t)) (.lit (.bool true))) (C ++ [t]) := fun u hu => by
  by_cases e : u = t
  · subst e
    rw [atKey_put_same hD (k := .string (Tm.text u)) (show WideAt.IsKeyLit (.string _) from trivial)]; simp
  · have hne : Lit.string (Tm.text u) ≠ Lit.string (Tm.text t) := fun h => e (Tm.text_eq hu ht (by injection h))
    rw [atKey_put_other hne, h u hu]
    simp [e]
/-- Block K is a set whose map is block M. -/
def KB (w : World) (K M : Nat) (C : List Tm) : Prop := (∃ v, w.heap[K]? = some (.cells #[v, .map (some M)] 75 (0, 0))) ∧ ∃ n D, w.ownsMap Tryd.prog 9 (plainElem Tryd.prog 4) M n D ∧ n ≤ 100000 ∧ MapOf D C
theorem own_map_keep {w w' : World} {k : TypeId} {R : Value → Option (DataW Unit × List MemPlace)} {b n : Nat} {D : DataW Unit} (h : w.ownsMap Tryd.prog k R b n D) (e : w'.heap[b]? = w.heap[b]?) : w'.ownsMap Tryd.prog k R b n D := by
  obtain ⟨es, clock, h1, h2⟩ := h
  exact ⟨es, clock, e.trans h1, h2⟩
theorem own_map_lt {w : World} {k : TypeId} {R : Value → Option (DataW Unit × List MemPlace)} {b n : Nat} {D : DataW Unit} (h : w.ownsMap Tryd.prog k R b n D) : b < w.heap.size := by
  obtain ⟨es, clock, h1, h2⟩ := h
  exact lt_of_block h1
theorem own_map_isMap {w : World} {k : TypeId} {R : Value → Option (DataW Unit × List MemPlace)} {b n : Nat} {D : DataW Unit} (h : w.ownsMap Tryd.prog k R b n D) : IsMap D := by
  obtain ⟨es, clock, h1, h2, h3, rfl⟩ := h
  exact ⟨_, rfl⟩
theorem KB.below {w w' : World} {K M : Nat} {C : List Tm} (h : KB w K M C) (k : Below w.heap.size w w') : KB w' K M C := by
  obtain ⟨⟨v, hv⟩, n, D, hm, hn, hD⟩ := h
  exact ⟨⟨v, Below.keep k hv (lt_of_block hv)⟩, n, D, own_map_keep hm (k.block M (own_map_lt hm)), hn, hD⟩
theorem keyStr (l : List UInt8) (h : l.length ≤ 1000000000) : keyOf Tryd.prog 9 (.string ⟨l.toArray⟩) = some (.string l) := by
  have := Go.WideMaps.keyOf_string_mk (P := Tryd.prog) Tryd.underlying9 (s := ⟨l.toArray⟩) (by show l.toArray.size ≤ maxLen; simp [maxLen]; omega)
  simpa using this
theorem wp_lookup_bool {P : Program} (w : World) {o : Oper} {a : Act} {K' : Act → World → Prop} {Q : Exit → Act → World → Prop}
    (m x : Operand) (t : TypeId) (hop : o.op = Op.lookup t m x false)
    (k e : TypeId) (K : Keyed P k) (ht : P.underlying t = some (.map k e)) (he : P.underlying e = some .bool) (hz : (zeroValue e).run P w = .ok (.bool false) w) (b n : Nat) (D : DataW Unit)
    (hm : a.eval m = .map (some b)) (hown : w.ownsMap P k (plainElem P e) b n D) (key : Value) (kl : Lit) (hx : a.eval x = key) (hkey : keyOf P k key = some kl) (r : Bool) (hat : D.atKey kl (.lit (.bool false)) = .lit (.bool r))
    (hK : K' (a.put o.dst (.bool r)) w) : o.wp P a w K' Q := by
  obtain ⟨v, ps, hrun, hv⟩ := hown.lookup K ht hz (zd := .lit (.bool false)) (zp := []) (plainElem_bool he false) hkey
  rw [hat] at hv
  have hvr : v = .bool r := by
    unfold plainElem at hv
    rw [he] at hv
    cases v <;> simp at hv
    rw [hv.1]
  subst hvr
  unfold Oper.wp
  simp [execOp, hop, hm, hx, hrun, Result.andThen]
  exact hK
set_option maxHeartbeats 400000 in
theorem pub_any (k : Tm) (a : Option Addr) (n c : Nat) (w : World) (ok : Nat → Prop) (hT : TR ok w k a n) (hnc : n ≤ c) :
    Calls Tryd.prog 49 #[.agg #[.int .i64 k.op, .int .i64 k.num, .slice a n c]] w fun e w' => ∃ g, e = .returned (.agg #[.int .i64 6, .int .i64 0, .slice (some ⟨g, 0, none⟩) 1 1]) ∧ TR (fun b => ok b ∨ w.heap.size ≤ b) w' (Tm.pub k) (some ⟨g, 0, none⟩) 1 ∧ Below w.heap.size w w' := by
  have HT := Lib.hid hT
  clear hT
  go_enter Tryd.func49, Tryd.ntmps49
  go_wp2_with fail
  have W3 : Hid (Below w.heap.size w (((w.alloc (.cells #[.int .i64 k.op, .int .i64 k.num, .slice a n c] 28)).alloc (.cells #[.int .i64 6, .int .i64 0, .slice (some ⟨w.heap.size + 1 + 1, 0, none⟩) 1 1] 28)).alloc (.cells #[.int .i64 k.op, .int .i64 k.num, .slice a n c] 28))) := ((pure_alloc _ _).alloc (by simp) _).alloc (by simp; omega) _
  have N2 : (((w.alloc (.cells #[.int .i64 k.op, .int .i64 k.num, .slice a n c] 28)).alloc (.cells #[.int .i64 6, .int .i64 0, .slice (some ⟨w.heap.size + 1 + 1, 0, none⟩) 1 1] 28)).alloc (.cells #[.int .i64 k.op, .int .i64 k.num, .slice a n c] 28)).heap[w.heap.size + 1 + 1]? = some (.cells #[.int .i64 k.op, .int .i64 k.num, .slice a n c] 28 (0, 0)) := alloc_new' _ _ _ (by simp)
  have N1 : (((w.alloc (.cells #[.int .i64 k.op, .int .i64 k.num, .slice a n c] 28)).alloc (.cells #[.int .i64 6, .int .i64 0, .slice (some ⟨w.heap.size + 1 + 1, 0, none⟩) 1 1] 28)).alloc (.cells #[.int .i64 k.op, .int .i64 k.num, .slice a n c] 28)).heap[w.heap.size + 1]? = some (.cells #[.int .i64 6, .int .i64 0, .slice (some ⟨w.heap.size + 1 + 1, 0, none⟩) 1 1] 28 (0, 0)) := alloc_keep (alloc_new' _ _ _ (by simp))
  generalize (((w.alloc (.cells #[.int .i64 k.op, .int .i64 k.num, .slice a n c] 28)).alloc (.cells #[.int .i64 6, .int .i64 0, .slice (some ⟨w.heap.size + 1 + 1, 0, none⟩) 1 1] 28)).alloc (.cells #[.int .i64 k.op, .int .i64 k.num, .slice a n c] 28)) = w3 at *
  have p0 := cell_of_arr N1 0
  have p1 := cell_of_arr N1 1
  have p2 := cell_of_arr N1 2
  simp at p0 p1 p2
  refine bodyPost_ret (v := .agg #[.int .i64 6, .int .i64 0, .slice (some ⟨w.heap.size + 1 + 1, 0, none⟩) 1 1]) (by simp [results, Tryd.results49, go_sem, p0, p1, p2]) rfl ?_
  refine ⟨_, rfl, TR_iff.2 ⟨rfl, by omega, fun j hj => ?_⟩, W3.out⟩
  have e : j = 0 := by simp [Tm.pub, Tm.kids] at hj; exact hj
  subst e
  refine ⟨w.heap.size + 1 + 1, 0, a, n, c, rfl, ⟨.inr (by omega), hnc⟩, cell_of_arr N2 0, cell_of_arr N2 1, cell_of_arr N2 2, (HT.out.below W3.out).imp fun b hb _ => .inl hb⟩
end Go.Proofs.YtkgbjoepjcenlaaDoor
