/- The terms of an exchange, and when its result is secret. No program. -/
import Derived.Test.YtkgbjoepjcenlaaDoorPc
namespace Go.Proofs.YtkgbjoepjcenlaaDoor
namespace Tm
def nm (n : Int) : Tm := mk 1 n []
def pair (a b : Tm) : Tm := mk 2 0 [a, b]
def hash (a : Tm) : Tm := mk 3 0 [a]
def seal4 (a b c d : Tm) : Tm := mk 4 0 [a, b, c, d]
def sign (a b : Tm) : Tm := mk 5 0 [a, b]
def share (a b : Int) : Tm := mk 7 0 [nm a, nm b]
def kdf (k : Tm) (n : Int) (c : Tm) : Tm := mk 8 0 [k, pair (nm n) c]
/-- The five terms of an exchange: four messages and the result. R: the responder is known by a static key; I: the initiator. -/
structure Exch where
  m1 : Tm
  m2 : Tm
  m3 : Tm
  m4 : Tm
  res : Tm
section
variable (R I : Bool) (m x y i r : Int)
def eci : Tm := pair (nm 40) (pub (nm i))
def ecr : Tm := pair (nm 41) (pub (nm r))
def em1 : Tm := pair (nm (10 + m)) (pair (nm 20) (pair (pub (nm x)) (nm 30)))
def eth2 : Tm := hash (pair (pub (nm y)) (hash (em1 m x)))
def eprk2 : Tm := kdf (share x y) 50 (eth2 m x y)
def eprk3 : Tm := if R then kdf (pair (eprk2 m x y) (share x r)) 1 (eth2 m x y) else eprk2 m x y
def emac2 : Tm := kdf (eprk3 R m x y r) 2 (pair (eth2 m x y) (ecr r))
def eproof2 : Tm := if R then emac2 R m x y r else sign (nm r) (pair (eth2 m x y) (pair (ecr r) (emac2 R m x y r)))
def ep2 : Tm := pair (nm 31) (pair (ecr r) (eproof2 R m x y r))
def em2 : Tm := pair (pub (nm y)) (seal4 (kdf (eprk2 m x y) 0 (eth2 m x y)) (nm 0) (nm 0) (ep2 R m x y r))
def eth3 : Tm := hash (pair (eth2 m x y) (pair (ep2 R m x y r) (ecr r)))
def eprk4 : Tm := if I then kdf (pair (eprk3 R m x y r) (share i y)) 5 (eth3 R m x y r) else eprk3 R m x y r
def emac3 : Tm := kdf (eprk4 R I m x y i r) 6 (pair (eth3 R m x y r) (eci i))
def eproof3 : Tm := if I then emac3 R I m x y i r else sign (nm i) (pair (eth3 R m x y r) (pair (eci i) (emac3 R I m x y i r)))
def ep3 : Tm := pair (eci i) (eproof3 R I m x y i r)
def em3 : Tm := seal4 (kdf (eprk3 R m x y r) 3 (eth3 R m x y r)) (kdf (eprk3 R m x y r) 4 (eth3 R m x y r)) (eth3 R m x y r) (ep3 R I m x y i r)
def eth4 : Tm := hash (pair (eth3 R m x y r) (pair (ep3 R I m x y i r) (eci i)))
def eres : Tm := kdf (eprk4 R I m x y i r) 7 (eth4 R I m x y i r)
def em4 : Tm := seal4 (kdf (eprk4 R I m x y i r) 8 (eth4 R I m x y i r)) (kdf (eprk4 R I m x y i r) 9 (eth4 R I m x y i r)) (eth4 R I m x y i r) (nm 0)
end
/-! ### Other names -/
mutual
def ren (f : Int → Int) : Tm → Tm | mk o n ks => mk o (if o = 1 then f n else n) (rens f ks)
def rens (f : Int → Int) : List Tm → List Tm | [] => [] | k :: ks => ren f k :: rens f ks
end
theorem rens_length (f : Int → Int) : ∀ l : List Tm, (rens f l).length = l.length
  | [] => rfl
  | k :: ks => by simp [rens, rens_length f ks]
mutual
theorem size_ren (f : Int → Int) : ∀ t : Tm, (ren f t).size = t.size
  | mk o n ks => by simp [ren, size, sizes_rens f ks]
theorem sizes_rens (f : Int → Int) : ∀ l : List Tm, sizes (rens f l) = sizes l
  | [] => rfl
  | k :: ks => by simp [rens, sizes, size_ren f k, sizes_rens f ks]
end
mutual
theorem shaped_ren (f : Int → Int) (hf : ∀ n, 0 ≤ n → n ≤ 1000 → 0 ≤ f n ∧ f n ≤ 1000) : ∀ (t : Tm) (d : Nat), shaped t d = true → shaped (ren f t) d = true
  | mk o n ks, 0, h => by simp [shaped] at h
  | mk o n ks, d + 1, h => by
    simp only [shaped, Bool.and_eq_true] at h
    simp only [ren, shaped, Bool.and_eq_true, rens_length]
    refine ⟨?_, shapedL_rens f hf ks d h.2⟩
    have h1 := h.1
    by_cases ho : o = 1
    · subst ho
      obtain ⟨a1, a2, a3⟩ := okN_name h1
      have := hf n a2 a3
      simp [okN, arity, a1, this]
    · simpa [okN, ho] using h1
theorem shapedL_rens (f : Int → Int) (hf : ∀ n, 0 ≤ n → n ≤ 1000 → 0 ≤ f n ∧ f n ≤ 1000) : ∀ (l : List Tm) (d : Nat), shapedL l d = true → shapedL (rens f l) d = true
  | [], _, _ => by simp [rens, shapedL]
  | k :: ks, d, h => by
    simp only [shapedL, Bool.and_eq_true] at h
    simp only [rens, shapedL, Bool.and_eq_true]
    exact ⟨shaped_ren f hf k d h.1, shapedL_rens f hf ks d h.2⟩
end
theorem valid_ren (f : Int → Int) (hf : ∀ n, 0 ≤ n → n ≤ 1000 → 0 ≤ f n ∧ f n ≤ 1000) {t : Tm} (h : valid t = true) : valid (ren f t) = true := by
  simp [valid] at h ⊢
  exact ⟨by rw [size_ren]; exact h.1, shaped_ren f hf t 40 h.2⟩
def names4 (x y i r n : Int) : Int := if n = 100 then x else if n = 101 then y else if n = 102 then i else if n = 103 then r else n
/-- The method's number, and what it means. -/
def ofM (k : Nat) : Int := (k : Int)
def allOk (m : Int) (R I : Bool) : Bool := valid (em1 m 100) && valid (em2 R m 100 101 103) && valid (em3 R I m 100 101 102 103) && valid (em4 R I m 100 101 102 103) && valid (eres R I m 100 101 102 103)
theorem all_ok : allOk 0 false false = true ∧ allOk 1 true false = true ∧ allOk 2 false true = true ∧ allOk 3 true true = true := by decide +kernel
/-! ### Least sets, reckoned -/
def addP (E : List Tm) (p : Tm) : List Tm := if p ∈ E then E else E ++ [p]
def addsP (E l : List Tm) : List Tm := l.foldl addP E
def stepP (C : List Tm) : List Tm := C.foldl (fun D t => addsP D (parts D t)) C
def closeP : Nat → List Tm → List Tm
  | 0, C => C
  | n + 1, C => if (stepP C).length = C.length then C else closeP n (stepP C)
def closedB (C : List Tm) : Bool := C.all fun t => (parts C t).all fun p => decide (p ∈ C)
theorem closedB_iff {C : List Tm} (h : closedB C = true) : Closed C := fun t ht p hp => by
  simp only [closedB, List.all_eq_true, decide_eq_true_eq] at h
  exact h t ht p hp
theorem addP_mem {E : List Tm} {p x : Tm} : x ∈ addP E p ↔ x ∈ E ∨ x = p := by
  unfold addP; split
  · rename_i h; constructor
    · exact .inl
    · rintro (h1 | rfl)
      · exact h1
      · exact h
  · simp
theorem addsP_mem {l : List Tm} : ∀ {E : List Tm} {x : Tm}, x ∈ addsP E l ↔ x ∈ E ∨ x ∈ l := by
  induction l with
  | nil => simp [addsP]
  | cons p l ih =>
    intro E x
    have := @ih (addP E p) x
    simp only [addsP, List.foldl_cons] at this ⊢
    rw [this, addP_mem]
    simp [or_assoc]
/-- What holds of all of a set and goes over to parts holds of all that a step adds. -/
theorem stepP_least {Q : Tm → Prop} (hQ : ∀ D : List Tm, (∀ x ∈ D, Q x) → ∀ t ∈ D, ∀ p ∈ parts D t, Q p) {C : List Tm} (hC : ∀ x ∈ C, Q x) : ∀ x ∈ stepP C, Q x := by
  have go : ∀ (l D : List Tm), (∀ x ∈ l, x ∈ D) → (∀ x ∈ D, Q x) → ∀ x ∈ l.foldl (fun D t => addsP D (parts D t)) D, Q x := by
    intro l
    induction l with
    | nil => intro D _ h x hx; exact h x hx
    | cons t l ih =>
      intro D hl h x hx
      refine ih (addsP D (parts D t)) (fun y hy => addsP_mem.2 (.inl (hl y (by simp [hy])))) (fun y hy => ?_) x hx
      rcases addsP_mem.1 hy with hy | hy
      · exact h y hy
      · exact hQ D h t (hl t (by simp)) y hy
  exact go C C (fun _ h => h) hC
theorem stepP_has {C : List Tm} {x : Tm} (h : x ∈ C) : x ∈ stepP C := by
  have go : ∀ (l D : List Tm), x ∈ D → x ∈ l.foldl (fun D t => addsP D (parts D t)) D := by
    intro l
    induction l with
    | nil => intro D h; exact h
    | cons t l ih => intro D h; exact ih _ (addsP_mem.2 (.inl h))
  exact go C C h
theorem closeP_has : ∀ (n : Nat) {C : List Tm} {x : Tm}, x ∈ C → x ∈ closeP n C
  | 0, _, _, h => h
  | n + 1, _, _, h => by
    simp only [closeP]; split
    · exact h
    · exact closeP_has n (stepP_has h)
theorem closeP_least {Q : Tm → Prop} (hQ : ∀ D : List Tm, (∀ x ∈ D, Q x) → ∀ t ∈ D, ∀ p ∈ parts D t, Q p) : ∀ (n : Nat) {C : List Tm}, (∀ x ∈ C, Q x) → ∀ x ∈ closeP n C, Q x
  | 0, _, h => h
  | n + 1, _, h => by
    simp only [closeP]; split
    · exact h
    · exact closeP_least hQ n (stepP_least hQ h)
theorem closeP_isCl {l : List Tm} {n : Nat} (h : closedB (closeP n (addsP [] (l.map normal))) = true) : IsCl l (closeP n (addsP [] (l.map normal))) :=
  ⟨fun t ht => closeP_has n (addsP_mem.2 (.inr (by simpa using ⟨t, ht, rfl⟩))), closedB_iff h, fun Q h1 h2 => closeP_least h2 n fun x hx => by
    rcases addsP_mem.1 hx with hx | hx
    · simp at hx
    · simp only [List.mem_map] at hx
      obtain ⟨t, ht, rfl⟩ := hx
      exact h1 t ht⟩
/-- The messages of an exchange of the names 100 to 103, by method. -/
def msgs (k : Nat) : List Tm :=
  let R := k % 2 == 1; let I := decide (2 ≤ k)
  [normal (em1 k 100), normal (em2 R k 100 101 103), normal (em3 R I k 100 101 102 103), normal (em4 R I k 100 101 102 103)]
def resOf (k : Nat) : Tm := normal (eres (k % 2 == 1) (decide (2 ≤ k)) k 100 101 102 103)
def leaks (b0 b1 b2 b3 : Bool) : List Tm := (if b0 then [nm 100] else []) ++ (if b1 then [nm 101] else []) ++ (if b2 then [nm 102] else []) ++ (if b3 then [nm 103] else [])
def wantB (k : Nat) (x y i r : Bool) : Bool := (!x && !y) || (k % 2 == 1 && !x && !r) || (decide (2 ≤ k) && !i && !y)
def clOf (k : Nat) (l : List Tm) : List Tm := closeP 20 (addsP [] ((l ++ msgs k).map normal))
def secB (k : Nat) (b0 b1 b2 b3 : Bool) : Bool := closedB (clOf k (leaks b0 b1 b2 b3)) && (builds (clOf k (leaks b0 b1 b2 b3)) (normal (resOf k)) == !wantB k b0 b1 b2 b3)
theorem sec_all : ∀ k, k < 4 → ∀ b0 b1 b2 b3, secB k b0 b1 b2 b3 = true := by decide +kernel
theorem msgs_acc : ∀ k, k < 4 → (accN (msgs k)).length ≤ 200 := by decide +kernel
theorem msgs_valid : ∀ k, k < 4 → (msgs k).all valid = true ∧ valid (resOf k) = true := by decide +kernel
theorem sec_builds {k : Nat} (hk : k < 4) (b0 b1 b2 b3 : Bool) {C : List Tm} (hC : IsCl (leaks b0 b1 b2 b3 ++ msgs k) C) : builds C (normal (resOf k)) = !wantB k b0 b1 b2 b3 := by
  have h := sec_all k hk b0 b1 b2 b3
  simp only [secB, Bool.and_eq_true, beq_iff_eq] at h
  rw [hC.builds_eq (closeP_isCl h.1), ← h.2]; rfl
theorem em_ren (k : Nat) (hk : k < 4) (x y i r : Int) : (em1 k x = ren (names4 x y i r) (em1 k 100) ∧ em2 (k % 2 == 1) k x y r = ren (names4 x y i r) (em2 (k % 2 == 1) k 100 101 103) ∧ em3 (k % 2 == 1) (decide (2 ≤ k)) k x y i r = ren (names4 x y i r) (em3 (k % 2 == 1) (decide (2 ≤ k)) k 100 101 102 103) ∧ em4 (k % 2 == 1) (decide (2 ≤ k)) k x y i r = ren (names4 x y i r) (em4 (k % 2 == 1) (decide (2 ≤ k)) k 100 101 102 103)) ∧ eres (k % 2 == 1) (decide (2 ≤ k)) k x y i r = ren (names4 x y i r) (eres (k % 2 == 1) (decide (2 ≤ k)) k 100 101 102 103) := by
  rcases (show k = 0 ∨ k = 1 ∨ k = 2 ∨ k = 3 by omega) with rfl | rfl | rfl | rfl
  all_goals exact ⟨⟨rfl, rfl, rfl, rfl⟩, rfl⟩
theorem names4_bd {x y i r : Int} (hx : 0 ≤ x ∧ x ≤ 1000) (hy : 0 ≤ y ∧ y ≤ 1000) (hi : 0 ≤ i ∧ i ≤ 1000) (hr : 0 ≤ r ∧ r ≤ 1000) (n : Int) (h0 : 0 ≤ n) (h1 : n ≤ 1000) : 0 ≤ names4 x y i r n ∧ names4 x y i r n ≤ 1000 := by
  unfold names4
  split
  · exact hx
  · split
    · exact hy
    · split
      · exact hi
      · split
        · exact hr
        · exact ⟨h0, h1⟩
theorem em_valid (k : Nat) (hk : k < 4) {x y i r : Int} (hx : 0 ≤ x ∧ x ≤ 1000) (hy : 0 ≤ y ∧ y ≤ 1000) (hi : 0 ≤ i ∧ i ≤ 1000) (hr : 0 ≤ r ∧ r ≤ 1000) :
    valid (em1 k x) = true ∧ valid (em2 (k % 2 == 1) k x y r) = true ∧ valid (em3 (k % 2 == 1) (decide (2 ≤ k)) k x y i r) = true ∧ valid (em4 (k % 2 == 1) (decide (2 ≤ k)) k x y i r) = true ∧ valid (eres (k % 2 == 1) (decide (2 ≤ k)) k x y i r) = true := by
  obtain ⟨⟨e1, e2, e3, e4⟩, e5⟩ := em_ren k hk x y i r
  have hf := names4_bd hx hy hi hr
  have ok : allOk k (k % 2 == 1) (decide (2 ≤ k)) = true := by
    rcases (show k = 0 ∨ k = 1 ∨ k = 2 ∨ k = 3 by omega) with rfl | rfl | rfl | rfl
    · exact all_ok.1
    · exact all_ok.2.1
    · exact all_ok.2.2.1
    · exact all_ok.2.2.2
  simp only [allOk, Bool.and_eq_true] at ok
  obtain ⟨⟨⟨⟨o1, o2⟩, o3⟩, o4⟩, o5⟩ := ok
  exact ⟨e1 ▸ valid_ren _ hf o1, e2 ▸ valid_ren _ hf o2, e3 ▸ valid_ren _ hf o3, e4 ▸ valid_ren _ hf o4, e5 ▸ valid_ren _ hf o5⟩
end Tm
end Go.Proofs.YtkgbjoepjcenlaaDoor
