/- Headers: what they are with one more parameter, what they name, and what in them is critical, plainly. -/
import Derived.Test.YtelefkkkccilaaaGreatDoorHa
set_option linter.unusedVariables false
set_option linter.unusedSimpArgs false
namespace Go.Proofs.YtelefkkkccilaaaGreatDoor
namespace It
theorem map_form {x:It} (h:valid x=true) (hk:x.kind=5):x=mk 5 0 [] x.kids∧(pairsK x.kids).Pairwise klt:=by
 have he:=(mev h hk).1;have hw:=valid_wf8 h;cases x with
 | mk k n b ks=>
   have hk:k=5:=hk;subst hk;unfold wf at hw;rw [if_neg (by decide),if_neg (by decide),if_neg (by decide),if_neg (by decide),if_neg (by decide),if_pos (by decide),if_neg (by decide),if_pos rfl] at hw;simp only [Bool.and_eq_true,decide_eq_true_eq,if_neg (show ¬ (5:Int)=6 by decide)] at hw;obtain ⟨_,⟨⟨⟨hb,_⟩,hn⟩,_,ha⟩,_⟩:=hw;have he:ks.length % 2=0:=he;have ha:asc .none ks=true:=ha;rw [← flat_pairs ks he] at ha;have hb:b=[]:=List.isEmpty_iff.1 hb;have hn:n=0:=by simpa using hn
   subst hb;subst hn;exact ⟨rfl,(asc_none _).1 ha⟩
theorem build_same {x:It} (h:valid x=true) (hk:x.kind=5):buildP x.kids=.ok x:=by
 obtain ⟨e,ha⟩:=map_form h hk;have he:=(mev h hk).1;have hs:sortK (pairsK x.kids)=pairsK x.kids:=(sort_uniq (List.Perm.refl _) ha).symm;have hv:x.kids.all valid=true:=List.all_eq_true.2 fun y hy=>valid_kid h hy
 unfold buildP;rw [if_neg (by omega),if_neg (by rw [hv];decide),hs,(asc_none _).2 ha,flat_pairs _ he,if_neg (by decide),← e,if_neg (by rw [h];decide)]
inductive PH where
 | err (e:Nat)
 | ok (p u:It)
def getP (p u:It) (n:Int):Option It:=if hvalid p u=true then find2 p u n else .none
def putP (p u:It) (b:Bool) (n:Int) (v:It):PH:=
 if hvalid p u=false∨valid v=false then .err 1
 else if (find2 p u n).isSome=true then .err 7
 else match buildP ((if b=true then p else u).kids ++ [int n,v]) with
  | .err _=>.err 4
  | .ok m=>if hvalid (if b=true then m else p) (if b=true then u else m)=true then .ok (if b=true then m else p) (if b=true then u else m) else .err 4
def algP (p u:It):Int:=match getP p u 1 with
 | .none=>0
 | some x=>if x.kind=1 then -1 - (x.num:Int) else x.num
theorem int_form (n:Int):int n=mk (int n).kind (int n).num [] []:=by
 unfold int;split <;> rfl
theorem hvalid_maps {p u:It} (h:hvalid p u=true):(valid p=true∧p.kind=5)∧valid u=true∧u.kind=5:=by
 unfold hvalid mapOk at h;simp only [Bool.and_eq_true,decide_eq_true_eq] at h;exact ⟨⟨h.1.1.1.1.1.1.2,h.1.1.1.1.1.1.1⟩,h.1.1.1.1.2.1.2,h.1.1.1.1.2.1.1⟩
end It
end Go.Proofs.YtelefkkkccilaaaGreatDoor
