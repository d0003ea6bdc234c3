/- Headers: what they are with one more parameter, what they name, and what in them is critical, plainly. -/
import Derived.Test.YtelefkkkccilaaaGreatDoorHa
set_option linter.all false
namespace Go.Proofs.YtelefkkkccilaaaGreatDoor
namespace It
theorem map_form {x:It} (h:valid x=true) (hk:x.kind=5):x=mk 5 0 [] x.kids∧(pairsK x.kids).Pairwise klt:=by
 have he:=(mev h hk).1;have hw:=valid_wf8 h;cases x with
 | mk k n b ks=>
   have hk:k=5:=hk;subst hk;unfold wf at hw;rw [if_neg (by decide),if_neg (by decide),if_neg (by decide),if_neg (by decide),if_neg (by decide),if_pos (by decide),if_neg (by decide),if_pos rfl] at hw;simp only [Bool.and_eq_true,decide_eq_true_eq,if_neg (show ¬ (5:Int)=6 by decide)] at hw;obtain ⟨_,⟨⟨⟨hb,_⟩,hn⟩,_,ha⟩,_⟩:=hw;have he:ks.length % 2=0:=he;have ha:asc .none ks=true:=ha;rw [← flat_pairs ks he] at ha;have hb:b=[]:=List.isEmpty_iff.1 hb;have hn:n=0:=by simpa using hn
   subst hb;subst hn;exact ⟨rfl,(asc_none _).1 ha⟩
theorem build_same {x:It} (h:valid x=true) (hk:x.kind=5):buildP x.kids=.ok x:=by
 obtain ⟨e,ha⟩:=map_form h hk;have he:=(mev h hk).1;have hs:sortK (pairsK x.kids)=pairsK x.kids:=(sort_uniq (List.Perm.refl _) ha).symm;have hv:x.kids.all valid=true:=List.all_eq_true.2 fun y hy=>valid_kid h hy
 unfold buildP;rw [if_neg (by omega),if_neg (by rw [hv];decide),hs,(asc_none _).2 ha,flat_pairs _ he,if_neg (by decide),← e,if_neg (by rw [h];decide)]
inductive PH where
 | err (e:Nat)
 | ok (p u:It)
def getP (p u:It) (n:Int):Option It:=if hvalid p u=true then find2 p u n else .none
def putP (p u:It) (b:Bool) (n:Int) (v:It):PH:=
 if hvalid p u=false∨valid v=false then .err 1
 else if (find2 p u n).isSome=true then .err 7
 else match buildP ((if b=true then p else u).kids ++ [int n,v]) with
  | .err _=>.err 4
  | .ok m=>if hvalid (if b=true then m else p) (if b=true then u else m)=true then .ok (if b=true then m else p) (if b=true then u else m) else .err 4
def algP (p u:It):Int:=match getP p u 1 with
 | .none=>0
 | some x=>if x.kind=1 then -1 - (x.num:Int) else x.num
def knows (known:List Int) (y:It):Bool:=known.any fun n=>same y (int n)
def knowsL (known:List Int) (y:It):Bool:=known.any fun n=>decide (y.kind=(int n).kind) && decide (y.num=(int n).num)
def critP (p u:It) (known:List Int):Nat:=
 if hvalid p u=false then 1
 else match look p.kids (int 2) with
  | .none=>0
  | some c=>if c.kids.all (knows known)=true then 0 else 14
def critL (p u:It) (known:List Int):Nat:=
 if hvalid p u=false then 1
 else match look p.kids (int 2) with
  | .none=>0
  | some c=>if c.kids.all (knowsL known)=true then 0 else 14
theorem int_kind (n:Int):(int n).kind=0∨(int n).kind=1:=by
 unfold int;split
 ·exact .inr rfl
 ·exact .inl rfl
theorem int_form (n:Int):int n=mk (int n).kind (int n).num [] []:=by
 unfold int;split <;> rfl
theorem knows_eq {known:List Int} {y:It} (h:valid y=true):knowsL known y=knows known y:=by
 unfold knowsL knows;congr 1
 funext n
 rw [Bool.eq_iff_iff,Bool.and_eq_true,decide_eq_true_eq,decide_eq_true_eq,same_iff];constructor
 ·rintro ⟨h1,h2⟩
  have hk:=int_kind n;rw [← h1] at hk;rw [wf_plain (valid_wf8 h) hk,int_form n,h1,h2]
 ·intro e;rw [e];exact ⟨rfl,rfl⟩
theorem hvalid_maps {p u:It} (h:hvalid p u=true):(valid p=true∧p.kind=5)∧valid u=true∧u.kind=5:=by
 unfold hvalid mapOk at h;simp only [Bool.and_eq_true,decide_eq_true_eq] at h;exact ⟨⟨h.1.1.1.1.1.1.2,h.1.1.1.1.1.1.1⟩,h.1.1.1.1.2.1.2,h.1.1.1.1.2.1.1⟩
theorem crit_eq (p u:It) (known:List Int):critL p u known=critP p u known:=by
 unfold critL critP;by_cases h:hvalid p u=false
 ·rw [if_pos h,if_pos h]
 rw [if_neg h,if_neg h];have h:hvalid p u=true:=by simpa using h
 have hp:=(hvalid_maps h).1;cases hl:look p.kids (int 2) with
 | none=>rfl
 | some c=>
   have hc:=(pair_valid hp.1 hp.2 (look_some hl)).2;have:c.kids.all (knowsL known)=c.kids.all (knows known):=by
    rw [Bool.eq_iff_iff,List.all_eq_true,List.all_eq_true];exact ⟨fun h y hy=>by rw [← knows_eq (valid_kid hc hy)];exact h y hy,fun h y hy=>by rw [knows_eq (valid_kid hc hy)];exact h y hy⟩
   simp only [this]
theorem find_crit {p u:It} (h:hvalid p u=true):find2 p u 2=look p.kids (int 2):=by
 unfold hvalid at h;simp only [Bool.and_eq_true,Bool.not_eq_true'] at h;have h2:hasK u.kids (int 2)=false:=h.1.1.2;unfold find2;cases hl:look p.kids (int 2) with
 | some x=>rfl
 | none=>
   simp only;unfold hasK at h2;cases hq:look u.kids (int 2) with
   | none=>rfl
   | some x=>rw [hq] at h2;cases h2
end It
