/- Joined texts. -/
import Derived.Test.YtelefkkkccilaaaGreatDoorJC
set_option linter.unusedVariables false
set_option linter.unusedSimpArgs false
namespace Go.Proofs.YtelefkkkccilaaaGreatDoor
open Am Go.RowKit
set_option maxRecDepth 100000
def itR (b:List UInt8) (R:Except Nat (Gt × Nat × Nat)) (lo bt:Bool):Except Nat (It × Nat × Nat × Bool × Bool):=match R with
 | .error e=>.error e
 | .ok (t,q,i)=>.ok (t.it b,q,i,lo || t.loose,bt || t.bad b)
def elR (b:List UInt8) (op:Bool) (mj:Nat) (lo bt:Bool) (R:Except Nat (List Gt × Nat × Nat)):Except Nat (List It × Nat × Nat × Bool × Bool):=match R with
 | .error e=>.error e
 | .ok (l,q,i)=>if op=true∧mj=5∧l.length % 2=1 then .error 4 else .ok (Gt.its b l,q,i,lo || Gt.looses l,bt || Gt.bads b l)
def cO (op:Bool) (cnt m:Nat):Option Nat:=if op then none else some (cnt - m)
def sevX (lw n:Nat):It:=if 25≤lw then .mk 8 (valP lw n) [] [] else .mk 7 n [] []
def SevK (b:List UInt8):Prop:=∀ (s ver p it:Nat) (lo bt:Bool) (lw n:Nat),lw < 28→n < 18446744073709551616→(25≤lw→n < 256 ^ 2 ^ (lw - 24))→AC Tryz.prog XU 152 [.ptr s ver 0,.agg [y8 7,y8 lw,uv n,iv (zsP lw)]] [RR ver b p it lo bt] fun r rows=>r=itS (sevX lw n)∧rows=[RR ver b p it (lo || loose7 lw n) bt]
theorem it_leaf {b:List UInt8} {mj lw p q n i:Nat} {lo bt:Bool} (hm:mj < 2) (hl:lw≠31):itR b (.ok (.mk mj lw p q n [],q,i)) lo bt=.ok (.mk mj n [] [],q,i,lo || decide (lw=31) || !decide (zsP lw=shortP n),bt):=by
 unfold itR;simp only;rw [Gt.loose_flat hl (by omega),Gt.bad_flat hl,show (mj==3)=false by simp;omega,decide_eq_true (show mj < 7 by omega),decide_eq_false hl];simp [Gt.it,show ¬ (mj=2∨mj=3) by omega,hm]
theorem it_str {b:List UInt8} {g lv p q mj lw n i:Nat} {lo bt:Bool} (hm:mj=2∨mj=3):itR b (if lw=31 then (match gl b g lv q (i + 1) none mj with | .error e=>.error e | .ok (l,r,j)=>.ok (.mk mj lw p r 0 l,r,j)) else if n≤b.length - q then .ok (.mk mj lw p (q + n) n [],q + n,i + 1) else .error 2) lo bt=txR b g lv q (i + 1) mj lw n (lo || decide (lw=31) || !decide (zsP lw=shortP n)) bt:=by
 unfold txR;by_cases h:lw=31
 ·subst h
  simp only [if_true];cases gl b g lv q (i + 1) none mj with
  | error e=>rfl
  | ok y=>
    obtain ⟨l,r,j⟩:=y;simp [itR,Gt.it,Gt.loose,Gt.bad,hm]
 ·simp only [if_neg h]
  by_cases hc:n≤b.length - q
  ·simp only [if_pos hc,itR]
   rw [Gt.loose_flat h (by omega),Gt.bad_flat h,decide_eq_true (show mj < 7 by omega),decide_eq_false h,show q + n - n=q by omega];simp [Gt.it,hm,h,show q + n - n=q by omega]
  ·simp only [if_neg hc,itR]
theorem it_sev {b:List UInt8} {lw p q n i:Nat} {lo bt:Bool} (hl:lw≠31):itR b (.ok (.mk 7 lw p q n [],q,i)) lo bt=.ok (sevX lw n,q,i,lo || decide (lw=31) || loose7 lw n,bt):=by
 simp [itR,Gt.it,Gt.loose,Gt.bad,Gt.looses,Gt.bads,sevX,hl,show (lw==31)=false by simpa using hl]
theorem it_els {b:List UInt8} {g lv p q mj lw n i:Nat} {lo bt:Bool} {c:Option Nat} (hm:mj=4∨mj=5∨mj=6) (hl:lw < 28∨lw=31):itR b (match gl b g lv q (i + 1) c 8 with | .error e=>.error e | .ok (l,r,j)=>if lw=31∧mj=5∧l.length % 2=1 then .error 4 else .ok (.mk mj lw p r n l,r,j)) lo bt=match elR b (decide (lw=31)) mj (lo || decide (lw=31) || !decide (zsP lw=shortP n)) bt (gl b g lv q (i + 1) c 8) with
 | .error e=>.error e
 | .ok (l,r,j,lo',bt')=>.ok (.mk mj (if mj=6 then n else 0) [] l,r,j,lo',bt'):=by
 cases gl b g lv q (i + 1) c 8 with
 | error e=>rfl
 | ok y=>
   obtain ⟨l,r,j⟩:=y;simp only [elR,decide_eq_true_eq];by_cases hc:lw=31∧mj=5∧l.length % 2=1
   ·rw [if_pos hc,if_pos hc];rfl
   ·rw [if_neg hc,if_neg hc]
    have h3:(mj==3)=false:=by simp;omega
    have h7:(mj==7)=false:=by simp;omega
    have h31:(lw==31)=decide (lw=31):=by by_cases h:lw=31 <;> simp [h]
    have hz:(zsP lw !=shortP n)= !decide (zsP lw=shortP n):=by by_cases h:zsP lw=shortP n <;> simp [h]
    simp only [itR,Gt.it,Gt.loose,Gt.bad,h3,h7,h31,hz,if_neg (show ¬ (mj=2∨mj=3) by omega),if_neg (show ¬ mj < 2 by omega),if_neg (show ¬ mj=7 by omega),decide_eq_true (show mj < 7 by omega),Bool.false_and,Bool.true_and,Bool.or_false,Bool.false_or,Bool.or_assoc]
theorem elR_err {b:List UInt8} {op:Bool} {mj:Nat} {lo bt:Bool} {g lv p it ck:Nat} {c:Option Nat} {e:Nat} (h:elR b op mj lo bt (gl b g lv p it c ck)=.error e):e≠0:=by
 unfold elR at h
 split at h
 ·rename_i hg;injection h with h;subst h;exact gl_err hg
 ·split at h
  ·injection h with h;omega
  ·cases h
def readP (b:List UInt8):Except Nat (Gt × Nat × Nat):=gi (b.take 4096) 600 0 0 0 8
def scanP (R:Except Nat (Gt × Nat × Nat)):Nat × Nat:=match R with
 | .error e=>(0,e)
 | .ok (_,p,_)=>(p,0)
def openP (mj:Nat) (R:Except Nat (List Gt × Nat × Nat)):Except Nat (List Gt × Nat × Nat):=match R with
 | .error e=>.error e
 | .ok (l,q,i)=>if mj=5∧l.length % 2=1 then .error 4 else .ok (l,q,i)
def restP (b:List UInt8) (g lv p it mj lw n:Nat):Except Nat (List Gt × Nat × Nat):=
 if mj=2∨mj=3 then
  if lw=31 then gl b g lv p it none mj else if n≤b.length - p then .ok ([],p + n,it) else .error 2
 else if mj < 2∨mj=7 then .ok ([],p,it)
 else if lw=31 then openP mj (gl b g (lv + 1) p it none 8) else gl b g (lv + 1) p it (some (cntP mj n)) 8
theorem gi_rest {b:List UInt8} {g lv p it ck:Nat}:gi b (g + 1) lv p it ck=match hdP b p it ck with
 | .error e=>.error e
 | .ok (mj,lw,n,_,q)=>if 4≤mj∧mj≤6∧8≤lv then .error 8 else match restP b g lv q (it + 1) mj lw n with
   | .error e=>.error e
   | .ok (l,r,i)=>.ok (.mk mj lw p r n l,r,i):=by
 rw [gi];cases hh:hdP b p it ck with
 | error e=>rfl
 | ok x=>
   obtain ⟨mj,lw,n,z,q⟩:=x;obtain ⟨_,_,hmj,_,_,_,_,_,_,h31,_,h310,_⟩:=hdP_ok hh;simp only;unfold restP;by_cases hm:mj=2∨mj=3
   ·have e1:¬ (4≤mj∧mj≤6∧8≤lv):=by omega
    simp only [if_pos hm,if_neg e1];by_cases hl:lw=31
    ·have hn0:=h310 hl
     subst hn0 hl;simp only [if_true];cases gl b g lv q (it + 1) none mj with
     | error e=>rfl
     | ok y=>rfl
    ·simp only [if_neg hl]
     by_cases hn:n≤b.length - q
     ·simp only [if_pos hn]
     ·simp only [if_neg hn]
   ·simp only [if_neg hm]
    by_cases hm2:mj < 2∨mj=7
    ·have e1:¬ (4≤mj∧mj≤6∧8≤lv):=by omega
     simp only [if_pos hm2,if_neg e1]
    ·simp only [if_neg hm2]
     by_cases h8:8≤lv
     ·have e1:4≤mj∧mj≤6∧8≤lv:=by omega
      rw [if_pos h8,if_pos e1]
     ·have e1:¬ (4≤mj∧mj≤6∧8≤lv):=by omega
      rw [if_neg h8,if_neg e1];by_cases hl:lw=31
      ·subst hl
       simp only [if_true];cases gl b g (lv + 1) q (it + 1) none 8 with
       | error e=>rfl
       | ok y=>
         obtain ⟨l,r,i⟩:=y;simp only [openP];by_cases hc:mj=5∧l.length % 2=1
         ·rw [if_pos hc,if_pos ⟨trivial,hc⟩]
         ·rw [if_neg hc,if_neg (fun h=>hc h.2)]
      ·simp only [if_neg hl]
       cases gl b g (lv + 1) q (it + 1) (some (cntP mj n)) 8 with
       | error e=>rfl
       | ok y=>
         obtain ⟨l,r,i⟩:=y;simp only;rw [if_neg (fun h=>hl h.1)]
theorem gi_en {b:List UInt8} {g lv p it ck:Nat} {t:Gt} {q i:Nat} (h:gi b g lv p it ck=.ok (t,q,i)):t.en=q:=by
 cases g with
 | zero=>simp [gi] at h
 | succ g=>
   rw [gi_rest] at h;cases hh:hdP b p it ck with
   | error e=>rw [hh] at h;cases h
   | ok x=>
     obtain ⟨mj,lw,n,z,r⟩:=x;rw [hh] at h;simp only at h
     split at h
     ·cases h
     ·cases hr:restP b g lv r (it + 1) mj lw n with
      | error e=>rw [hr] at h;cases h
      | ok y=>
        obtain ⟨l,u,j⟩:=y;rw [hr] at h;injection h with h
        simp only [Prod.mk.injEq] at h;obtain ⟨rfl,rfl,rfl⟩:=h
        rfl
end Go.Proofs.YtelefkkkccilaaaGreatDoor
