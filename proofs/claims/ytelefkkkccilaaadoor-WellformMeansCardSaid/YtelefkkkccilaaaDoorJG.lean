/- Joined texts. -/
import Derived.Test.YtelefkkkccilaaaDoorJC
import Derived.Test.YtelefkkkccilaaaDoorJF
import Derived.Test.YtelefkkkccilaaaDoorLA
import Derived.Test.YtelefkkkccilaaaDoorJE
import Derived.Test.YtelefkkkccilaaaDoorLG
set_option linter.unusedVariables false
set_option linter.unusedSimpArgs false
namespace Go.Proofs.YtelefkkkccilaaaDoor
mutual
def Gt.ok:Gt→Prop
 | .mk mj lw _ _ n sub=>mj < 8∧(lw < 28∨lw=31)∧n < 18446744073709551616∧(lw=25→n < 65536)∧(lw=26→n < 4294967296)∧sub.length≤256∧Gt.oks sub
def Gt.oks:List Gt→Prop
 | []=>True
 | t :: l=>Gt.ok t∧Gt.oks l
end
mutual
theorem gi_ok {b:List UInt8}:∀ {g lv p it ck:Nat} {t:Gt} {q i:Nat},gi b g lv p it ck=.ok (t,q,i)→it≤256→p≤b.length→t.ok
 | 0,_,_,_,_,_,_,_,h,_,_=>by simp [gi] at h
 | g + 1,lv,p,it,ck,t,q,i,h,hi,hp=>by
   rw [gi] at h;cases hh:hdP b p it ck with
   | error e=>rw [hh] at h;cases h
   | ok x=>
     obtain ⟨mj,lw,n,z,r⟩:=x;obtain ⟨h1,h2,h3,h4,h5,h6,h7,h8,_⟩:=hdP_ok hh;have h7:=h7 (by omega);have h25:lw=25→n < 65536:=fun e=>by have:=hdP_num hh (by omega) (by omega);rw [e] at this;simpa using this
     have h26:lw=26→n < 4294967296:=fun e=>by have:=hdP_num hh (by omega) (by omega);rw [e] at this;simpa using this
     rw [hh] at h;simp only at h
     split at h
     ·split at h
      ·cases hg:gl b g lv r (it + 1) none mj with
       | error e=>rw [hg] at h;cases h
       | ok y=>
         obtain ⟨l,u,j⟩:=y;have h9:=gl_bd hg (by omega) h7;have h10:=gl_ok hg (by omega) h7;rw [hg] at h;injection h with h;simp only [Prod.mk.injEq] at h
         obtain ⟨rfl,rfl,rfl⟩:=h;exact ⟨h3,h8,by omega,by omega,by omega,by omega,h10⟩
      ·split at h
       ·injection h with h;simp only [Prod.mk.injEq] at h
        obtain ⟨rfl,rfl,rfl⟩:=h;exact ⟨h3,h8,h5,h25,h26,by simp,trivial⟩
       ·cases h
     ·split at h
      ·injection h with h;simp only [Prod.mk.injEq] at h
       obtain ⟨rfl,rfl,rfl⟩:=h;exact ⟨h3,h8,h5,h25,h26,by simp,trivial⟩
      ·split at h
       ·cases h
       ·cases hg:gl b g (lv + 1) r (it + 1) (if lw=31 then none else some (cntP mj n)) 8 with
        | error e=>rw [hg] at h;cases h
        | ok y=>
          obtain ⟨l,u,j⟩:=y;have h9:=gl_bd hg (by omega) h7;have h10:=gl_ok hg (by omega) h7;rw [hg] at h;simp only at h
          split at h
          ·cases h
          ·injection h with h;simp only [Prod.mk.injEq] at h
           obtain ⟨rfl,rfl,rfl⟩:=h;exact ⟨h3,h8,h5,h25,h26,by omega,h10⟩
theorem gl_ok {b:List UInt8}:∀ {g lv p it:Nat} {c:Option Nat} {ck:Nat} {l:List Gt} {q i:Nat},gl b g lv p it c ck=.ok (l,q,i)→it≤256→p≤b.length→Gt.oks l
 | 0,_,_,_,_,_,_,_,_,h,_,_=>by simp [gl] at h
 | g + 1,lv,p,it,c,ck,l,q,i,h,hi,hp=>by
   rw [gl] at h
   split at h
   ·injection h with h;simp only [Prod.mk.injEq] at h;obtain ⟨rfl,rfl,rfl⟩:=h;trivial
   ·split at h
    ·injection h with h;simp only [Prod.mk.injEq] at h;obtain ⟨rfl,rfl,rfl⟩:=h;trivial
    ·cases hg:gi b g lv p it ck with
     | error e=>rw [hg] at h;cases h
     | ok x=>
       obtain ⟨t,r,j⟩:=x;have h1:=gi_bd hg hi hp;have h3:=gi_ok hg hi hp;rw [hg] at h;simp only at h;cases hl:gl b g lv r j (c.map (· - 1)) ck with
       | error e=>rw [hl] at h;cases h
       | ok y=>
         obtain ⟨m,u,k⟩:=y;have h2:=gl_ok hl (by omega) (by omega);rw [hl] at h;injection h with h;simp only [Prod.mk.injEq] at h;obtain ⟨rfl,rfl,rfl⟩:=h
         exact ⟨h3,h2⟩
end
theorem flt_nan:(It.flt Fl.nan).length=3:=by decide +kernel
end Go.Proofs.YtelefkkkccilaaaDoor
namespace Go.Proofs.YtelefkkkccilaaaDoor
open Am Go.RowKit
set_option maxRecDepth 100000
section
variable {X:Ev}
section
variable (l:List Gt) (i:Nat)
theorem gtL_drop (h:i < l.length):(gtL l).drop (i * 7)=gtc l[i] ++ gtL (l.drop (i + 1)):=by
 induction l generalizing i with
 | nil=>simp at h
 | cons y l ih=>
   rw [gtL_cons];cases i with
   | zero=>simp [gtL_cons]
   | succ i=>
     have e:(i + 1) * 7=(gtc y).length + i * 7:=by simp;omega
     rw [e,List.drop_append,List.drop_eq_nil_of_le (by simp),List.nil_append];simpa using ih i (by simpa using h)
@[go_sem] theorem gtL_sub (h:i < l.length):sub (gtL l) i 7=gtc l[i]:=by
 unfold sub;rw [gtL_drop l i h]
 rfl
end
mutual
def Gt.nd:Gt→Nat
 | .mk _ _ _ _ _ l=>1 + Gt.nds l
def Gt.nds:List Gt→Nat
 | []=>0
 | t :: l=>Gt.nd t + Gt.nds l
end
end
end Go.Proofs.YtelefkkkccilaaaDoor
namespace Go.Proofs.YtelefkkkccilaaaDoor
namespace It
namespace Q
def pre (l:List It) (r:PR (List It)):PR (List It):=r.map (l ++ ·)
end Q
end It
end Go.Proofs.YtelefkkkccilaaaDoor
namespace Go.Proofs.YtelefkkkccilaaaDoor
open Am Go.RowKit
set_option maxRecDepth 100000
theorem AC.fb {P:Program} {X:Ev} {f:FuncId} {l:List UInt8} {args:List SV} (hgo:∀ vals w,(callFunc f vals).run P w=.ok (.enter f vals) w) (hc:∀ g w vals,agL g w args vals→Calls P f vals.toArray w (FB l w)):AC P X f args [] fun r rows=>r=bsl l∧rows=[]:=
 AC.fresh hgo fun g w vals _ ha=>(hc g w vals ha).mono fun e w' h=>by
  obtain ⟨a,c,he,_,h3,h4,h5,hB⟩:=h.open;exact ⟨a,c,he,h3,h4,h5,hB⟩
section
variable (X:Ev)
theorem rcmp_c (x y:List UInt8) (hx:x.length≤9223372036854775807) (hy:y.length≤9223372036854775807):AC Tryd.prog X 29 [bsl x,bsl y] [] fun r rows=>r=iv (It.cmpB x y)∧rows=[]:=
 AC.below Tryd.call29 fun g w vals hE ha=>by
  match vals,ha with
  | [v1,v2],ha=>
    obtain ⟨a,c,rfl,hc,hB⟩:=bro_of ha.1 hx;obtain ⟨a2,c2,rfl,hc2,hB2⟩:=bro_of ha.2.1 hy;exact (rcompare_any hB hB2 _ rfl).mono fun e w' ⟨h1,q,h2⟩=>⟨h1,h2 ▸ bd (Below.refl _ _) q⟩
end
end Go.Proofs.YtelefkkkccilaaaDoor
