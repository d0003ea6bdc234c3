/- Joined texts. -/
import Derived.Test.YtelefkkkccilaaaDoorJC
import Derived.Test.YtelefkkkccilaaaDoorJF
import Derived.Test.YtelefkkkccilaaaDoorLA
import Derived.Test.YtelefkkkccilaaaDoorJE
import Derived.Test.YtelefkkkccilaaaDoorLG
set_option linter.unusedVariables false
set_option linter.unusedSimpArgs false
namespace Go.Proofs.YtelefkkkccilaaaDoor
mutual
def Gt.ok:Gt→Prop
 | .mk mj lw _ _ n sub=>mj < 8∧(lw < 28∨lw=31)∧n < 18446744073709551616∧(lw=25→n < 65536)∧(lw=26→n < 4294967296)∧sub.length≤256∧Gt.oks sub
def Gt.oks:List Gt→Prop
 | []=>True
 | t :: l=>Gt.ok t∧Gt.oks l
end
theorem Gt.oks_in:∀ {l:List Gt} {i:Nat} (h:i < l.length),Gt.oks l→(l[i]).ok
 | t :: l,0,_,h=>h.1
 | t :: l,i + 1,hi,h=>by simpa using Gt.oks_in (i:=i) (by simpa using hi) h.2
mutual
theorem gi_ok {b:List UInt8}:∀ {g lv p it ck:Nat} {t:Gt} {q i:Nat},gi b g lv p it ck=.ok (t,q,i)→it≤256→p≤b.length→t.ok
 | 0,_,_,_,_,_,_,_,h,_,_=>by simp [gi] at h
 | g + 1,lv,p,it,ck,t,q,i,h,hi,hp=>by
   rw [gi] at h;cases hh:hdP b p it ck with
   | error e=>rw [hh] at h;cases h
   | ok x=>
     obtain ⟨mj,lw,n,z,r⟩:=x;obtain ⟨h1,h2,h3,h4,h5,h6,h7,h8,_⟩:=hdP_ok hh;have h7:=h7 (by omega);have h25:lw=25→n < 65536:=fun e=>by have:=hdP_num hh (by omega) (by omega);rw [e] at this;simpa using this
     have h26:lw=26→n < 4294967296:=fun e=>by have:=hdP_num hh (by omega) (by omega);rw [e] at this;simpa using this
     rw [hh] at h;simp only at h
     split at h
     ·split at h
      ·cases hg:gl b g lv r (it + 1) none mj with
       | error e=>rw [hg] at h;cases h
       | ok y=>
         obtain ⟨l,u,j⟩:=y;have h9:=gl_bd hg (by omega) h7;have h10:=gl_ok hg (by omega) h7;rw [hg] at h;injection h with h;simp only [Prod.mk.injEq] at h
         obtain ⟨rfl,rfl,rfl⟩:=h;exact ⟨h3,h8,by omega,by omega,by omega,by omega,h10⟩
      ·split at h
       ·injection h with h;simp only [Prod.mk.injEq] at h
        obtain ⟨rfl,rfl,rfl⟩:=h;exact ⟨h3,h8,h5,h25,h26,by simp,trivial⟩
       ·cases h
     ·split at h
      ·injection h with h;simp only [Prod.mk.injEq] at h
       obtain ⟨rfl,rfl,rfl⟩:=h;exact ⟨h3,h8,h5,h25,h26,by simp,trivial⟩
      ·split at h
       ·cases h
       ·cases hg:gl b g (lv + 1) r (it + 1) (if lw=31 then none else some (cntP mj n)) 8 with
        | error e=>rw [hg] at h;cases h
        | ok y=>
          obtain ⟨l,u,j⟩:=y;have h9:=gl_bd hg (by omega) h7;have h10:=gl_ok hg (by omega) h7;rw [hg] at h;simp only at h
          split at h
          ·cases h
          ·injection h with h;simp only [Prod.mk.injEq] at h
           obtain ⟨rfl,rfl,rfl⟩:=h;exact ⟨h3,h8,h5,h25,h26,by omega,h10⟩
theorem gl_ok {b:List UInt8}:∀ {g lv p it:Nat} {c:Option Nat} {ck:Nat} {l:List Gt} {q i:Nat},gl b g lv p it c ck=.ok (l,q,i)→it≤256→p≤b.length→Gt.oks l
 | 0,_,_,_,_,_,_,_,_,h,_,_=>by simp [gl] at h
 | g + 1,lv,p,it,c,ck,l,q,i,h,hi,hp=>by
   rw [gl] at h
   split at h
   ·injection h with h;simp only [Prod.mk.injEq] at h;obtain ⟨rfl,rfl,rfl⟩:=h;trivial
   ·split at h
    ·injection h with h;simp only [Prod.mk.injEq] at h;obtain ⟨rfl,rfl,rfl⟩:=h;trivial
    ·cases hg:gi b g lv p it ck with
     | error e=>rw [hg] at h;cases h
     | ok x=>
       obtain ⟨t,r,j⟩:=x;have h1:=gi_bd hg hi hp;have h3:=gi_ok hg hi hp;rw [hg] at h;simp only at h;cases hl:gl b g lv r j (c.map (· - 1)) ck with
       | error e=>rw [hl] at h;cases h
       | ok y=>
         obtain ⟨m,u,k⟩:=y;have h2:=gl_ok hl (by omega) (by omega);rw [hl] at h;injection h with h;simp only [Prod.mk.injEq] at h;obtain ⟨rfl,rfl,rfl⟩:=h
         exact ⟨h3,h2⟩
end
def wv (lw n:Nat):Nat:=if lw=25 then Fl.widenH n else if lw=26 then Fl.widenS n else n
theorem nan_wH {n:Nat} (hn:n < 65536) (h:Fl.nanH n=true):Fl.isNaN (Fl.widenH n)=true∧(Fl.widenH n=Fl.nan↔n=32256)∧Fl.widenH n < 18446744073709551616:=by
 unfold Fl.nanH at h;simp only [Bool.and_eq_true,beq_iff_eq,bne_iff_ne,ne_eq] at h;have e:Fl.widenH n=n / 32768 * 9223372036854775808 + 9218868437227405312 + n % 1024 * 4398046511104:=by
  unfold Fl.widenH;simp only [h.1,if_true]
 rw [e];unfold Fl.isNaN Fl.nan;simp only [Bool.and_eq_true,beq_iff_eq,bne_iff_ne,ne_eq];omega
theorem nan_wS {n:Nat} (hn:n < 4294967296) (h:Fl.nanS n=true):Fl.isNaN (Fl.widenS n)=true∧Fl.widenS n < 18446744073709551616:=by
 unfold Fl.nanS at h;simp only [Bool.and_eq_true,beq_iff_eq,bne_iff_ne,ne_eq] at h;have e:Fl.widenS n=n / 2147483648 * 9223372036854775808 + 9218868437227405312 + n % 8388608 * 536870912:=by
  unfold Fl.widenS;simp only [h.1,if_true]
 rw [e];unfold Fl.isNaN;simp only [Bool.and_eq_true,beq_iff_eq,bne_iff_ne,ne_eq];omega
theorem flt_nan:(It.flt Fl.nan).length=3:=by decide +kernel
end Go.Proofs.YtelefkkkccilaaaDoor
namespace Go.Proofs.YtelefkkkccilaaaDoor
open Am Go.RowKit
set_option maxRecDepth 100000
section
variable {X:Ev}
theorem Gt.okf {t:Gt} (h:t.ok):t.mj < 8∧(t.lw < 28∨t.lw=31)∧t.n < 18446744073709551616∧(t.lw=25→t.n < 65536)∧(t.lw=26→t.n < 4294967296)∧t.sub.length≤256∧Gt.oks t.sub:=by
 obtain ⟨mj,lw,a,en,n,sub⟩:=t;exact h
theorem wv_lt {t:Gt} (ht:t.ok):wv t.lw t.n < 18446744073709551616:=by
 obtain ⟨h1,h2,h3,h4,h5,-⟩:=Gt.okf ht;unfold wv
 split
 ·rename_i h
  by_cases hN:Fl.nanH t.n=true
  ·exact (nan_wH (h4 h) hN).2.2
  ·exact (Fl.widenH_narrow (h4 h) (by simpa using hN)).2.1
 ·split
  ·rename_i h
   by_cases hN:Fl.nanS t.n=true
   ·exact (nan_wS (h5 h) hN).2
   ·exact (Fl.widenS_narrow (h5 h) (by simpa using hN)).2.1
  ·exact h3
theorem value_c (mj bg en:Int) (lw n k:Nat) (o:Bool) (cs:List SV) (hl:lw < 28) (hn:n < 18446744073709551616) (h4:lw=25→n < 65536) (h5:lw=26→n < 4294967296):AC Tryd.prog X 56 [.agg [iv mj,iv lw,iv bg,iv en,uv n,bov o,.sl k 7 cs]] [] fun r rows=>r=uv (wv lw n)∧rows=[]:=by
 obtain ⟨V,hV⟩:∃ V,V=wv lw n:=⟨_,rfl⟩;rw [← hV];have HV:=dh hV;clear hV;refine AC.bodyW false Tryd.func56 rfl Tryd.call56 Tryd.ntmps56 (by simp) fun e nx=>gw ?_
 go_simp
 refine ifd (fun h=>?_) (fun h=>?_) <;> go_simp
 ·obtain rfl:lw=25:=by omega
  refine cl [] [] (widenH_c n (h4 rfl)) (by go_simp) ?_;rintro r rows ⟨rfl,rfl⟩;go_simp
  rw [HV.out];unfold wv;rw [if_pos rfl]
 ·refine ifd (fun h'=>?_) (fun h'=>?_) <;> go_simp
  ·obtain rfl:lw=26:=by omega
   refine cl [] [] (widenS_c n (h5 rfl)) (by go_simp) ?_;rintro r rows ⟨rfl,rfl⟩;go_simp
   rw [HV.out];unfold wv;rw [if_neg (by omega),if_pos rfl]
  ·rw [HV.out];unfold wv;rw [if_neg (by omega),if_neg (by omega)]
section
variable (l:List Gt) (i:Nat)
theorem gtL_drop (h:i < l.length):(gtL l).drop (i * 7)=gtc l[i] ++ gtL (l.drop (i + 1)):=by
 induction l generalizing i with
 | nil=>simp at h
 | cons y l ih=>
   rw [gtL_cons];cases i with
   | zero=>simp [gtL_cons]
   | succ i=>
     have e:(i + 1) * 7=(gtc y).length + i * 7:=by simp;omega
     rw [e,List.drop_append,List.drop_eq_nil_of_le (by simp),List.nil_append];simpa using ih i (by simpa using h)
@[go_sem] theorem gtL_sub (h:i < l.length):sub (gtL l) i 7=gtc l[i]:=by
 unfold sub;rw [gtL_drop l i h]
 rfl
end
mutual
def Gt.nd:Gt→Nat
 | .mk _ _ _ _ _ l=>1 + Gt.nds l
def Gt.nds:List Gt→Nat
 | []=>0
 | t :: l=>Gt.nd t + Gt.nds l
end
theorem Gt.nds_in:∀ {l:List Gt} {i:Nat} (h:i < l.length),(l[i]).nd≤Gt.nds l
 | t :: l,0,_=>by simp [Gt.nds]
 | t :: l,i + 1,h=>by have:=Gt.nds_in (l:=l) (i:=i) (by simpa using h);simp [Gt.nds];omega
end
end Go.Proofs.YtelefkkkccilaaaDoor
namespace Go.Proofs.YtelefkkkccilaaaDoor
namespace It
namespace Q
def pre (l:List It) (r:PR (List It)):PR (List It):=r.map (l ++ ·)
end Q
end It
end Go.Proofs.YtelefkkkccilaaaDoor
namespace Go.Proofs.YtelefkkkccilaaaDoor
open Am Go.RowKit
set_option maxRecDepth 100000
theorem AC.fb {P:Program} {X:Ev} {f:FuncId} {l:List UInt8} {args:List SV} (hgo:∀ vals w,(callFunc f vals).run P w=.ok (.enter f vals) w) (hc:∀ g w vals,agL g w args vals→Calls P f vals.toArray w (FB l w)):AC P X f args [] fun r rows=>r=bsl l∧rows=[]:=
 AC.fresh hgo fun g w vals _ ha=>(hc g w vals ha).mono fun e w' h=>by
  obtain ⟨a,c,he,_,h3,h4,h5,hB⟩:=h.open;exact ⟨a,c,he,h3,h4,h5,hB⟩
section
variable (X:Ev)
theorem rcmp_c (x y:List UInt8) (hx:x.length≤9223372036854775807) (hy:y.length≤9223372036854775807):AC Tryd.prog X 29 [bsl x,bsl y] [] fun r rows=>r=iv (It.cmpB x y)∧rows=[]:=
 AC.below Tryd.call29 fun g w vals hE ha=>by
  match vals,ha with
  | [v1,v2],ha=>
    obtain ⟨a,c,rfl,hc,hB⟩:=bro_of ha.1 hx;obtain ⟨a2,c2,rfl,hc2,hB2⟩:=bro_of ha.2.1 hy;exact (rcompare_any hB hB2 _ rfl).mono fun e w' ⟨h1,q,h2⟩=>⟨h1,h2 ▸ bd (Below.refl _ _) q⟩
end
theorem AC.frzB {P:Program} {X:Ev} {f:FuncId} {args:List SV} {l:List UInt8} (h:AC P X f args [] (OutB l)):AC P X f args [] fun r rows=>r=bsl l∧rows=[]:=
 ⟨fun g w vals nx a b c d e i j=>(h.out g w vals nx a b c d e i j).mono fun en w' H=>by
  obtain ⟨v,r,rows',g',he,⟨rfl,rfl⟩,hv,hle,hZ,hlen,hver,hrow,hA,hs,hb,ho,hE⟩:=H;have hv:holds g' w' (.own 0 nx l.length 1) v:=hv;obtain ⟨hAn,⟨hn,hk⟩,hv⟩:=hv;have hnx:g'.ka nx≠0→w.heap.size≤g'.mu nx∧g'.mu nx < w'.heap.size:=fun hk=>by
   rcases hA nx hAn with h | ⟨_,_,h⟩
   ·exact absurd (c nx h) (Nat.lt_irrefl _)
   ·exact ⟨(h hk).1,(h hk).2.1⟩
  have hr:rowIn g' w' ⟨nx,5,1,bys l⟩:=hrow _ (by simp [rnR]);refine ⟨v,bsl l,[],⟨fun b=>g'.Z b∨(g'.ka nx≠0∧b=g'.mu nx),g.A,g'.mu,g'.ka⟩,he,⟨rfl,rfl⟩,?_,⟨fun b hb=>.inl (hle.z b hb),fun u hu=>⟨hu,(hle.a u hu).2⟩⟩,?_,.inl rfl,fun i r q h=>by simp at h,fun q hq=>by simp [rnR] at hq,fun u hu=>.inl hu,hs,hb,ho,hE⟩
  ·by_cases h0:l=[]
   ·subst h0
    rcases hv with rfl | ⟨hk0,rfl⟩
    ·exact ⟨_,_,rfl,⟨hn,hk⟩,by simp [bys],.inl (by simp [bys])⟩
    ·exact ⟨_,_,rfl,⟨by simp,by omega⟩,by simp [bys],.inl (by simp [bys])⟩
   ·have h1:0 < l.length:=List.length_pos_iff.2 h0
    rcases hv with rfl | ⟨hk0,rfl⟩
    ·refine ⟨_,_,rfl,⟨hn,hk⟩,by rw [bys_len,Nat.mul_one],.inr ⟨_,0,rfl,.inr ⟨by omega,rfl⟩,?_⟩⟩
     obtain ⟨_,hr⟩:=hr;rcases hr with ⟨hk0,_⟩ | ⟨arr,hh,hsz,hle2,hag⟩
     ·replace hk0:g'.ka nx=0:=hk0
      omega
     ·replace hh:w'.heap[g'.mu nx]?=some (.cells arr 5 (0,0)):=hh
      replace hag:agL g' w' (bys l) (arr.toList.take (bys l).length):=hag
      have hbl:bys l=(l.map fun b=>Value.int .u8 (b.toNat:Int)).map .v:=by simp [bys]
      rw [hbl] at hag ⊢;rw [← hbl,bys_len] at hag;rw [hbl] at hag;have hvs:=agL_v hag;refine atL.of (vs:=l.map fun b=>Value.int .u8 (b.toNat:Int)) (agL.ofv _) fun i x hx=>?_
      rw [← hvs] at hx;rw [List.getElem?_take] at hx
      split at hx
      ·simp only [World.cell?,hh,Nat.zero_add]
       simpa using hx
      ·cases hx
    ·omega
  ·rintro b (hb | ⟨hk,rfl⟩)
   ·exact hZ b hb
   ·exact .inr (hnx hk)⟩
end Go.Proofs.YtelefkkkccilaaaDoor
