/- Joined texts. -/
import Derived.Test.YtelefkkkccilaaaDoorJC
set_option linter.unusedVariables false
set_option linter.unusedSimpArgs false
namespace Go.Proofs.YtelefkkkccilaaaDoor
open Am Go.RowKit
set_option maxRecDepth 100000
def itR (b:List UInt8) (R:Except Nat (Gt × Nat × Nat)) (lo bt:Bool):Except Nat (It × Nat × Nat × Bool × Bool):=match R with
 | .error e=>.error e
 | .ok (t,q,i)=>.ok (t.it b,q,i,lo || t.loose,bt || t.bad b)
def elR (b:List UInt8) (op:Bool) (mj:Nat) (lo bt:Bool) (R:Except Nat (List Gt × Nat × Nat)):Except Nat (List It × Nat × Nat × Bool × Bool):=match R with
 | .error e=>.error e
 | .ok (l,q,i)=>if op=true∧mj=5∧l.length % 2=1 then .error 4 else .ok (Gt.its b l,q,i,lo || Gt.looses l,bt || Gt.bads b l)
def cO (op:Bool) (cnt m:Nat):Option Nat:=if op then none else some (cnt - m)
def sevX (lw n:Nat):It:=if 25≤lw then .mk 8 (valP lw n) [] [] else .mk 7 n [] []
def SevK (b:List UInt8):Prop:=∀ (s ver p it:Nat) (lo bt:Bool) (lw n:Nat),lw < 28→n < 18446744073709551616→(25≤lw→n < 256 ^ 2 ^ (lw - 24))→AC Tryd.prog XU 78 [.ptr s ver 0,.agg [y8 7,y8 lw,uv n,iv (zsP lw)]] [RR ver b p it lo bt] fun r rows=>r=itS (sevX lw n)∧rows=[RR ver b p it (lo || loose7 lw n) bt]
theorem it_leaf {b:List UInt8} {mj lw p q n i:Nat} {lo bt:Bool} (hm:mj < 2) (hl:lw≠31):itR b (.ok (.mk mj lw p q n [],q,i)) lo bt=.ok (.mk mj n [] [],q,i,lo || decide (lw=31) || !decide (zsP lw=shortP n),bt):=by
 unfold itR;simp only;rw [Gt.loose_flat hl (by omega),Gt.bad_flat hl,show (mj==3)=false by simp;omega,decide_eq_true (show mj < 7 by omega),decide_eq_false hl];simp [Gt.it,show ¬ (mj=2∨mj=3) by omega,hm]
theorem it_str {b:List UInt8} {g lv p q mj lw n i:Nat} {lo bt:Bool} (hm:mj=2∨mj=3):itR b (if lw=31 then (match gl b g lv q (i + 1) none mj with | .error e=>.error e | .ok (l,r,j)=>.ok (.mk mj lw p r 0 l,r,j)) else if n≤b.length - q then .ok (.mk mj lw p (q + n) n [],q + n,i + 1) else .error 2) lo bt=txR b g lv q (i + 1) mj lw n (lo || decide (lw=31) || !decide (zsP lw=shortP n)) bt:=by
 unfold txR;by_cases h:lw=31
 ·subst h
  simp only [if_true];cases gl b g lv q (i + 1) none mj with
  | error e=>rfl
  | ok y=>
    obtain ⟨l,r,j⟩:=y;simp [itR,Gt.it,Gt.loose,Gt.bad,hm]
 ·simp only [if_neg h]
  by_cases hc:n≤b.length - q
  ·simp only [if_pos hc,itR]
   rw [Gt.loose_flat h (by omega),Gt.bad_flat h,decide_eq_true (show mj < 7 by omega),decide_eq_false h,show q + n - n=q by omega];simp [Gt.it,hm,h,show q + n - n=q by omega]
  ·simp only [if_neg hc,itR]
theorem it_sev {b:List UInt8} {lw p q n i:Nat} {lo bt:Bool} (hl:lw≠31):itR b (.ok (.mk 7 lw p q n [],q,i)) lo bt=.ok (sevX lw n,q,i,lo || decide (lw=31) || loose7 lw n,bt):=by
 simp [itR,Gt.it,Gt.loose,Gt.bad,Gt.looses,Gt.bads,sevX,hl,show (lw==31)=false by simpa using hl]
theorem it_els {b:List UInt8} {g lv p q mj lw n i:Nat} {lo bt:Bool} {c:Option Nat} (hm:mj=4∨mj=5∨mj=6) (hl:lw < 28∨lw=31):itR b (match gl b g lv q (i + 1) c 8 with | .error e=>.error e | .ok (l,r,j)=>if lw=31∧mj=5∧l.length % 2=1 then .error 4 else .ok (.mk mj lw p r n l,r,j)) lo bt=match elR b (decide (lw=31)) mj (lo || decide (lw=31) || !decide (zsP lw=shortP n)) bt (gl b g lv q (i + 1) c 8) with
 | .error e=>.error e
 | .ok (l,r,j,lo',bt')=>.ok (.mk mj (if mj=6 then n else 0) [] l,r,j,lo',bt'):=by
 cases gl b g lv q (i + 1) c 8 with
 | error e=>rfl
 | ok y=>
   obtain ⟨l,r,j⟩:=y;simp only [elR,decide_eq_true_eq];by_cases hc:lw=31∧mj=5∧l.length % 2=1
   ·rw [if_pos hc,if_pos hc];rfl
   ·rw [if_neg hc,if_neg hc]
    have h3:(mj==3)=false:=by simp;omega
    have h7:(mj==7)=false:=by simp;omega
    have h31:(lw==31)=decide (lw=31):=by by_cases h:lw=31 <;> simp [h]
    have hz:(zsP lw !=shortP n)= !decide (zsP lw=shortP n):=by by_cases h:zsP lw=shortP n <;> simp [h]
    simp only [itR,Gt.it,Gt.loose,Gt.bad,h3,h7,h31,hz,if_neg (show ¬ (mj=2∨mj=3) by omega),if_neg (show ¬ mj < 2 by omega),if_neg (show ¬ mj=7 by omega),decide_eq_true (show mj < 7 by omega),Bool.false_and,Bool.true_and,Bool.or_false,Bool.false_or,Bool.or_assoc]
theorem elR_err {b:List UInt8} {op:Bool} {mj:Nat} {lo bt:Bool} {g lv p it ck:Nat} {c:Option Nat} {e:Nat} (h:elR b op mj lo bt (gl b g lv p it c ck)=.error e):e≠0:=by
 unfold elR at h
 split at h
 ·rename_i hg;injection h with h;subst h;exact gl_err hg
 ·split at h
  ·injection h with h;omega
  ·cases h
def readP (b:List UInt8):Except Nat (Gt × Nat × Nat):=gi (b.take 4096) 600 0 0 0 8
def scanP (R:Except Nat (Gt × Nat × Nat)):Nat × Nat:=match R with
 | .error e=>(0,e)
 | .ok (_,p,_)=>(p,0)
abbrev QR (v:Nat) (b:List UInt8) (p it:Nat):Row:=⟨v,90,3,[bsl b,iv p,iv it]⟩
mutual
def gtC:Gt→List SV
 | .mk mj lw a e n sub=>[iv mj,iv lw,iv a,iv e,uv (if lw=31 then (31:Nat) else n:Nat),bov (decide (lw=31)),.sl sub.length 7 (gtL sub)]
def gtL:List Gt→List SV
 | []=>[]
 | t :: l=>gtC t ++ gtL l
end
abbrev gtc (t:Gt):List SV:=[iv t.mj,iv t.lw,iv t.beg,iv t.en,uv (if t.lw=31 then (31:Nat) else t.n:Nat),bov (decide (t.lw=31)),.sl t.sub.length 7 (gtL t.sub)]
theorem gtC_eq (t:Gt):gtC t=gtc t:=by cases t;rfl
theorem gtL_cons (t:Gt) (l:List Gt):gtL (t :: l)=gtc t ++ gtL l:=by show gtC t ++ gtL l=_;rw [gtC_eq]
@[go_sem] theorem gtL_nil:gtL []=[]:=rfl
@[go_sem] theorem gtL_len (l:List Gt):(gtL l).length=l.length * 7:=by
 induction l with
 | nil=>rfl
 | cons t l ih=>rw [gtL_cons,List.length_append,ih];simp;omega
@[go_sem] theorem gtL_app (l:List Gt) (t:Gt):gtL l ++ gtc t=gtL (l ++ [t]):=by
 induction l with
 | nil=>simp [gtL_cons,gtL_nil]
 | cons y l ih=>rw [List.cons_append,gtL_cons,gtL_cons,List.append_assoc,ih]
@[go_sem] theorem gtL_flat (l:List Gt):(gtL l).all flat=true:=by
 induction l with
 | nil=>rfl
 | cons y l ih=>rw [gtL_cons,List.all_append,ih];rfl
@[go_sem] theorem gtL_cv (l:List Gt) (n:Nat) (H):(gtL l).map (cv H (n + 1))=gtL l:=by
 induction l with
 | nil=>rfl
 | cons y l ih=>rw [gtL_cons,List.map_append,ih];rfl
abbrev gt0:List SV:=[iv 0,iv 0,iv 0,iv 0,uv 0,bov false,.v (.slice none 0 0)]
def QiN (ver:Nat) (b:List UInt8) (R:Except Nat (Gt × Nat × Nat)) (r:SV) (rows:List Row):Prop:=match R with
 | .error e=>(∃ (a1 a2 a3 a4 f:Int) (g:Bool) (n:Nat) (cs:List SV),r=.tup [.agg [iv a1,iv a2,iv a3,iv a4,uv f,bov g,.sl n 7 cs],iv e])∧∃ p it,rows=[QR ver b p it]
 | .ok (t,p,it)=>r=.tup [.agg (gtc t),iv 0]∧rows=[QR ver b p it]
def QiW (ver:Nat) (b:List UInt8) (R:Except Nat (Gt × Nat × Nat)) (r:SV) (rows:List Row):Prop:=match R with
 | .error e=>(∃ (a1 a2 a3 a4 f:Int) (g:Bool) (n:Nat) (cs:List SV) (S:SV),slN n 7 cs S∧r=.tup [.agg [iv a1,iv a2,iv a3,iv a4,uv f,bov g,S],iv e])∧∃ p it,rows=[QR ver b p it]
 | .ok (t,p,it)=>(∃ S,slN t.sub.length 7 (gtL t.sub) S∧r=.tup [.agg [iv t.mj,iv t.lw,iv t.beg,iv t.en,uv (if t.lw=31 then (31:Nat) else t.n:Nat),bov (decide (t.lw=31)),S],iv 0])∧rows=[QR ver b p it]
theorem tree_weak {g:Cx} {w:World} {x1 x2 x3 x4 x5 x6 x7 S:SV} {v:Value} {n:Nat} {cs:List SV} {nx:Nat} (hS:slN n 7 cs S) (hv:holds g w (ren 0 nx (.tup [.agg [x1,x2,x3,x4,x5,x6,S],x7])) v):holds g w (ren 0 nx (.tup [.agg [x1,x2,x3,x4,x5,x6,.sl n 7 cs],x7])) v:=by
 obtain ⟨vs,e,hv⟩:=hv
 match vs,hv with
 | [v1,v2],hv=>
   refine ⟨_,e,?_,hv.2.1,trivial⟩;obtain ⟨us,e2,hu⟩:=hv.1
   match us,hu with
   | [u1,u2,u3,u4,u5,u6,u7],hu=>exact ⟨_,e2,hu.1,hu.2.1,hu.2.2.1,hu.2.2.2.1,hu.2.2.2.2.1,hu.2.2.2.2.2.1,hS.holds hu.2.2.2.2.2.2.1,trivial⟩
theorem AC.wkq {X:Ev} {f:FuncId} {args:List SV} {rows:List Row} {ver:Nat} {b:List UInt8} {R:Except Nat (Gt × Nat × Nat)} (h:AC Tryd.prog X f args rows (QiW ver b R)):AC Tryd.prog X f args rows (QiN ver b R):=by
 refine h.weak fun r rows hr=>?_
 cases R with
 | error e=>
   obtain ⟨⟨a1,a2,a3,a4,f,g,n,cs,S,hS,rfl⟩,hrow⟩:=hr;exact ⟨_,⟨⟨a1,a2,a3,a4,f,g,n,cs,rfl⟩,hrow⟩,fun _ _ _ _ hv=>tree_weak hS hv⟩
 | ok x=>
   obtain ⟨t,p,it⟩:=x;obtain ⟨⟨S,hS,rfl⟩,hrow⟩:=hr;exact ⟨_,⟨rfl,hrow⟩,fun _ _ _ _ hv=>tree_weak hS hv⟩
def ckI (ck:Nat):Int:=if ck=8 then -1 else ck
def QiK (b:List UInt8) (g:Nat):Prop:=∀ (s ver lv p it ck:Nat),p≤b.length→it≤256→lv≤8→ck≤8→2 * (256 - it) + 1≤g→AC Tryd.prog XU 49 [.ptr s ver 0,iv lv,iv (ckI ck)] [QR ver b p it] (QiN ver b (gi b g lv p it ck))
def OpC (ver vt:Nat) (b:List UInt8) (mj lw a N:Int) (op:Bool) (R:Except Nat (List Gt × Nat × Nat)) (r:SV) (rows:List Row):Prop:=match R with
 | .error e=>r=iv e∧∃ p it n cs S,slN n 7 cs S∧rows=[QR ver b p it,⟨vt,57,7,[iv mj,iv lw,iv a,iv 0,uv N,bov op,S]⟩]
 | .ok (l,p,it)=>r=iv 0∧∃ S,slN l.length 7 (gtL l) S∧rows=[QR ver b p it,⟨vt,57,7,[iv mj,iv lw,iv a,iv 0,uv N,bov op,S]⟩]
theorem OpC.err {ver vt:Nat} {b:List UInt8} {mj lw a N:Int} {op:Bool} {R:Except Nat (List Gt × Nat × Nat)} {e p it n:Nat} {cs:List SV} {S:SV} (h:R=.error e) (hS:slN n 7 cs S):OpC ver vt b mj lw a N op R (iv e) [QR ver b p it,⟨vt,57,7,[iv mj,iv lw,iv a,iv 0,uv N,bov op,S]⟩]:=by
 rw [h];exact ⟨rfl,p,it,n,cs,S,hS,rfl⟩
theorem OpC.ok {ver vt:Nat} {b:List UInt8} {mj lw a N:Int} {op:Bool} {R:Except Nat (List Gt × Nat × Nat)} {l:List Gt} {p it:Nat} {S:SV} (h:R=.ok (l,p,it)) (hS:slN l.length 7 (gtL l) S):OpC ver vt b mj lw a N op R (iv 0) [QR ver b p it,⟨vt,57,7,[iv mj,iv lw,iv a,iv 0,uv N,bov op,S]⟩]:=by
 rw [h];exact ⟨rfl,S,hS,rfl⟩
theorem slN.nil (k:Nat):slN 0 k [] (.v (.slice none 0 0)):=.inr ⟨rfl,rfl,rfl⟩
def openP (mj:Nat) (R:Except Nat (List Gt × Nat × Nat)):Except Nat (List Gt × Nat × Nat):=match R with
 | .error e=>.error e
 | .ok (l,q,i)=>if mj=5∧l.length % 2=1 then .error 4 else .ok (l,q,i)
set_option maxHeartbeats 8000000 in
theorem open_c (s ver s2 vt:Nat) (b:List UInt8) (g lv p it ck mj:Nat) (lw a N:Int) (op:Bool) (hb:b.length≤4096) (hp:p≤b.length) (hi:it≤256) (hlv:lv≤8) (hck:ck≤8) (hmj:mj < 8) (hg:2 * (256 - it) + 2≤g) (ih:∀ k,k < g→QiK b k):AC Tryd.prog XU 106 [.ptr s ver 0,.ptr s2 vt 0,iv lv,iv (ckI ck)] [QR ver b p it,⟨vt,57,7,[iv mj,iv lw,iv a,iv 0,uv N,bov op,.v (.slice none 0 0)]⟩] (OpC ver vt b mj lw a N op (openP mj (gl b g lv p it none ck))):=by
 generalize hq:gl b g lv p it none ck=Q;have HQ:=dh (show preG [] (gl b g lv p it none ck)=Q by rw [hq,preG_nil]);clear hq;refine AC.bodyW false Tryd.func106 rfl Tryd.call106 Tryd.ntmps106 (by simp) fun e nx=>?_
 go_simp
 refine sqc ?_;go_simp;refine sqc ?_;go_simp;refine sqc ?_;go_simp;refine lp (α:=Nat × Nat × Nat × Nat × List Gt × Nat) (fun x=>x.2.2.1≤b.length∧x.2.2.2.1≤256∧(2 * (256 - x.2.2.2.1) + 2≤x.2.1∧x.2.1≤g)∧x.2.2.2.2.1.length≤x.2.2.2.1∧Hid (preG x.2.2.2.2.1 (gl b x.2.1 lv x.2.2.1 x.2.2.2.1 none ck)=Q)) (fun x=>⟨[(0,.ptr 1000 ver 0),(1,.ptr 1001 vt 0),(2,iv lv),(3,iv (ckI ck)),(9,.own 900 x.2.2.2.2.2 x.2.2.2.2.1.length 7)],[(1000,QR ver b x.2.2.1 x.2.2.2.1),(1001,⟨vt,57,7,[iv mj,iv lw,iv a,iv 0,uv N,bov op,.v (.slice none 0 0)]⟩),(900,⟨x.2.2.2.2.2,57,7,gtL x.2.2.2.2.1⟩)],x.1,[],71⟩) (fun x=>b.length - x.2.2.1) [(9,900,57,7)] [] (nx + 1,g,p,it,[],nx) ?_ ?_
 ·go_simp
 ·rintro ⟨u,g',p',it',acc,v⟩ ⟨hp',hi',hg',hs',HQ'⟩
  replace hp':p'≤b.length:=hp'
  replace hi':it'≤256:=hi'
  replace hg':2 * (256 - it') + 2≤g'∧g'≤g:=hg'
  replace hs':acc.length≤it':=hs'
  replace HQ':Hid (preG acc (gl b g' lv p' it' none ck)=Q):=HQ'
  obtain ⟨g',rfl⟩:∃ k,g'=k + 1:=⟨g' - 1,by omega⟩
  dsimp only
  refine ct (α:=Unit) (fun _=>brk b p'=false) (fun _=>⟨[(0,.ptr 1000 ver 0),(1,.ptr 1001 vt 0),(2,iv lv),(3,iv (ckI ck)),(9,.own 900 v acc.length 7)],[(1000,QR ver b p' it'),(1001,⟨vt,57,7,[iv mj,iv lw,iv a,iv 0,uv N,bov op,.v (.slice none 0 0)]⟩),(900,⟨v,57,7,gtL acc⟩)],u,[],71⟩) [] (gw ?_) ?_
  ·go_simp
   refine rg hmx (by kernel_rfl) ?_;go_simp
   refine gdd (fun h1=>?_) (fun h1=>?_)
   ·have hbe:=brk_end (b:=b) (p:=p') (by omega)
    go_simp
   ·have hpl:p' < b.length:=by omega
    have hba:=dh (brk_at hpl);go_simp
    refine ifn (fun h2=>?_) (fun h2=>?_)
    ·have hbf:brk b p'=false:=by rw [hba.out];simp;omega
     go_simp
    ·have hR:openP mj Q=if mj=5∧acc.length % 2=1 then .error 4 else .ok (acc,p' + 1,it'):=by
      rw [← HQ'.out,gl_brk (by rw [hba.out];simp;omega)];simp [preG,openP]
     have HR:=dh hR;clear hR;have hal:acc.length≤256:=by omega
     go_simp
     refine gw ?_;go_simp;go_bits;have hS:slN acc.length 7 (gtL acc) (.sl acc.length 7 ((gtL acc).take (acc.length * 7))):=.inl (by rw [List.take_of_length_le (by rw [gtL_len];exact Nat.le_refl _)]);have HS:=dh hS;clear hS;refine gdd (fun h5=>?_) (fun h5=>?_) <;> go_simp
     ·have htm:((acc.length:Int)).tmod 2=((acc.length % 2:Nat):Int):=by rw [Int.tmod_eq_emod_of_nonneg (by omega)];norm_cast
      rw [htm];refine ifn (fun h6=>?_) (fun h6=>?_) <;> go_simp
      ·exact OpC.err (HR.out.trans (by rw [if_pos ⟨by omega,by omega⟩])) HS.out
      ·exact OpC.ok (HR.out.trans (by rw [if_neg (by omega)])) HS.out
     ·exact OpC.ok (HR.out.trans (by rw [if_neg (by omega)])) HS.out
  ·rintro - hbk
   replace hbk:brk b p'=false:=hbk
   have hst:=gl_step (b:=b) (g:=g') (lv:=lv) (p:=p') (it:=it') (ck:=ck) (c:=none) (by simp) (fun _=>hbk);have HQ2:=HQ'.out;rw [hst] at HQ2;clear hst HQ';have HQ':=dh HQ2;clear HQ2;refine gw ?_;go_simp;refine cl [] [1000] (ih g' (by omega) 1000 ver lv p' it' ck hp' hi' hlv hck (by omega)) (by go_simp) ?_;rintro r rows hR;cases hgi:gi b g' lv p' it' ck with
   | error e'=>
     rw [hgi] at hR;have HE:=dh (show openP mj Q=.error e' by rw [← HQ'.out,hgi];rfl);have hne:=gi_err hgi;obtain ⟨⟨a1,a2,a3,a4,f,g2,n2,cs2,rfl⟩,p2,it2,rfl⟩:=hR;clear hgi;go_simp
     exact OpC.err HE.out (slN.nil 7)
   | ok y=>
     obtain ⟨t,q,j⟩:=y;rw [hgi] at hR;obtain ⟨hb1,hb2,hb3,hb4⟩:=gi_bd hgi hi' hp';have HQ2:=HQ'.out;rw [hgi] at HQ2;simp only at HQ2;rw [preG_pre] at HQ2;have HQ3:=dh HQ2;clear HQ2 HQ' hgi;obtain ⟨rfl,rfl⟩:=hR;have hal:acc.length≤256:=by omega
     go_simp
     exact ⟨⟨by rw [show Tryd.t57.bytes=72 from rfl];omega,by omega⟩,_,g',q,j,acc ++ [t],⟨hb4,hb2,by omega,by rw [List.length_append];simp;omega,HQ3⟩,by omega,Nat.le_refl _,_,⟨rfl,by simp⟩,⟨rfl,rfl⟩,rfl,rfl⟩
def restP (b:List UInt8) (g lv p it mj lw n:Nat):Except Nat (List Gt × Nat × Nat):=
 if mj=2∨mj=3 then
  if lw=31 then gl b g lv p it none mj else if n≤b.length - p then .ok ([],p + n,it) else .error 2
 else if mj < 2∨mj=7 then .ok ([],p,it)
 else if lw=31 then openP mj (gl b g (lv + 1) p it none 8) else gl b g (lv + 1) p it (some (cntP mj n)) 8
def cntR (mj n:Nat):Nat:=if mj=4 then n else if mj=5 then 2 * min n 4294967296 else if mj=6 then 1 else 0
theorem rest_def {b:List UInt8} {g lv p it mj lw n:Nat} (hm:¬ (mj=2∨mj=3)) (hl:lw≠31) (h8:mj < 8) (hi:it≤256) (hp:p≤b.length):restP b (g + 1) lv p it mj lw n=gl b (g + 1) (lv + 1) p it (some (cntR mj n)) 8:=by
 unfold restP;rw [if_neg hm];by_cases h:mj < 2∨mj=7
 ·rw [if_pos h,show cntR mj n=0 by unfold cntR;rw [if_neg (by omega),if_neg (by omega),if_neg (by omega)],gl_zero]
 ·rw [if_neg h,if_neg hl]
  rcases (show mj=4∨mj=5∨mj=6 by omega) with rfl | rfl | rfl
  ·rfl
  ·by_cases hn:n≤4294967296
   ·rw [show cntR 5 n=cntP 5 n by unfold cntR cntP;simp;omega]
   ·exact gl_many (by unfold cntP;simp;omega) (by unfold cntR;simp;omega) hi hp
  ·rfl
theorem slN.cv {n k m:Nat} {cs:List SV} {S:SV} {H:Nat→Option Row} (h:slN n k cs S):Am.cv H (m + 1) S=S:=by
 rcases h with rfl | ⟨_,_,rfl⟩ <;> rfl
set_option maxHeartbeats 8000000 in
theorem rest_c (s ver s2 vt:Nat) (b:List UInt8) (g lv p it mj lw a n:Nat) (hb:b.length≤4096) (hp:p≤b.length) (hi:it≤256) (hlv:lv≤8) (h47:4≤mj∧mj≤6→lv < 8) (hmj:mj < 8) (hn:n < 18446744073709551616) (hl:lw < 28∨lw=31) (h31:lw=31→2≤mj∧mj≤5) (hg:2 * (256 - it) + 2≤g) (ih:∀ k,k < g→QiK b k):AC Tryd.prog XU 80 [.ptr s ver 0,.ptr s2 vt 0,iv lv] [QR ver b p it,⟨vt,57,7,[iv mj,iv lw,iv a,iv 0,uv (if lw=31 then (31:Nat) else n:Nat),bov (decide (lw=31)),.v (.slice none 0 0)]⟩] (OpC ver vt b mj lw a (if lw=31 then (31:Nat) else n:Nat) (decide (lw=31)) (restP b g lv p it mj lw n)):=by
 obtain ⟨R,hR⟩:∃ R,R=restP b g lv p it mj lw n:=⟨_,rfl⟩;rw [← hR];have HR:=dh hR;clear hR;refine AC.bodyW false Tryd.func80 rfl Tryd.call80 Tryd.ntmps80 (by simp) fun e nx=>?_
 go_simp
 refine sqc ?_;go_simp;by_cases hm:mj=2∨mj=3
 ·by_cases hl31:lw=31
  ·subst hl31
   have HE:=dh (show R=openP mj (gl b g lv p it none mj) by rw [HR.out];unfold restP openP;rw [if_pos hm,if_pos rfl];cases gl b g lv p it none mj with | error e=>rfl | ok y=>obtain ⟨l,q,i⟩:=y;simp only;rw [if_neg (by omega)])
   clear HR;have hop:=open_c 1000 ver 1001 vt b g lv p it mj mj ((31:Nat):Int) (a:Int) ((31:Nat):Int) true hb hp hi hlv (by omega) hmj hg ih;rw [show ckI mj=(mj:Int) by unfold ckI;rw [if_neg (by omega)]] at hop;rcases hm with rfl | rfl
   all_goals
    refine gw ?_;go_simp;refine cl [] [1000,1001] hop (by go_simp) ?_;rintro r rows hC;rw [← HE.out] at hC;clear HE hop;cases R with
    | error e'=>
      obtain ⟨rfl,p2,it2,n2,cs2,S2,hS2,rfl⟩:=hC;go_simp
      rw [hS2.cv];exact OpC.err rfl hS2
    | ok y=>
      obtain ⟨l,q,j⟩:=y;obtain ⟨rfl,S2,hS2,rfl⟩:=hC;go_simp
      rw [hS2.cv];exact OpC.ok rfl hS2
  ·have HE:=dh (show R=if n≤b.length - p then .ok ([],p + n,it) else .error 2 by rw [HR.out];unfold restP;rw [if_pos hm,if_neg hl31])
   clear HR;rcases hm with rfl | rfl
   all_goals
    refine gw ?_;go_simp;refine rg hmx (by kernel_rfl) ?_;go_simp;go_bits
    refine ifd (fun h=>?_) (fun h=>?_) <;> go_simp
    ·have hE:=HE.out
     rw [if_neg (by omega)] at hE;have HE:=dh hE;clear hE;exact OpC.err HE.out (slN.nil 7)
    ·have hE:=HE.out
     rw [if_pos (by omega)] at hE;have HE:=dh hE;clear hE;refine rg hmx (by kernel_rfl) ?_;go_simp;go_bits
     refine ⟨by kernel_rfl,?_⟩;exact OpC.ok (l:=[]) HE.out (slN.nil 7)
 ·refine ct (α:=Unit) (fun _=>lw≠31) (fun _=>⟨[(0,.ptr 1000 ver 0),(1,.ptr 1001 vt 0),(2,iv lv)],[(1000,QR ver b p it),(1001,⟨vt,57,7,[iv mj,iv lw,iv a,iv 0,uv (if lw=31 then (31:Nat) else n:Nat),bov (decide (lw=31)),.v (.slice none 0 0)]⟩)],nx,[],132⟩) [] (gw ?_) ?_
  ·by_cases hl31:lw=31
   ·subst hl31
    have h45:mj=4∨mj=5:=by omega
    have HE:=dh (show R=openP mj (gl b g (lv + 1) p it none 8) by rw [HR.out];unfold restP;rw [if_neg hm,if_neg (by omega),if_pos rfl]);clear HR;have hop:=open_c 1000 ver 1001 vt b g (lv + 1) p it 8 mj ((31:Nat):Int) (a:Int) ((31:Nat):Int) true hb hp hi (by omega) (by omega) hmj hg ih;rw [show ckI 8= -1 from rfl] at hop;rcases h45 with rfl | rfl
    all_goals
     go_simp;go_bits
     refine cl [] [1000,1001] hop (by go_simp) ?_;rintro r rows hC;rw [← HE.out] at hC;clear HE hop;cases R with
     | error e'=>
       obtain ⟨rfl,p2,it2,n2,cs2,S2,hS2,rfl⟩:=hC;go_simp
       rw [hS2.cv];exact OpC.err rfl hS2
     | ok y=>
       obtain ⟨l,q,j⟩:=y;obtain ⟨rfl,S2,hS2,rfl⟩:=hC;go_simp
       rw [hS2.cv];exact OpC.ok rfl hS2
   ·rcases (show mj=0∨mj=1∨mj=7∨mj=4∨mj=5∨mj=6 by omega) with rfl | rfl | rfl | rfl | rfl | rfl
    all_goals go_simp
  ·rintro - hl31
   replace hl31:lw≠31:=hl31
   obtain ⟨g,rfl⟩:∃ k,g=k + 1:=⟨g - 1,by omega⟩;have hQ:=HR.out;rw [rest_def hm hl31 hmj hi hp] at hQ;have HQ:=dh (show preG [] (gl b (g + 1) (lv + 1) p it (some (cntR mj n - 0)) 8)=R by rw [preG_nil,hQ,Nat.sub_zero]);have hlc:0 < cntR mj n→lv + 1≤8:=by
    intro h;unfold cntR at h
    split at h;· omega
    split at h;· omega
    split at h;· omega
    omega
   clear hQ HR;refine sqc ?_;go_simp;refine ct (α:=Unit) (fun _=>True) (fun _=>⟨[(0,.ptr 1000 ver 0),(1,.ptr 1001 vt 0),(2,iv lv),(7,uv (cntR mj n))],[(1000,QR ver b p it),(1001,⟨vt,57,7,[iv mj,iv lw,iv a,iv 0,uv n,bov false,.v (.slice none 0 0)]⟩)],nx,[],132⟩) [] (gw ?_) ?_
   ·have hmin:2 * min n 4294967296≤8589934592:=by omega
    rcases (show mj=0∨mj=1∨mj=7∨mj=4∨mj=5∨mj=6 by omega) with rfl | rfl | rfl | rfl | rfl | rfl
    all_goals go_simp
    ·simp [cntR]
    ·simp [cntR]
    ·simp [cntR]
    ·simp [cntR]
    ·go_bits
     simp [cntR];omega
    ·simp [cntR]
   ·rintro - -
    have hcb:cntR mj n < 18446744073709551616:=by
     unfold cntR
     split;· exact hn
     split;· omega
     split <;> omega
    generalize cntR mj n=cnt at *;refine sqc ?_;go_simp;refine sqc ?_;go_simp;refine lp (α:=Nat × Nat × Nat × Nat × List Gt × Nat × Nat) (fun x=>x.2.2.1≤b.length∧x.2.2.2.1≤256∧(2 * (256 - x.2.2.2.1) + 2≤x.2.1∧x.2.1≤g + 1)∧x.2.2.2.2.1.length≤x.2.2.2.1∧Hid (x.2.2.2.2.1.length=x.2.2.2.2.2.2)∧x.2.2.2.2.2.2≤cnt∧Hid (preG x.2.2.2.2.1 (gl b x.2.1 (lv + 1) x.2.2.1 x.2.2.2.1 (some (cnt - x.2.2.2.2.2.2)) 8)=R)) (fun x=>⟨[(0,.ptr 1000 ver 0),(1,.ptr 1001 vt 0),(2,iv lv),(7,uv cnt),(8,.own 900 x.2.2.2.2.2.1 x.2.2.2.2.1.length 7),(9,uv x.2.2.2.2.2.2)],[(1000,QR ver b x.2.2.1 x.2.2.2.1),(1001,⟨vt,57,7,[iv mj,iv lw,iv a,iv 0,uv n,bov false,.v (.slice none 0 0)]⟩),(900,⟨x.2.2.2.2.2.1,57,7,gtL x.2.2.2.2.1⟩)],x.1,[],132⟩) (fun x=>b.length - x.2.2.1) [(8,900,57,7)] [] (nx + 1,g + 1,p,it,[],nx,0) ?_ ?_
    ·have hQ3:=HQ.out
     rw [Nat.sub_zero] at hQ3;have HQ4:=dh hQ3;clear hQ3;go_simp
     exact dh trivial
    ·rintro ⟨u,g',p',it',acc,v,i⟩ ⟨hp',hi',hg',hs',HA,hic,HQ'⟩
     replace hp':p'≤b.length:=hp'
     replace hi':it'≤256:=hi'
     replace hg':2 * (256 - it') + 2≤g'∧g'≤g + 1:=hg'
     replace hs':acc.length≤it':=hs'
     replace HA:Hid (acc.length=i):=HA
     replace hic:i≤cnt:=hic
     replace HQ':Hid (preG acc (gl b g' (lv + 1) p' it' (some (cnt - i)) 8)=R):=HQ'
     obtain ⟨g',rfl⟩:∃ k,g'=k + 1:=⟨g' - 1,by omega⟩
     dsimp only
     refine gw ?_;go_simp;refine ifd (fun h=>?_) (fun h=>?_) <;> go_simp
     ·have hst:=gl_step (b:=b) (g:=g') (lv:=lv + 1) (p:=p') (it:=it') (ck:=8) (c:=some (cnt - i)) (by simp;omega) (fun h=>by cases h)
      have HQ2:=HQ'.out;rw [hst,show (some (cnt - i)).map (· - 1)=some (cnt - (i + 1)) by simp;omega] at HQ2;clear hst HQ';have HQ':=dh HQ2;clear HQ2;have hl8:=hlc (by omega)
      go_bits
      refine cl [] [1000] (ih g' (by omega) 1000 ver (lv + 1) p' it' 8 hp' hi' hl8 (by omega) (by omega)) (by go_simp) ?_;rintro r rows hR;cases hgi:gi b g' (lv + 1) p' it' 8 with
      | error e'=>
        rw [hgi] at hR;have HE:=dh (show R=.error e' by rw [← HQ'.out,hgi];rfl);have hne:=gi_err hgi;obtain ⟨⟨a1,a2,a3,a4,f,g2,n2,cs2,rfl⟩,p2,it2,rfl⟩:=hR;clear hgi;go_simp
        exact OpC.err HE.out (slN.nil 7)
      | ok y=>
        obtain ⟨t,q,j⟩:=y;rw [hgi] at hR;obtain ⟨hb1,hb2,hb3,hb4⟩:=gi_bd hgi hi' hp';have HQ2:=HQ'.out;rw [hgi] at HQ2;simp only at HQ2;rw [preG_pre] at HQ2;have HQ3:=dh HQ2;clear HQ2 HQ' hgi;obtain ⟨rfl,rfl⟩:=hR;have hal:acc.length≤256:=by omega
        have hA:=HA.out;have hi6:i≤256:=by omega
        clear hA;go_simp;go_bits
        exact ⟨⟨by rw [show Tryd.t57.bytes=72 from rfl];omega,by omega⟩,_,g',q,j,acc ++ [t],_,i + 1,⟨hb4,hb2,by omega,by rw [List.length_append];simp;omega,dh (by rw [List.length_append,HA.out];rfl),by omega,HQ3⟩,by omega,Nat.le_refl _,⟨⟨rfl,by simp⟩,by omega⟩,⟨rfl,rfl⟩,rfl,rfl⟩
     ·obtain rfl:i=cnt:=by omega
      have HE:=dh (show R=.ok (acc,p',it') by rw [← HQ'.out,Nat.sub_self,gl_zero];simp [preG]);have hS:slN acc.length 7 (gtL acc) (.sl acc.length 7 ((gtL acc).take (acc.length * 7))):=.inl (by rw [List.take_of_length_le (by rw [gtL_len];exact Nat.le_refl _)]);have HS:=dh hS;clear hS;refine gw ?_;go_simp;exact OpC.ok HE.out HS.out
theorem gi_rest {b:List UInt8} {g lv p it ck:Nat}:gi b (g + 1) lv p it ck=match hdP b p it ck with
 | .error e=>.error e
 | .ok (mj,lw,n,_,q)=>if 4≤mj∧mj≤6∧8≤lv then .error 8 else match restP b g lv q (it + 1) mj lw n with
   | .error e=>.error e
   | .ok (l,r,i)=>.ok (.mk mj lw p r n l,r,i):=by
 rw [gi];cases hh:hdP b p it ck with
 | error e=>rfl
 | ok x=>
   obtain ⟨mj,lw,n,z,q⟩:=x;obtain ⟨_,_,hmj,_,_,_,_,_,_,h31,_,h310,_⟩:=hdP_ok hh;simp only;unfold restP;by_cases hm:mj=2∨mj=3
   ·have e1:¬ (4≤mj∧mj≤6∧8≤lv):=by omega
    simp only [if_pos hm,if_neg e1];by_cases hl:lw=31
    ·have hn0:=h310 hl
     subst hn0 hl;simp only [if_true];cases gl b g lv q (it + 1) none mj with
     | error e=>rfl
     | ok y=>rfl
    ·simp only [if_neg hl]
     by_cases hn:n≤b.length - q
     ·simp only [if_pos hn]
     ·simp only [if_neg hn]
   ·simp only [if_neg hm]
    by_cases hm2:mj < 2∨mj=7
    ·have e1:¬ (4≤mj∧mj≤6∧8≤lv):=by omega
     simp only [if_pos hm2,if_neg e1]
    ·simp only [if_neg hm2]
     by_cases h8:8≤lv
     ·have e1:4≤mj∧mj≤6∧8≤lv:=by omega
      rw [if_pos h8,if_pos e1]
     ·have e1:¬ (4≤mj∧mj≤6∧8≤lv):=by omega
      rw [if_neg h8,if_neg e1];by_cases hl:lw=31
      ·subst hl
       simp only [if_true];cases gl b g (lv + 1) q (it + 1) none 8 with
       | error e=>rfl
       | ok y=>
         obtain ⟨l,r,i⟩:=y;simp only [openP];by_cases hc:mj=5∧l.length % 2=1
         ·rw [if_pos hc,if_pos ⟨trivial,hc⟩]
         ·rw [if_neg hc,if_neg (fun h=>hc h.2)]
      ·simp only [if_neg hl]
       cases gl b g (lv + 1) q (it + 1) (some (cntP mj n)) 8 with
       | error e=>rfl
       | ok y=>
         obtain ⟨l,r,i⟩:=y;simp only;rw [if_neg (fun h=>hl h.1)]
theorem QiW.err {ver:Nat} {b:List UInt8} {R:Except Nat (Gt × Nat × Nat)} {e p it n:Nat} {a1 a2 a3 a4 f:Int} {g:Bool} {cs:List SV} {S:SV} (h:R=.error e) (hS:slN n 7 cs S):QiW ver b R (.tup [.agg [iv a1,iv a2,iv a3,iv a4,uv f,bov g,S],iv e]) [QR ver b p it]:=by
 rw [h];exact ⟨⟨a1,a2,a3,a4,f,g,n,cs,S,hS,rfl⟩,p,it,rfl⟩
theorem QiW.ok {ver:Nat} {b:List UInt8} {R:Except Nat (Gt × Nat × Nat)} {t:Gt} {p it:Nat} {S:SV} (h:R=.ok (t,p,it)) (hS:slN t.sub.length 7 (gtL t.sub) S):QiW ver b R (.tup [.agg [iv t.mj,iv t.lw,iv t.beg,iv t.en,uv (if t.lw=31 then (31:Nat) else t.n:Nat),bov (decide (t.lw=31)),S],iv 0]) [QR ver b p it]:=by
 rw [h];exact ⟨⟨S,hS,rfl⟩,rfl⟩
theorem kk2 (lw:Nat) (h1:24≤lw) (h2:lw≤27):IntKind.i64.wrap (2 ^ min (IntKind.u64.wrap (IntKind.i64.wrap ((lw:Int) - 24))).toNat 64)=((2 ^ (lw - 24):Nat):Int):=by
 rcases (show lw=24∨lw=25∨lw=26∨lw=27 by omega) with rfl | rfl | rfl | rfl <;> rfl
set_option maxHeartbeats 8000000 in
theorem ritem_c (b:List UInt8) (hb:b.length≤4096) (g:Nat):QiK b g:=by
 induction g using Nat.strongRecOn with
 | _ g ih=>
   intro s ver lv p it ck hp hi hlv hck hg;obtain ⟨g,rfl⟩:∃ k,g=k + 1:=⟨g - 1,by omega⟩;obtain ⟨R,hR⟩:∃ R,R=gi b (g + 1) lv p it ck:=⟨_,rfl⟩;rw [← hR];rw [gi_rest] at hR;have HR:=dh hR;clear hR;have hE:∀ e,hdP b p it ck=.error e→Hid (R=.error e):=fun e h=>dh (by rw [HR.out,h])
   refine AC.wkq ?_;refine AC.bodyW false Tryd.func49 rfl Tryd.call49 Tryd.ntmps49 (by simp) fun e nx=>?_
   go_simp
   refine sqc ?_;go_simp;refine sqc ?_;go_simp;refine ifd (fun h0=>?_) (fun h0=>?_) <;> go_simp
   ·have HE:=hE 8 (by unfold hdP;rw [if_pos (by omega)])
    exact QiW.err HE.out (slN.nil 7)
   refine sqc ?_;go_simp;go_bits;refine sqc ?_;go_simp;refine rg hmx (by kernel_rfl) ?_;go_simp
   refine ifd (fun h1=>?_) (fun h1=>?_) <;> go_simp
   ·have HE:=hE 2 (by unfold hdP;rw [if_neg (by omega),if_pos (by omega)])
    exact QiW.err HE.out (slN.nil 7)
   have hpl:p < b.length:=by omega
   have hD:b.getD p 0=b[p]:=by simp [List.getD_eq_getElem?_getD,hpl]
   have hP:=hdP.eq_1 b p it ck;rw [if_neg (show ¬ it=256 by omega),if_neg (show ¬ p=b.length by omega),hD] at hP;clear hD;have hm8:b[p].toNat / 32 < 8:=by have:=b[p].toNat_lt;omega
   have hl32:b[p].toNat % 32 < 32:=by omega
   refine sqc ?_;go_simp;refine rg hmx (by kernel_rfl) ?_;go_simp
   refine ⟨by kernel_rfl,?_⟩;rw [and31 b[p].toNat b[p].toNat_lt];simp only [shr5];generalize b[p].toNat / 32=mj at *;generalize b[p].toNat % 32=lw at *
   go_bits
   have HP:=dh hP;clear hP;refine sqc ?_;go_simp;go_bits;refine sqc ?_;go_simp;refine ct (α:=Unit) (fun _=>¬ (27 < lw∧(lw < 31∨mj < 2∨5 < mj))) (fun _=>⟨[(0,.ptr 1000 ver 0),(1,iv lv),(2,iv (ckI ck)),(6,.ptr 6 nx 0),(7,iv 0),(8,.ptr 8 (nx + 1 + 1) 0)],[(1000,QR ver b (p + 1) (it + 1)),(6,⟨nx,57,7,gt0⟩),(8,⟨nx + 1 + 1,57,7,[iv mj,iv lw,iv p,iv 0,uv 0,bov (decide (lw=31)),.v (.slice none 0 0)]⟩)],nx + 6,[],206⟩) [] (gw ?_) ?_
   ·have hC:(27 < lw∧(lw < 31∨mj < 2∨5 < mj))→Hid (R=.error 3):=fun h=>hE 3 (by rw [HP.out,if_pos h])
    clear hE;by_cases hl:lw=31
    ·subst hl
     go_simp
     refine gdd (fun h2=>?_) (fun h2=>?_) <;> go_simp
     ·exact QiW.err (hC ⟨by omega,by omega⟩).out (slN.nil 7)
     ·refine ifd (fun h3=>?_) (fun h3=>?_) <;> go_simp
      ·exact QiW.err (hC ⟨by omega,by omega⟩).out (slN.nil 7)
      ·omega
    ·have hl':¬ ((lw:Int)=31):=by omega
     go_simp
     refine gdd (fun h2=>?_) (fun h2=>?_) <;> go_simp
     ·refine gdd (fun h3=>?_) (fun h3=>?_)
      ·go_simp
       exact QiW.err (hC ⟨by omega,by omega⟩).out (slN.nil 7)
      ·exfalso;omega
     ·omega
   ·rintro - hok
    replace hok:¬ (27 < lw∧(lw < 31∨mj < 2∨5 < mj)):=hok
    have HP1:=dh (HP.out.trans (if_neg hok));clear HP;refine ct (α:=Unit) (fun _=>¬ (ck < 8∧(mj≠ck∨lw=31))) (fun _=>⟨[(0,.ptr 1000 ver 0),(1,iv lv),(2,iv (ckI ck)),(6,.ptr 6 nx 0),(7,iv 0),(8,.ptr 8 (nx + 1 + 1) 0)],[(1000,QR ver b (p + 1) (it + 1)),(6,⟨nx,57,7,gt0⟩),(8,⟨nx + 1 + 1,57,7,[iv mj,iv lw,iv p,iv 0,uv 0,bov (decide (lw=31)),.v (.slice none 0 0)]⟩)],nx + 6,[],206⟩) [] (gw ?_) ?_
    ·have hC:(ck < 8∧(mj≠ck∨lw=31))→Hid (R=.error 4):=fun h=>hE 4 (by rw [HP1.out,if_pos h])
     clear hE;by_cases hc8:ck=8
     ·subst hc8
      rw [show ckI 8= -1 from rfl];go_simp
     ·rw [show ckI ck=(ck:Int) by unfold ckI;rw [if_neg hc8]]
      go_simp
      refine gdn (fun h2=>?_) (fun h2=>?_) <;> go_simp
      ·exact QiW.err (hC ⟨by omega,by omega⟩).out (slN.nil 7)
      ·refine ifd (fun h3=>?_) (fun h3=>?_) <;> go_simp
       ·exact QiW.err (hC ⟨by omega,by omega⟩).out (slN.nil 7)
       ·omega
    ·rintro - hok2
     replace hok2:¬ (ck < 8∧(mj≠ck∨lw=31)):=hok2
     have HP2:=dh (HP1.out.trans (if_neg hok2));clear HP1;refine sqc ?_;go_simp;go_bits;have hok3:lw < 28∨lw=31:=by omega
     refine ct (α:=Nat × Nat × Nat × Nat) (fun y=>y.1 < 18446744073709551616∧y.2.1≤b.length∧p < y.2.1∧Hid (hdP b p it ck=if mj=7∧lw=24∧y.1 < 32 then .error 4 else .ok (mj,lw,y.1,y.2.2.2,y.2.1))) (fun y=>⟨[(0,.ptr 1000 ver 0),(1,iv lv),(2,iv (ckI ck)),(6,.ptr 6 nx 0),(7,iv 0),(8,.ptr 8 (nx + 1 + 1) 0)],[(1000,QR ver b y.2.1 (it + 1)),(6,⟨nx,57,7,gt0⟩),(8,⟨nx + 1 + 1,57,7,[iv mj,iv lw,iv p,iv 0,uv (if lw=31 then (31:Nat) else y.1:Nat),bov (decide (lw=31)),.v (.slice none 0 0)]⟩)],y.2.2.1,[],206⟩) [] (gw ?_) ?_
     ·by_cases hl:lw=31
      ·subst hl
       have HP3:=dh (HP2.out.trans (if_pos rfl));clear HP2;go_simp
       exact ⟨0,p + 1,⟨by omega,by omega,by omega,1,HP3⟩,⟨_,Nat.le_refl _⟩,by omega⟩
      ·have HP3:=dh (HP2.out.trans (if_neg hl))
       clear HP2;have hl':¬ ((lw:Int)=31):=by omega
       go_simp
       refine gdd (fun h2=>?_) (fun h2=>?_) <;> go_simp
       ·have hl7:lw≤27:=by omega
        rw [kk2 lw (by omega) hl7];have hk8:2 ^ (lw - 24)≤8∧0 < 2 ^ (lw - 24):=by
         have:=Nat.pow_le_pow_right (n:=2) (by omega) (show lw - 24≤3 by omega);exact ⟨by omega,Nat.pow_pos (by omega)⟩
        have HP4:=dh (HP3.out.trans (if_neg (show ¬ lw < 24 by omega)));clear HP3;generalize 2 ^ (lw - 24)=k at *;refine rg hmx (by kernel_rfl) ?_;go_simp;go_bits
        refine ifd (fun h4=>?_) (fun h4=>?_) <;> go_simp
        ·have HE:=hE 2 (by rw [HP4.out,if_pos (by omega)])
         exact QiW.err HE.out (slN.nil 7)
        ·have HP5:=dh (HP4.out.trans (if_neg (show ¬ b.length - (p + 1) < k by omega)))
         clear HP4;have hl:((b.drop (p + 1)).take k).length=k:=by rw [List.length_take,List.length_drop];omega
         refine lp (α:=Nat × Nat) (fun x=>x.2≤k) (fun x=>⟨[(0,.ptr 1000 ver 0),(1,iv lv),(2,iv (ckI ck)),(6,.ptr 6 nx 0),(7,iv 0),(8,.ptr 8 (nx + 1 + 1) 0),(142,iv k),(143,iv x.2)],[(1000,QR ver b (p + 1 + x.2) (it + 1)),(6,⟨nx,57,7,gt0⟩),(8,⟨nx + 1 + 1,57,7,[iv mj,iv lw,iv p,iv 0,uv (It.unbe (((b.drop (p + 1)).take k).take x.2)),bov false,.v (.slice none 0 0)]⟩)],x.1,[],206⟩) (fun x=>k - x.2) [] [] (nx + 10,0) ?_ ?_
         ·go_simp
          rfl
         ·rintro ⟨u,j⟩ hj
          replace hj:j≤k:=hj
          refine gw ?_;go_simp
          refine ifd (fun h=>?_) (fun h=>?_) <;> go_simp
          ·have hjl:j < ((b.drop (p + 1)).take k).length:=by omega
           have hpj:p + 1 + j < b.length:=by omega
           have hcj:b[p + 1 + j].toNat < 256:=b[p + 1 + j].toNat_lt;have hu:=unbe_l7 (((b.drop (p + 1)).take k).take j) (by rw [List.length_take];omega);have hge:((b.drop (p + 1)).take k)[j]=b[p + 1 + j]:=by simp
           have hsub:=bys_sub b (p + 1 + j) hpj;refine rg hmx (by kernel_rfl) ?_;go_simp;go_bits
           rw [hsub];go_simp;go_bits
           refine ⟨⟨by omega,by omega⟩,by kernel_rfl,_,j + 1,by omega,by omega,Nat.le_refl _,by omega,by omega,?_⟩;rw [unbeS _ j hjl,hge];exact num8 _ _ hu hcj
          ·obtain rfl:j=k:=by omega
           have hlk:((b.drop (p + 1)).take j).take j=(b.drop (p + 1)).take j:=List.take_of_length_le (by omega);have hu:=unbe_l8 ((b.drop (p + 1)).take j) (by omega);rw [hlk];exact ⟨It.unbe ((b.drop (p + 1)).take j),p + 1 + j,⟨hu,by omega,by omega,_,HP5⟩,⟨_,Nat.le_refl _⟩,by omega,rfl⟩
       ·exact ⟨lw,p + 1,⟨by omega,by omega,by omega,1,dh (HP3.out.trans ((if_pos (by omega)).trans (if_neg (by omega)).symm))⟩,⟨_,Nat.le_refl _⟩,rfl,rfl⟩
     ·rintro ⟨n,q,u,z⟩ ⟨hn,hqb,hpq,hP⟩
      replace hn:n < 18446744073709551616:=hn
      replace hqb:q≤b.length:=hqb
      replace hpq:p < q:=hpq
      replace hP:Hid (hdP b p it ck=if mj=7∧lw=24∧n < 32 then .error 4 else .ok (mj,lw,n,z,q)):=hP
      clear HP2
      dsimp only
      have h24:lw=24→(if lw=31 then (31:Nat) else n)=n:=fun h=>if_neg (by omega)
      have h310:Hid (¬ (mj=7∧lw=24∧n < 32)→lw=31→n=0):=dh fun h h2=>(hdP_ok (hP.out.trans (if_neg h))).2.2.2.2.2.2.2.2.2.2.2.1 h2
      refine ct (α:=Unit) (fun _=>¬ (mj=7∧lw=24∧n < 32)) (fun _=>⟨[(0,.ptr 1000 ver 0),(1,iv lv),(2,iv (ckI ck)),(6,.ptr 6 nx 0),(7,iv 0),(8,.ptr 8 (nx + 1 + 1) 0)],[(1000,QR ver b q (it + 1)),(6,⟨nx,57,7,gt0⟩),(8,⟨nx + 1 + 1,57,7,[iv mj,iv lw,iv p,iv 0,uv (if lw=31 then (31:Nat) else n:Nat),bov (decide (lw=31)),.v (.slice none 0 0)]⟩)],u,[],206⟩) [] (gw ?_) ?_
      ·have hC:(mj=7∧lw=24∧n < 32)→Hid (R=.error 4):=fun h=>hE 4 (by rw [hP.out,if_pos h])
       clear hE;generalize (if lw=31 then (31:Nat) else n)=N at *;go_simp
       refine gdd (fun h3=>?_) (fun h3=>?_) <;> go_simp
       ·refine gdd (fun h4=>?_) (fun h4=>?_) <;> go_simp
        ·have hN:=h24 (by omega)
         refine ifd (fun h5=>?_) (fun h5=>?_) <;> go_simp
         ·exact QiW.err (hC ⟨by omega,by omega,by omega⟩).out (slN.nil 7)
         ·intro;omega
        ·intro;omega
       ·intro;omega
      ·rintro - hok4
       replace hok4:¬ (mj=7∧lw=24∧n < 32):=hok4
       have HP6:=dh (hP.out.trans (if_neg hok4));have h310:=h310.out hok4;clear hP hE;have HR2:=dh (HR.out.trans (by rw [HP6.out]));clear HR;refine ct (α:=Unit) (fun _=>¬ (4≤mj∧mj≤6∧8≤lv)) (fun _=>⟨[(0,.ptr 1000 ver 0),(1,iv lv),(2,iv (ckI ck)),(6,.ptr 6 nx 0),(7,iv 0),(8,.ptr 8 (nx + 1 + 1) 0)],[(1000,QR ver b q (it + 1)),(6,⟨nx,57,7,gt0⟩),(8,⟨nx + 1 + 1,57,7,[iv mj,iv lw,iv p,iv 0,uv (if lw=31 then (31:Nat) else n:Nat),bov (decide (lw=31)),.v (.slice none 0 0)]⟩)],u,[],206⟩) [] (gw ?_) ?_
       ·have hC:(4≤mj∧mj≤6∧8≤lv)→Hid (R=.error 8):=fun h=>dh (by rw [HR2.out];simp only [if_pos h])
        clear HR2;generalize (if lw=31 then (31:Nat) else n)=N at *;go_simp
        refine gdd (fun h3=>?_) (fun h3=>?_) <;> go_simp
        ·refine gdd (fun h4=>?_) (fun h4=>?_) <;> go_simp
         ·refine ifd (fun h5=>?_) (fun h5=>?_) <;> go_simp
          ·exact QiW.err (hC ⟨by omega,by omega,by omega⟩).out (slN.nil 7)
          ·omega
         ·intro;omega
        ·intro;omega
       ·rintro - hok5
        replace hok5:¬ (4≤mj∧mj≤6∧8≤lv):=hok5
        have HR3:=dh (show R=match restP b g lv q (it + 1) mj lw n with | .error e=>.error e | .ok (l,r,i)=>.ok (.mk mj lw p r n l,r,i) by rw [HR2.out];simp only [if_neg hok5])
        clear HR2;refine gw ?_;go_simp;refine cl [] [1000,8] (rest_c 1000 ver 8 (nx + 1 + 1) b g lv q (it + 1) mj lw p n hb hqb (by omega) hlv (by omega) hm8 hn hok3 (by omega) (by omega) (fun k hk=>ih k (by omega))) (by go_simp) ?_;rintro r rows hC;cases hq:restP b g lv q (it + 1) mj lw n with
        | error e'=>
          rw [hq] at hC;have HE:=dh (show R=.error e' by rw [HR3.out,hq]);clear hq HR3;obtain ⟨rfl,p2,it2,n2,cs2,S2,hS2,rfl⟩:=hC;generalize (if lw=31 then (31:Nat) else n)=N at *;rcases hS2 with rfl | ⟨rfl,rfl,rfl⟩
          ·go_simp
           exact QiW.err HE.out (.inl rfl)
          ·go_simp
           exact QiW.err HE.out (slN.nil 7)
        | ok y=>
          obtain ⟨l,r,i⟩:=y;rw [hq] at hC;have HE:=dh (show R=.ok (.mk mj lw p r n l,r,i) by rw [HR3.out,hq]);clear hq HR3;obtain ⟨rfl,S2,hS2,rfl⟩:=hC;have hG:QiW ver b R (.tup [.agg [iv mj,iv lw,iv p,iv r,uv (if lw=31 then (31:Nat) else n:Nat),bov (decide (lw=31)),S2],iv 0]) [QR ver b r i]:=QiW.ok (t:=.mk mj lw p r n l) HE.out hS2;have HG:=dh hG;clear hG HE;generalize hN:(if lw=31 then (31:Nat) else n)=N at *;clear hN;rcases hS2 with rfl | ⟨h1,h2,rfl⟩
          ·go_simp
           exact HG.out
          ·clear h1 h2
           go_simp
           exact HG.out
def QrO (R:Except Nat (Gt × Nat × Nat)) (r:SV) (rows:List Row):Prop:=match R with
 | .error e=>(∃ (a1 a2 a3 a4 f:Int) (g:Bool) (n:Nat) (cs:List SV),r=.tup [.agg [iv a1,iv a2,iv a3,iv a4,uv f,bov g,.sl n 7 cs],iv e])∧rows=[]
 | .ok (t,_,_)=>r=.tup [.agg (gtc t),iv 0]∧rows=[]
theorem rread_c (b:List UInt8) (hb:b.length≤1000000000):AC Tryd.prog XU 23 [bsl b] [] (QrO (readP b)):=by
 have hl4:(b.take 4096).length≤4096:=by rw [List.length_take];exact Nat.min_le_left ..
 obtain ⟨R,hR⟩:∃ R,R=readP b:=⟨_,rfl⟩;rw [← hR];have HR:=dh hR;clear hR;refine AC.bodyW false Tryd.func23 rfl Tryd.call23 Tryd.ntmps23 (by simp) fun e nx=>gw ?_
 go_simp
 have e1:(min (b.length:Int) 4096).toNat=(b.take 4096).length:=by rw [List.length_take];omega
 have e2:b.take ((b.take 4096).length)=b.take 4096:=by rw [List.length_take];by_cases h:4096≤b.length;rw [Nat.min_eq_left h];rw [Nat.min_eq_right (by omega),List.take_of_length_le (by omega),List.take_of_length_le (by omega)]
 rw [e1,e2];clear e1 e2;refine ⟨by omega,?_⟩;refine cl [] [11] (ritem_c (b.take 4096) hl4 600 11 (nx + 1) 0 0 0 8 (by omega) (by omega) (by omega) (by omega) (by omega)) (by go_simp) ?_;rintro r rows hI;have HR2:gi (b.take 4096) 600 0 0 0 8=R:=HR.out.symm;rw [HR2] at hI;clear HR2;cases R with
 | error e'=>
   obtain ⟨⟨a1,a2,a3,a4,f,g2,n2,cs2,rfl⟩,p2,it2,rfl⟩:=hI;go_simp
   exact ⟨⟨_,_,_,_,_,_,_,_,rfl⟩,rfl⟩
 | ok y=>
   obtain ⟨t,p2,it2⟩:=y;obtain ⟨rfl,rfl⟩:=hI;go_simp
   exact ⟨rfl,rfl⟩
theorem gi_en {b:List UInt8} {g lv p it ck:Nat} {t:Gt} {q i:Nat} (h:gi b g lv p it ck=.ok (t,q,i)):t.en=q:=by
 cases g with
 | zero=>simp [gi] at h
 | succ g=>
   rw [gi_rest] at h;cases hh:hdP b p it ck with
   | error e=>rw [hh] at h;cases h
   | ok x=>
     obtain ⟨mj,lw,n,z,r⟩:=x;rw [hh] at h;simp only at h
     split at h
     ·cases h
     ·cases hr:restP b g lv r (it + 1) mj lw n with
      | error e=>rw [hr] at h;cases h
      | ok y=>
        obtain ⟨l,u,j⟩:=y;rw [hr] at h;injection h with h
        simp only [Prod.mk.injEq] at h;obtain ⟨rfl,rfl,rfl⟩:=h
        rfl
theorem rscan_c (b:List UInt8) (hb:b.length≤1000000000):AC Tryd.prog XU 8 [bsl b] [] fun r rows=>r=.tup [iv (scanP (readP b)).1,iv (scanP (readP b)).2]∧rows=[]:=by
 refine AC.bodyW false Tryd.func8 rfl Tryd.call8 Tryd.ntmps8 (by simp) fun e nx=>gw ?_
 go_simp
 refine cl [] [] (rread_c b hb) (by go_simp) ?_;rintro r rows hI;cases hR:readP b with
 | error e'=>
   rw [hR] at hI;have hne:e'≠0:=gi_err hR;clear hR;obtain ⟨⟨a1,a2,a3,a4,f,g2,n2,cs2,rfl⟩,rfl⟩:=hI;go_simp
   exact ⟨rfl,rfl⟩
 | ok y=>
   obtain ⟨t,p2,it2⟩:=y;rw [hR] at hI;have hen:t.en=p2:=gi_en hR;clear hR;obtain ⟨rfl,rfl⟩:=hI;go_simp
   exact ⟨rfl,rfl⟩
end Go.Proofs.YtelefkkkccilaaaDoor
