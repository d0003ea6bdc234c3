/- Joined texts. -/
import Derived.Test.YtelefkkkccilaaaDoorJE
import Derived.Test.YtelefkkkccilaaaDoorJM
import Derived.Test.YtelefkkkccilaaaDoorJD
import Derived.Test.YtelefkkkccilaaaDoorLP
set_option linter.unusedVariables false
set_option linter.unusedSimpArgs false
namespace Go.Proofs.YtelefkkkccilaaaDoor
open Am Go.RowKit
set_option maxRecDepth 100000
inductive GH (m n:Nat):List UInt8→Prop
 | tiny:n < 24→GH m n [UInt8.ofNat (m * 32 + n)]
 | more (k s:Nat):(k=1∧s=1∨k=2∧s=2∨k=3∧s=4∨k=4∧s=8)→n < 256 ^ s→GH m n (UInt8.ofNat (m * 32 + 23 + k) :: It.be s n)
theorem GH.len {m n:Nat} {l:List UInt8} (h:GH m n l):l.length≤9:=by
 cases h with
 | tiny h=>simp
 | more k s h hn=>simp only [List.length_cons,It.be_length];omega
theorem GH.head {m n:Nat} (hn:n < 18446744073709551616):GH m n (It.head m n):=by
 unfold It.head
 split
 ·exact .tiny (by assumption)
 split
 ·exact .more 1 1 (by omega) (by simpa using (by assumption))
 split
 ·exact .more 2 2 (by omega) (by simpa using (by assumption))
 split
 ·exact .more 3 4 (by omega) (by simpa using (by assumption))
 ·exact .more 4 8 (by omega) (by simpa using hn)
theorem shrN (n i:Nat) (h:i≤8):(n:Int).fdiv (2 ^ min (8 * i) 64)=((n / 256 ^ i:Nat):Int):=by
 have e1:min (8 * i) 64=8 * i:=by omega
 rw [e1,Int.fdiv_eq_ediv_of_nonneg _ (by exact Int.pow_nonneg (by omega)),show (2:Int) ^ (8 * i)=((256 ^ i:Nat):Int) by rw [Int.pow_mul];norm_cast]
 norm_cast
def HdG (ver:Nat) (L:List Int) (m n:Nat) (r:SV) (rows:List Row):Prop:=∃ (l:List UInt8) (a':Nat),GH m n l∧a'≤L.length∧r=.own 2000 0 l.length 1∧rows=[DK ver L a',⟨0,5,1,bys l⟩]
section
variable {X:Ev}
set_option maxHeartbeats 8000000 in
theorem lhead_c (s ver:Nat) (L:List Int) (a m n:Nat) (hL:L.length≤9223372036854775807) (ha:a≤L.length) (hm:m < 8) (hn:n < 18446744073709551616):AC Tryd.prog X 39 [.ptr s ver 0,iv m,uv n] [DK ver L a] (HdG ver L m n):=by
 refine AC.bodyW true Tryd.func39 rfl Tryd.call39 Tryd.ntmps39 (by simp) fun e nx=>?_
 go_simp
 refine sqc ?_;go_simp;refine sqc ?_;go_simp;refine ct (α:=Nat) (fun i=>Hid ((i=0∨i=1∨i=2∨i=4∨i=8)∧n < 256 ^ i)) (fun i=>⟨[(0,.ptr 1000 ver 0),(1,iv m),(2,uv n),(6,.v (.slice none 0 0)),(7,iv i)],[(1000,DK ver L a)],nx,[],94⟩) [] ?_ ?_
 ·refine blk ?_
  refine lp (α:=Nat) (fun x=>x≤8) (fun x=>⟨[(0,.ptr 1000 ver 0),(1,iv m),(2,uv n),(6,.v (.slice none 0 0)),(7,iv x)],[(1000,DK ver L a)],nx,[],94⟩) (fun x=>8 - x) [] [] 0 ?_ ?_
  ·go_simp
  ·intro i hi
   replace hi:i≤8:=hi
   refine gw ?_;go_simp
   refine gdd (fun h=>?_) (fun h=>?_) <;> go_simp
   ·go_bits
    rw [shrN n i (by omega)];have HQ:=dh (show n / 256 ^ i=n / 256 ^ i from rfl);generalize hq:n / 256 ^ i=q at *;have HQ:=dh hq;clear hq;have up:Hid (∃ y,y≤8∧8 - y < 8 - i∧IntKind.i64.wrap ((i:Int) + 1)=(y:Int)):=dh ⟨i + 1,by omega,by omega,by go_bits;omega⟩;by_cases h1:0 < q
    ·refine gdd (fun _=>?_) (fun h2=>absurd (by omega) h2)
     go_simp
     exact up.out
    ·obtain rfl:q=0:=by omega
     clear h1;refine gdd (fun h2=>absurd h2 (by omega)) (fun _=>?_);go_simp
     by_cases h3:i=3
     ·subst h3
      go_simp
      exact up.out
     ·refine gdd (fun h2=>absurd h2 (by omega)) (fun _=>?_)
      have h3':¬ (i:Int)=3:=by omega
      go_simp
      refine ifd (fun h4=>?_) (fun h4=>?_) <;> go_simp
      ·exact up.out
      ·exact ⟨i,dh ⟨by omega,by have:=HQ.out;have h5:0 < 256 ^ i:=Nat.pow_pos (by omega);rcases Nat.div_eq_zero_iff.1 this with h | h <;> omega⟩,by omega⟩
   ·exact ⟨8,dh ⟨by omega,by simpa using hn⟩,by omega⟩
 ·intro i hi
  replace hi:Hid ((i=0∨i=1∨i=2∨i=4∨i=8)∧n < 256 ^ i):=hi
  refine sqc ?_;go_simp;refine sqc ?_;go_simp;refine cl [] [1000] (next_c 1000 ver L a 12 hL ha (by omega) (by omega)) (by go_simp) ?_;rintro r rows ⟨q,a1,hq,ha1,rfl,rfl⟩;go_simp
  refine ct (α:=Nat) (fun k=>Hid (k=0∧n=0∨(k=1∧n < 256 ^ 1∨k=2∧n < 256 ^ 2∨k=3∧n < 256 ^ 4∨k=4∧n < 256 ^ 8))) (fun k=>⟨[(0,.ptr 1000 ver 0),(1,iv m),(2,uv n),(8,.own 32 nx 5 1),(9,iv k)],[(1000,DK ver L a1),(32,⟨nx,3,1,[iv 0,iv 1,iv 2,iv 4,iv 8]⟩)],nx + 1,[],94⟩) [] (gw ?_) ?_
  ·obtain ⟨hi1,hi2⟩:=hi.out
   rcases (show q=0∨q=1∨q=2∨q=3∨q=4∨4 < q by omega) with rfl | rfl | rfl | rfl | rfl | h4
   ·go_simp
    refine gdd (fun h=>?_) (fun h=>?_) <;> go_simp
    ·refine cl [] [] (head_c X m n hm hn) (by go_simp) ?_
     rintro r rows ⟨rfl,rfl⟩;go_simp
     exact ⟨It.head m n,a1,GH.head hn,ha1,rfl,rfl⟩
    ·obtain rfl:i=0:=by omega
     have hn0:n=0:=by simpa using hi2
     subst hn0;go_simp
     exact ⟨0,dh (by omega),rfl⟩
   ·go_simp
    refine gdd (fun h=>?_) (fun h=>?_) <;> go_simp
    ·refine cl [] [] (head_c X m n hm hn) (by go_simp) ?_
     rintro r rows ⟨rfl,rfl⟩;go_simp
     exact ⟨It.head m n,a1,GH.head hn,ha1,rfl,rfl⟩
    ·exact ⟨1,dh (by rcases hi1 with rfl | rfl | rfl | rfl | rfl <;> simp at hi2 <;> omega),rfl⟩
   ·go_simp
    refine gdd (fun h=>?_) (fun h=>?_) <;> go_simp
    ·refine cl [] [] (head_c X m n hm hn) (by go_simp) ?_
     rintro r rows ⟨rfl,rfl⟩;go_simp
     exact ⟨It.head m n,a1,GH.head hn,ha1,rfl,rfl⟩
    ·exact ⟨2,dh (by rcases hi1 with rfl | rfl | rfl | rfl | rfl <;> simp at hi2 <;> omega),rfl⟩
   ·go_simp
    refine gdd (fun h=>?_) (fun h=>?_) <;> go_simp
    ·refine cl [] [] (head_c X m n hm hn) (by go_simp) ?_
     rintro r rows ⟨rfl,rfl⟩;go_simp
     exact ⟨It.head m n,a1,GH.head hn,ha1,rfl,rfl⟩
    ·exact ⟨3,dh (by rcases hi1 with rfl | rfl | rfl | rfl | rfl <;> simp at hi2 <;> omega),rfl⟩
   ·go_simp
    refine gdd (fun h=>?_) (fun h=>?_) <;> go_simp
    ·refine cl [] [] (head_c X m n hm hn) (by go_simp) ?_
     rintro r rows ⟨rfl,rfl⟩;go_simp
     exact ⟨It.head m n,a1,GH.head hn,ha1,rfl,rfl⟩
    ·exact ⟨4,dh (by rcases hi1 with rfl | rfl | rfl | rfl | rfl <;> simp at hi2 <;> omega),rfl⟩
   ·go_simp
    refine gdd (fun h=>?_) (fun h=>absurd (by omega) h);go_simp
    refine cl [] [] (head_c X m n hm hn) (by go_simp) ?_;rintro r rows ⟨rfl,rfl⟩;go_simp
    exact ⟨It.head m n,a1,GH.head hn,ha1,rfl,rfl⟩
  ·intro k hk
   replace hk:Hid (k=0∧n=0∨(k=1∧n < 256 ^ 1∨k=2∧n < 256 ^ 2∨k=3∧n < 256 ^ 4∨k=4∧n < 256 ^ 8)):=hk
   refine sqc ?_;go_simp;have hk4:k≤4:=by have:=hk.out;omega
   refine ifd (fun h=>?_) (fun h=>?_) <;> go_simp
   ·have hn0:n=0:=by have:=hk.out;omega
    subst hn0
    go_bits
    exact ⟨[UInt8.ofNat (m * 32 + 0)],a1,.tiny (by omega),ha1,rfl,by rw [by1 (m * 32 + 0) (32 * (m:Int) + ((0:Nat):Int)) (by omega) (by omega)]⟩
   ·refine sqc ?_;go_simp;go_bits
    rw [by1 (m * 32 + 23 + k) (32 * (m:Int) + 23 + k) (by omega) (by omega)];refine sqA ?_;refine ct (α:=Nat) (fun z=>Hid ((k=1∧z=1∨k=2∧z=2∨k=3∧z=4∨k=4∧z=8)∧n < 256 ^ z)) (fun z=>⟨[(0,.ptr 1000 ver 0),(2,uv n),(10,.own 74 (nx + 1) 1 1),(11,iv ((z:Int) - 1))],[(1000,DK ver L a1),(74,⟨nx + 1,5,1,bys [UInt8.ofNat (m * 32 + 23 + k)]⟩)],nx + 1 + 1,[],94⟩) [] (gw ?_) ?_
    ·rcases (show k=1∨k=2∨k=3∨k=4 by omega) with rfl | rfl | rfl | rfl
     ·go_simp;go_bits
      exact ⟨1,dh ⟨by omega,by have:=hk.out;omega⟩,by omega⟩
     ·go_simp;go_bits
      exact ⟨2,dh ⟨by omega,by have:=hk.out;omega⟩,by omega⟩
     ·go_simp;go_bits
      exact ⟨4,dh ⟨by omega,by have:=hk.out;omega⟩,by omega⟩
     ·go_simp;go_bits
      exact ⟨8,dh ⟨by omega,by have:=hk.out;omega⟩,by omega⟩
    ·intro z hz
     replace hz:Hid ((k=1∧z=1∨k=2∧z=2∨k=3∧z=4∨k=4∧z=8)∧n < 256 ^ z):=hz
     have hz8:z≤8:=by have:=hz.out;omega
     have HG:Hid (GH m n (UInt8.ofNat (m * 32 + 23 + k) :: It.be z n)):=dh (.more k z (by have:=hz.out;omega) hz.out.2);generalize UInt8.ofNat (m * 32 + 23 + k)=c at *;refine blk ?_;refine lp (α:=Nat × Nat × Nat × List UInt8) (fun x=>x.2.2.1≤z∧x.2.2.2 ++ It.be x.2.2.1 n=c :: It.be z n) (fun x=>⟨[(0,.ptr 1000 ver 0),(2,uv n),(10,.own 74 x.2.1 x.2.2.2.length 1),(11,iv ((x.2.2.1:Int) - 1))],[(1000,DK ver L a1),(74,⟨x.2.1,5,1,bys x.2.2.2⟩)],x.1,[],94⟩) (fun x=>x.2.2.1) [] [] (nx + 1 + 1,nx + 1,z,[c]) ?_ ?_
     ·go_simp
     ·rintro ⟨ux,vr,j,l⟩ ⟨hj,hl⟩
      have hj:j≤z:=hj;refine gw ?_;go_simp
      refine ifd (fun h=>?_) (fun h=>?_) <;> go_simp
      ·go_bits
       have hll:l.length≤9:=by
        have:=congrArg List.length hl;simp only [List.length_append,List.length_cons,It.be_length] at this;omega
       refine ⟨⟨by rw [show Tryd.t5.bytes=1 from rfl];omega,by omega⟩,_,_,j - 1,l ++ [UInt8.ofNat (n / 256 ^ (j - 1))],⟨by omega,?_⟩,by omega,Nat.le_refl _,⟨⟨rfl,by simp⟩,by omega⟩,rfl,?_⟩
       ·obtain ⟨i,rfl⟩:∃ i,j=i + 1:=⟨j - 1,by omega⟩
        rw [← hl];simp [It.be]
       ·rw [byS n (j - 1) (by omega),bys_app]
      ·refine gw ?_
       go_simp
       obtain rfl:j=0:=by omega
       have hl:l ++ []=c :: It.be z n:=hl;rw [List.append_nil] at hl;subst hl;exact ⟨_,a1,HG.out,ha1,rfl,rfl⟩
end
mutual
inductive GE:It→List UInt8→Prop
 | num {x:It} {m:Nat} {h:List UInt8}:x.kind=m→m < 2→GH m x.num h→GE x h
 | str {x:It} {m:Nat} {h:List UInt8}:x.kind=m→(m=2∨m=3)→GH m x.bytes.length h→GE x (h ++ x.bytes)
 | cut {x:It} {m i:Nat} {h h':List UInt8}:x.kind=m→(m=2∨m=3)→i≤x.bytes.length→(m=3→0 < i→(hi:i < x.bytes.length)→¬ (x.bytes[i].toNat &&& 192=128))→GH m i h→GH m (x.bytes.length - i) h'→GE x (UInt8.ofNat (m * 32 + 31) :: h ++ x.bytes.take i ++ h' ++ x.bytes.drop i ++ [255])
 | tag {x y:It} {h l:List UInt8}:x.kind=6→x.kids=[y]→GH 6 x.num h→GE y l→GE x (h ++ l)
 | enc {x:It}:x.kind=7∨x.kind=8→x.kids=[]→GE x x.enc
 | flt {x:It}:x.kind=8→GE x (251 :: It.be 8 x.num)
 | arr {x:It} {h l:List UInt8}:x.kind=4→GH 4 x.kids.length h→GEs x.kids l→GE x (h ++ l)
 | arrO {x:It} {l:List UInt8}:x.kind=4→GEs x.kids l→GE x (159 :: l ++ [255])
 | map {x:It} {f:Nat} {h l:List UInt8}:x.kind=5→2 * f≤x.kids.length→GH 5 (x.kids.length / 2) h→GEs (x.kids.drop (2 * f) ++ x.kids.take (2 * f)) l→GE x (h ++ l)
 | mapO {x:It} {f:Nat} {l:List UInt8}:x.kind=5→2 * f≤x.kids.length→GEs (x.kids.drop (2 * f) ++ x.kids.take (2 * f)) l→GE x (191 :: l ++ [255])
inductive GEs:List It→List UInt8→Prop
 | nil:GEs [] []
 | app {xs:List It} {y:It} {l m:List UInt8}:GEs xs l→GE y m→GEs (xs ++ [y]) (l ++ m)
end
mutual
def It.gsz:It→Nat
 | .mk _ _ b ks=>30 + b.length + It.gszs ks
def It.gszs:List It→Nat
 | []=>0
 | x :: l=>It.gsz x + It.gszs l
end
theorem It.gszs_app:∀ (l m:List It),It.gszs (l ++ m)=It.gszs l + It.gszs m
 | [],m=>by simp [It.gszs]
 | x :: l,m=>by simp [It.gszs,It.gszs_app l m,Nat.add_assoc]
theorem It.gszs_rot (l:List It) (i:Nat):It.gszs (l.drop i ++ l.take i)=It.gszs l:=by
 rw [It.gszs_app,Nat.add_comm,← It.gszs_app,List.take_append_drop]
theorem It.gszs_take (l:List It) (i:Nat):It.gszs (l.take i)≤It.gszs l:=by
 have:=It.gszs_app (l.take i) (l.drop i);rw [List.take_append_drop] at this;omega
theorem It.gsz_eq (x:It):x.gsz=30 + x.bytes.length + It.gszs x.kids:=by cases x;rfl
theorem It.gszs_len:∀ l:List It,l.length≤It.gszs l
 | []=>by simp
 | x :: l=>by have:=It.gszs_len l;have:=x.gsz_eq;simp [It.gszs];omega
theorem GE_len {x:It} {l:List UInt8} (h:GE x l):l.length≤x.gsz:=by
 refine GE.rec (motive_1:=fun x l _=>l.length≤x.gsz) (motive_2:=fun xs l _=>l.length≤It.gszs xs) ?_ ?_ ?_ ?_ ?_ ?_ ?_ ?_ ?_ ?_ ?_ ?_ h
 ·intro x m h _ _ h3;rw [It.gsz_eq];have:=h3.len;omega
 ·intro x m h _ _ h3;rw [It.gsz_eq,List.length_append];have:=h3.len;omega
 ·intro x m i h h' _ _ hi _ h3 h4;rw [It.gsz_eq];have:=h3.len;have:=h4.len;simp;omega
 ·intro x y h l _ hk h3 _ h4;rw [It.gsz_eq,hk];have:=h3.len;simp [It.gszs];omega
 ·intro x _ hk
  obtain ⟨k,n,b,ks⟩:=x;obtain rfl:ks=[]:=hk;have:=It.enc_le k n b [];rw [It.gsz_eq];simp [It.encs] at this
  show (It.enc (.mk k n b [])).length≤30 + b.length + 0
  omega
 ·intro x _;rw [It.gsz_eq];simp [It.be_length];omega
 ·intro x h l _ h3 _ h4;rw [It.gsz_eq];have:=h3.len;simp;omega
 ·intro x l _ _ h4;rw [It.gsz_eq];simp;omega
 ·intro x f h l _ _ h3 _ h4;rw [It.gszs_rot] at h4;rw [It.gsz_eq];have:=h3.len;simp;omega
 ·intro x f l _ _ _ h4;rw [It.gszs_rot] at h4;rw [It.gsz_eq];simp;omega
 ·simp [It.gszs]
 ·intro xs y l m _ _ h1 h2;rw [It.gszs_app];simp [It.gszs];omega
theorem GEs_len {xs:List It} {l:List UInt8} (h:GEs xs l):l.length≤It.gszs xs + 28:=by
 have:=GE_len (.arrO (x:=.mk 4 0 [] xs) rfl h);rw [It.gsz_eq] at this;simp only [List.cons_append,List.length_cons,List.length_append,List.length_nil,It.bytes,It.kids] at this;omega
theorem It.wfs_in:∀ {l:List It} {d i:Nat} (h:i < l.length),It.wfs d l=true→It.wf d l[i]=true
 | x :: l,d,0,_,hw=>by unfold It.wfs at hw;rw [Bool.and_eq_true] at hw;exact hw.1
 | x :: l,d,i + 1,h,hw=>by
   unfold It.wfs at hw;rw [Bool.and_eq_true] at hw;simpa using It.wfs_in (i:=i) (by simpa using h) hw.2
theorem It.wf_cases {d:Nat} {k:Int} {n:Nat} {b:List UInt8} {ks:List It} (h:It.wf d (.mk k n b ks)=true):n < 18446744073709551616∧(k=0∨k=1∨(k=2∨k=3)∨k=7∧ks=[]∨k=8∧ks=[]∨(k=6∧0 < d∧∃ y,ks=[y]∧It.wf (d - 1) y=true)∨((k=4∨k=5)∧0 < d∧It.wfs (d - 1) ks=true∧(k=5→ks.length % 2=0))):=by
 unfold It.wf at h;rw [Bool.and_eq_true] at h;refine ⟨of_decide_eq_true h.1,?_⟩;have h:=h.2
 split at h
 ·rename_i h0
  exact h0.imp id .inl
 split at h
 ·rename_i h2
  exact .inr (.inr (.inl (.inl h2)))
 split at h
 ·rename_i h2
  exact .inr (.inr (.inl (.inr h2)))
 split at h
 ·rename_i h7
  simp only [Bool.and_eq_true,List.isEmpty_iff] at h;exact .inr (.inr (.inr (.inl ⟨h7,h.1.2⟩)))
 split at h
 ·rename_i h8
  simp only [Bool.and_eq_true,List.isEmpty_iff] at h;exact .inr (.inr (.inr (.inr (.inl ⟨h8,h.1.2⟩))))
 split at h
 ·rename_i h0
  simp only [Bool.and_eq_true,decide_eq_true_eq] at h;obtain ⟨⟨⟨⟨_,hd⟩,h6⟩,h5⟩,hs⟩:=h;rcases h0 with rfl | rfl | rfl
  ·exact .inr (.inr (.inr (.inr (.inr (.inr ⟨.inl rfl,hd,hs,by omega⟩)))))
  ·exact .inr (.inr (.inr (.inr (.inr (.inr ⟨.inr rfl,hd,hs,fun _=>by simpa using (show decide (ks.length % 2=0)=true by simp at h5;simpa using h5.1)⟩)))))
  ·match ks,h6,hs with
   | [y],_,hs=>exact .inr (.inr (.inr (.inr (.inr (.inl ⟨rfl,hd,y,rfl,It.wfs_in (i:=0) (by simp) hs⟩)))))
   | [],h6,_=>simp at h6
   | _ :: _ :: _,h6,_=>simp at h6
 ·cases h
theorem and192 (c:UInt8):andI .u8 (c.toNat:Int) 192=((c.toNat &&& 192:Nat):Int):=u8_and_nat c.toNat 192 (by have:=c.toNat_lt;omega) (by omega)
def CntP (m:Nat) (ks:List It) (c:Nat):Prop:=c≤ks.length∧(m=4→c=ks.length)∧(m=5→c=ks.length / 2)
def LhP (m c:Nat) (op:Bool) (l:List UInt8):Prop:=(op=true→l=[UInt8.ofNat (m * 32 + 31)])∧(op=false→GH m c l)
theorem LhP.len {m c:Nat} {op:Bool} {l:List UInt8} (h:LhP m c op l):l.length≤9:=by
 cases op with
 | true=>rw [h.1 rfl];simp
 | false=>exact (h.2 rfl).len
def StP (m c f w:Nat):Prop:=(m=4→f=0∧w=1)∧(m=5→w=2∧∃ g,f=2 * g∧g≤c)
def LoP (m:Nat) (ks:List It) (f j:Nat) (acc:List UInt8):Prop:=GEs ((ks.drop f ++ ks.take f).take j) acc∧j≤ks.length∧(m=5→j % 2=0)
theorem It.gszs_in:∀ {l:List It} {i:Nat} (h:i < l.length),(l[i]).gsz≤It.gszs l
 | x :: l,0,_=>by simp [It.gszs]
 | x :: l,i + 1,h=>by have:=It.gszs_in (l:=l) (i:=i) (by simpa using h);simp [It.gszs];omega
theorem It.take_next {l:List It} {i:Nat} {y:It} (h:l[i]?=some y):l.take (i + 1)=l.take i ++ [y]:=by
 rw [List.take_add_one,h];rfl
theorem lst_end {m c f w n:Nat} {b l0 acc:List UInt8} {ks:List It} {op:Bool} (hm:m=4∨m=5) (hc:CntP m ks c) (hst:StP m c f w) (hl:LhP m c op l0) (hlo:LoP m ks f ks.length acc):GE (.mk m n b ks) (if op then l0 ++ acc ++ [255] else l0 ++ acc):=by
 obtain ⟨hg,_,_⟩:=hlo;rcases hm with rfl | rfl
 ·obtain ⟨rfl,-⟩:=hst.1 rfl
  obtain rfl:=hc.2.1 rfl;rw [List.drop_zero,List.take_zero,List.append_nil,List.take_length] at hg;cases op with
  | true=>rw [hl.1 rfl];exact .arrO (x:=.mk (4:Nat) n b ks) rfl hg
  | false=>exact .arr (x:=.mk (4:Nat) n b ks) rfl (hl.2 rfl) hg
 ·obtain ⟨-,g,rfl,hgc⟩:=hst.2 rfl
  obtain rfl:=hc.2.2 rfl;rw [List.take_of_length_le (by simp;omega)] at hg;cases op with
  | true=>rw [hl.1 rfl];exact .mapO (x:=.mk (5:Nat) n b ks) (f:=g) rfl (by show 2 * g≤ks.length;omega) hg
  | false=>exact .map (x:=.mk (5:Nat) n b ks) (f:=g) rfl (by show 2 * g≤ks.length;omega) (hl.2 rfl) hg
theorem rot_at {l:List It} {j f:Nat} (hf:f≤l.length) (hj:j < l.length):∃ h:(j + f) % l.length < l.length,(l.drop f ++ l.take f)[j]?=some (l[(j + f) % l.length]'h):=by
 have h:=Nat.mod_lt (j + f) (show 0 < l.length by omega);refine ⟨h,?_⟩;rcases Nat.lt_or_ge j (l.length - f) with h1 | h1
 ·have e:(j + f) % l.length=f + j:=by rw [Nat.mod_eq_of_lt (by omega),Nat.add_comm]
  rw [List.getElem?_append_left (by simpa using h1),List.getElem?_drop,List.getElem?_eq_getElem (by omega)];congr 2;exact e.symm
 ·have e:(j + f) % l.length=j - (l.length - f):=by
   rw [Nat.mod_eq_sub_mod (by omega),Nat.mod_eq_of_lt (by omega)];omega
  rw [List.getElem?_append_right (by simpa using h1),List.length_drop,List.getElem?_take_of_lt (by omega),List.getElem?_eq_getElem (by omega)];congr 2;exact e.symm
def CutP (m i:Nat) (b:List UInt8) (c:Bool):Prop:=(c=true→0 < i)∧(c=false→m=3→0 < i→(hi:i < b.length)→¬ (b[i].toNat &&& 192=128))
def GenC (ver:Nat) (L:List Int) (x:It) (r:SV) (rows:List Row):Prop:=∃ (l:List UInt8) (a':Nat),GE x l∧a'≤L.length∧r=.own 2000 0 l.length 1∧rows=[DK ver L a',⟨0,5,1,bys l⟩]
theorem cut_end {ver:Nat} {L:List Int} {m n i a4:Nat} {b l l2:List UInt8} {ks:List It} {c:Int} (hm:m=2∨m=3) (hi:i≤b.length) (hc:m=3→0 < i→(hi:i < b.length)→¬ (b[i].toNat &&& 192=128)) (hg:GH m i l) (hg2:GH m (b.length - i) l2) (ha4:a4≤L.length) (hcc:c=((m * 32 + 31:Nat):Int)):
 GenC ver L (.mk (m:Int) n b ks) (.own 2000 0 (1 + l.length + i + l2.length + (b.length - i) + 1) 1) [DK ver L a4,⟨0,5,1,.v (.int .u8 c) :: (bys (l ++ (b.take i ++ (l2 ++ (b.drop i).take (b.length - i)))) ++ [.v (.int .u8 255)])⟩]:=by
 have h1:(b.drop i).take (b.length - i)=b.drop i:=List.take_of_length_le (by simp);have h2:=by1 (m * 32 + 31) c hcc (by omega);refine ⟨UInt8.ofNat (m * 32 + 31) :: l ++ b.take i ++ l2 ++ b.drop i ++ [255],a4,.cut (x:=.mk (m:Int) n b ks) rfl hm hi hc hg hg2,ha4,?_,?_⟩
 ·congr 1
  simp [Nat.min_eq_left hi];omega
 ·have h3:(SV.v (.int .u8 c) :: (bys (l ++ (b.take i ++ (l2 ++ b.drop i))) ++ [SV.v (.int .u8 255)]))=bys (UInt8.ofNat (m * 32 + 31) :: l ++ b.take i ++ l2 ++ b.drop i ++ [255]):=by
   have h4:[SV.v (.int .u8 255)]=bys [255]:=rfl;rw [h4,show SV.v (.int .u8 c) :: (bys (l ++ (b.take i ++ (l2 ++ b.drop i))) ++ bys [255])=[y8 c] ++ (bys (l ++ (b.take i ++ (l2 ++ b.drop i))) ++ bys [255]) from rfl,h2,bys_app,bys_app];simp
  rw [h1,h3]
def GenD (X:Ev) (d:Nat):Prop:=∀ x:It,It.wf d x=true→x.gsz≤1000000→∀ (s ver:Nat) (L:List Int) (a:Nat),L.length≤9223372036854775807→a≤L.length→AC Tryd.prog X 16 [.ptr s ver 0,itS x] [DK ver L a] (GenC ver L x)
section
variable {X:Ev}
set_option maxHeartbeats 8000000 in
theorem general_step (d:Nat) (ih:0 < d→GenD X (d - 1)):GenD X d:=by
 intro x hw hS s ver L a hL ha;obtain ⟨k,n,b,ks⟩:=x;have IH:=dh ih;have HW:=dh hw;clear ih hw;refine AC.bodyW true Tryd.func16 rfl Tryd.call16 Tryd.ntmps16 (by simp) fun e nx=>?_
 go_simp
 refine sqc ?_;go_simp;refine sqc ?_;go_simp;refine cl [] [1000] (next_c 1000 ver L a 5 hL ha (by omega) (by omega)) (by go_simp) ?_;rintro r rows ⟨q,a1,hq,ha1,rfl,rfl⟩;go_simp
 generalize decide ((q:Int)=4)=op;refine sqc ?_;go_simp;obtain ⟨hn,hk⟩:=It.wf_cases HW.out;rcases hk with rfl | rfl | h23 | ⟨rfl,rfl⟩ | ⟨rfl,rfl⟩ | ⟨rfl,hd,y,rfl,hy⟩ | ⟨h45,hd,hs,h5⟩
 ·refine sqc ?_;go_simp
  refine cl [] [1000] (lhead_c 1000 ver L a1 0 n hL ha1 (by omega) hn) (by go_simp) ?_;rintro r rows ⟨l,a2,hg,ha2,rfl,rfl⟩;go_simp
  exact ⟨_,a2,.num (m:=0) rfl (by omega) hg,ha2,rfl,rfl⟩
 ·refine sqc ?_;go_simp
  refine cl [] [1000] (lhead_c 1000 ver L a1 1 n hL ha1 (by omega) hn) (by go_simp) ?_;rintro r rows ⟨l,a2,hg,ha2,rfl,rfl⟩;go_simp
  exact ⟨_,a2,.num (m:=1) rfl (by omega) hg,ha2,rfl,rfl⟩
 ·have hbl:b.length≤1000000:=by
   rw [It.gsz_eq] at hS;have hS:30 + b.length + It.gszs ks≤1000000:=hS;omega
  rcases h23 with rfl | rfl
  ·refine sqc ?_;go_simp
   refine ifk (fun h=>?_) (fun h=>?_) <;> go_simp
   ·refine rgp [0,1,2,3,4,5,6,8,9,7,10,11] hmx (by kernel_rfl) ?_
    go_simp;go_bits
    refine cl [] [1000] (lhead_c 1000 ver L a1 2 b.length hL ha1 (by omega) (by omega)) (by go_simp <;> kernel_rfl) ?_
    rintro r rows ⟨l,a2,hg,ha2,rfl,rfl⟩;have hll:=hg.len;go_simp
    exact ⟨⟨by rw [show Tryd.t5.bytes=1 from rfl];omega,by omega⟩,by kernel_rfl,l ++ b,a2,.str (m:=2) rfl (by omega) hg,ha2,by rw [List.length_append],rfl⟩
   ·go_bits
    refine cl [] [1000] (next_c 1000 ver L a1 (b.length + 1) hL ha1 (by omega) (by omega)) (by go_simp) ?_;rintro r rows ⟨i,a2,hi,ha2,rfl,rfl⟩;go_simp
    refine lp (α:=Nat) (fun i=>i≤b.length) (fun i=>⟨[(0,.ptr 1000 ver 0),(3,.ptr 3 nx 0),(4,.v (.slice none 0 0)),(7,iv i)],[(1000,DK ver L a2),(3,⟨nx,31,4,[iv 2,uv n,bsl b,isl ks]⟩)],nx + 1,[],218⟩) (fun i=>i) [] [] i ?_ ?_
    ·go_simp
     omega
    ·intro i hi
     replace hi:i≤b.length:=hi
     refine sqA ?_;refine ct (α:=Bool) (CutP 2 i b) (fun c=>⟨[(0,.ptr 1000 ver 0),(3,.ptr 3 nx 0),(4,.v (.slice none 0 0)),(7,iv i),(74,bov c)],[(1000,DK ver L a2),(3,⟨nx,31,4,[iv 2,uv n,bsl b,isl ks]⟩)],nx + 1,[],218⟩) [] (gw ?_) ?_
     ·go_simp
      exact ⟨by simp,fun _ h=>absurd h (by decide)⟩
     ·intro c hc
      replace hc:CutP 2 i b c:=hc
      refine gw ?_;go_simp
      refine ifk (fun h=>?_) (fun h=>?_)
      ·subst h
       have h0:0 < i:=hc.1 rfl;refine gw ?_;go_simp;go_bits;exact ⟨i - 1,by omega,by omega,by omega⟩
      ·subst h
       have HC:=dh (hc.2 rfl);clear hc;go_simp
       refine rgp [0,1,2,3,4,5,6,7,8,9,10,11,12,13] hmx (by kernel_rfl) ?_;go_simp;go_bits
       refine cl [] [1000] (lhead_c 1000 ver L a2 2 i hL ha2 (by omega) (by omega)) (by go_simp <;> kernel_rfl) ?_
       rintro r rows ⟨l,a3,hg,ha3,rfl,rfl⟩;have hll:=hg.len;go_simp
       refine ⟨⟨by rw [show Tryd.t5.bytes=1 from rfl];omega,by omega⟩,by kernel_rfl,?_⟩;refine rgp [0,1,2,3,4,5,6,7,8,9,10,11,12,13,14,15,16,17] hmx (by kernel_rfl) ?_;go_simp;go_bits
       refine ⟨⟨by omega,by rw [show Tryd.t5.bytes=1 from rfl];omega,by omega⟩,?_⟩;rw [show (b.length:Int) - i=((b.length - i:Nat):Int) by omega];refine cl [] [1000] (lhead_c 1000 ver L a3 2 (b.length - i) hL ha3 (by omega) (by omega)) (by go_simp <;> kernel_rfl) ?_
       rintro r rows ⟨l2,a4,hg2,ha4,rfl,rfl⟩;have hll2:=hg2.len;go_simp
       exact ⟨⟨by omega,by rw [show Tryd.t5.bytes=1 from rfl];omega,by omega⟩,by kernel_rfl,⟨by omega,by rw [show Tryd.t5.bytes=1 from rfl];omega,by omega⟩,⟨by omega,by rw [show Tryd.t5.bytes=1 from rfl];omega,by omega⟩,cut_end (m:=2) (by omega) hi HC.out hg hg2 ha4 (by omega)⟩
  ·refine sqc ?_;go_simp
   refine ifk (fun h=>?_) (fun h=>?_) <;> go_simp
   ·refine rgp [0,1,2,3,4,5,6,8,9,7,10,11] hmx (by kernel_rfl) ?_
    go_simp;go_bits
    refine cl [] [1000] (lhead_c 1000 ver L a1 3 b.length hL ha1 (by omega) (by omega)) (by go_simp <;> kernel_rfl) ?_
    rintro r rows ⟨l,a2,hg,ha2,rfl,rfl⟩;have hll:=hg.len;go_simp
    exact ⟨⟨by rw [show Tryd.t5.bytes=1 from rfl];omega,by omega⟩,by kernel_rfl,l ++ b,a2,.str (m:=3) rfl (by omega) hg,ha2,by rw [List.length_append],rfl⟩
   ·go_bits
    refine cl [] [1000] (next_c 1000 ver L a1 (b.length + 1) hL ha1 (by omega) (by omega)) (by go_simp) ?_;rintro r rows ⟨i,a2,hi,ha2,rfl,rfl⟩;go_simp
    refine lp (α:=Nat) (fun i=>i≤b.length) (fun i=>⟨[(0,.ptr 1000 ver 0),(3,.ptr 3 nx 0),(4,.v (.slice none 0 0)),(7,iv i)],[(1000,DK ver L a2),(3,⟨nx,31,4,[iv 3,uv n,bsl b,isl ks]⟩)],nx + 1,[],218⟩) (fun i=>i) [] [] i ?_ ?_
    ·go_simp
     omega
    ·intro i hi
     replace hi:i≤b.length:=hi
     refine sqA ?_;refine ct (α:=Bool) (CutP 3 i b) (fun c=>⟨[(0,.ptr 1000 ver 0),(3,.ptr 3 nx 0),(4,.v (.slice none 0 0)),(7,iv i),(74,bov c)],[(1000,DK ver L a2),(3,⟨nx,31,4,[iv 3,uv n,bsl b,isl ks]⟩)],nx + 1,[],218⟩) [] (gw ?_) ?_
     ·go_simp
      refine gdd (fun h1=>?_) (fun h1=>?_) <;> go_simp
      ·refine gdd (fun h2=>?_) (fun h2=>?_) <;> go_simp
       ·rw [and192]
        by_cases hcc:b[i].toNat &&& 192=128
        ·exact .inr ⟨⟨fun _=>by omega,by simp⟩,by omega⟩
        ·exact .inl ⟨⟨by simp,fun _ _ _ _=>hcc⟩,by omega⟩
       ·exact ⟨by simp,fun _ _ _ h3=>absurd h3 (by omega)⟩
      ·exact ⟨by simp,fun _ _ h3 _=>absurd h3 (by omega)⟩
     ·intro c hc
      replace hc:CutP 3 i b c:=hc
      refine gw ?_;go_simp
      refine ifk (fun h=>?_) (fun h=>?_)
      ·subst h
       have h0:0 < i:=hc.1 rfl;refine gw ?_;go_simp;go_bits;exact ⟨i - 1,by omega,by omega,by omega⟩
      ·subst h
       have HC:=dh (hc.2 rfl);clear hc;go_simp
       refine rgp [0,1,2,3,4,5,6,7,8,9,10,11,12,13] hmx (by kernel_rfl) ?_;go_simp;go_bits
       refine cl [] [1000] (lhead_c 1000 ver L a2 3 i hL ha2 (by omega) (by omega)) (by go_simp <;> kernel_rfl) ?_
       rintro r rows ⟨l,a3,hg,ha3,rfl,rfl⟩;have hll:=hg.len;go_simp
       refine ⟨⟨by rw [show Tryd.t5.bytes=1 from rfl];omega,by omega⟩,by kernel_rfl,?_⟩;refine rgp [0,1,2,3,4,5,6,7,8,9,10,11,12,13,14,15,16,17] hmx (by kernel_rfl) ?_;go_simp;go_bits
       refine ⟨⟨by omega,by rw [show Tryd.t5.bytes=1 from rfl];omega,by omega⟩,?_⟩;rw [show (b.length:Int) - i=((b.length - i:Nat):Int) by omega];refine cl [] [1000] (lhead_c 1000 ver L a3 3 (b.length - i) hL ha3 (by omega) (by omega)) (by go_simp <;> kernel_rfl) ?_
       rintro r rows ⟨l2,a4,hg2,ha4,rfl,rfl⟩;have hll2:=hg2.len;go_simp
       exact ⟨⟨by omega,by rw [show Tryd.t5.bytes=1 from rfl];omega,by omega⟩,by kernel_rfl,⟨by omega,by rw [show Tryd.t5.bytes=1 from rfl];omega,by omega⟩,⟨by omega,by rw [show Tryd.t5.bytes=1 from rfl];omega,by omega⟩,cut_end (m:=3) (by omega) hi HC.out hg hg2 ha4 (by omega)⟩
 ·have hraw:=raw_c (X:=X) 1 (.mk 7 n b []) (by simp [It.nodes,It.nodesL]) ⟨hn,trivial⟩ (by
   have:=It.enc_le 7 n b [];rw [It.gsz_eq] at hS;have hS:30 + b.length + 0≤1000000:=hS;simp [It.encs] at this;omega)
  refine sqc ?_;go_simp;refine cl [] [] hraw (by go_simp) ?_;rintro r rows ⟨rfl,rfl⟩;go_simp
  exact ⟨_,a1,.enc (.inl rfl) rfl,ha1,rfl,rfl⟩
 ·have hraw:=raw_c (X:=X) 1 (.mk 8 n b []) (by simp [It.nodes,It.nodesL]) ⟨hn,trivial⟩ (by
   have:=It.enc_le 8 n b [];rw [It.gsz_eq] at hS;have hS:30 + b.length + 0≤1000000:=hS;simp [It.encs] at this;omega)
  refine sqc ?_;go_simp;refine cl [] [1000] (next_c 1000 ver L a1 2 hL ha1 (by omega) (by omega)) (by go_simp) ?_;rintro r rows ⟨p,a2,hp,ha2,rfl,rfl⟩;go_simp
  refine ifd (fun h=>?_) (fun h=>?_) <;> go_simp
  ·refine cl [] [] hraw (by go_simp) ?_
   rintro r rows ⟨rfl,rfl⟩;go_simp
   exact ⟨_,a2,.enc (.inr rfl) rfl,ha2,rfl,rfl⟩
  ·refine lp (α:=Nat × Nat × Nat × List UInt8) (fun x=>x.2.2.1≤8∧x.2.2.2 ++ It.be x.2.2.1 n=251 :: It.be 8 n) (fun x=>⟨[(0,.ptr 1000 ver 0),(3,.ptr 3 nx 0),(6,.own 139 x.2.1 x.2.2.2.length 1),(8,iv ((x.2.2.1:Int) - 1))],[(1000,DK ver L a2),(3,⟨nx,31,4,itc (.mk 8 n b [])⟩),(139,⟨x.2.1,5,1,bys x.2.2.2⟩)],x.1,[],218⟩) (fun x=>x.2.2.1) [] [] (nx + 1 + 1,nx + 1,8,[251]) ?_ ?_
   ·go_simp
    rfl
   ·rintro ⟨ux,vr,j,l⟩ ⟨hj,hl⟩
    have hj:j≤8:=hj;have hl:l ++ It.be j n=251 :: It.be 8 n:=hl
    dsimp only
    refine gw ?_;go_simp
    refine ifd (fun h=>?_) (fun h=>?_) <;> go_simp
    ·go_bits
     have hll:l.length≤9:=by
      have:=congrArg List.length hl;simp only [List.length_append,List.length_cons,It.be_length] at this;omega
     refine ⟨⟨by rw [show Tryd.t5.bytes=1 from rfl];omega,by omega⟩,_,_,j - 1,l ++ [UInt8.ofNat (n / 256 ^ (j - 1))],⟨by omega,?_⟩,by omega,Nat.le_refl _,⟨⟨rfl,by simp⟩,by omega⟩,rfl,?_⟩
     ·obtain ⟨i,rfl⟩:∃ i,j=i + 1:=⟨j - 1,by omega⟩
      rw [← hl];simp [It.be]
     ·rw [byS n (j - 1) (by omega),bys_app]
    ·obtain rfl:j=0:=by omega
     have hl:l ++ []=251 :: It.be 8 n:=hl;rw [List.append_nil] at hl;subst hl;exact ⟨_,a2,.flt rfl,ha2,rfl,rfl⟩
 ·refine sqc ?_;go_simp
  refine rgp [0,1,2,4,5,6,7,8,3,9,10,11] hmx (by kernel_rfl) ?_;go_simp
  refine cl [] [1000] (lhead_c 1000 ver L a1 6 n hL ha1 (by omega) hn) (by go_simp) ?_;rintro r rows ⟨l,a2,hg,ha2,rfl,rfl⟩;go_simp
  have hyg:y.gsz≤1000000:=by
   rw [It.gsz_eq] at hS;have hS:30 + b.length + (y.gsz + 0)≤1000000:=hS;omega
  refine cl [] [1000] (IH.out hd y hy hyg 1000 ver L a2 hL ha2) (by go_simp;kernel_rfl) ?_;rintro r rows ⟨m,a3,hm,ha3,rfl,rfl⟩;have hll:=hg.len;have hml:=GE_len hm;go_simp
  exact ⟨by kernel_rfl,⟨by rw [show Tryd.t5.bytes=1 from rfl];omega,by omega⟩,by kernel_rfl,l ++ m,a3,.tag rfl rfl hg hm,ha3,by rw [List.length_append],rfl⟩
 ·obtain ⟨m,rfl,hm⟩:∃ m:Nat,k=m∧(m=4∨m=5):=by
   rcases h45 with rfl | rfl
   ·exact ⟨4,rfl,.inl rfl⟩
   ·exact ⟨5,rfl,.inr rfl⟩
  have hm1:4≤m∧m≤5:=by omega
  have HM:=dh hm;have hks:It.gszs ks≤1000000:=by
   rw [It.gsz_eq] at hS;have hS:30 + b.length + It.gszs ks≤1000000:=hS;omega
  have hkl:ks.length≤1000000:=by have:=It.gszs_len ks;omega
  have H5:Hid (m=5→ks.length % 2=0):=dh fun h=>h5 (by omega)
  have y0:¬ (m:Int)=0:=by omega
  have y1:¬ (m:Int)=1:=by omega
  have y2:¬ (m:Int)=2:=by omega
  have y3:¬ (m:Int)=3:=by omega
  have y6:¬ (m:Int)=6:=by omega
  have y7:¬ (m:Int)=7:=by omega
  have y8:¬ (m:Int)=8:=by omega
  have z0:¬ m=0:=by omega
  have z1:¬ m=1:=by omega
  have z2:¬ m=2:=by omega
  have z3:¬ m=3:=by omega
  have z6:¬ m=6:=by omega
  have z7:¬ m=7:=by omega
  have z8:¬ m=8:=by omega
  clear h45 hm h5 hS;refine sqc ?_;go_simp;clear y0 y1 y2 y3 y6 y7 y8 z0 z1 z2 z3 z6 z7 z8;refine sqc ?_;go_simp;refine rgp [0,1,2,3,4] hmx (by kernel_rfl) ?_;go_simp
  refine ct (α:=Nat) (CntP m ks) (fun c=>⟨[(0,.ptr 1000 ver 0),(3,.ptr 3 nx 0),(4,.v (.slice none 0 0)),(5,bov op),(6,.v (.slice none 0 0)),(9,iv m),(10,iv c)],[(1000,DK ver L a1),(3,⟨nx,31,4,[iv m,uv n,bsl b,isl ks]⟩)],nx + 1,[],218⟩) [] (gw ?_) ?_
  ·go_simp
   refine ifd (fun h=>?_) (fun h=>?_) <;> go_simp
   ·obtain rfl:m=5:=by omega
    go_simp;go_bits
    exact ⟨ks.length / 2,⟨by omega,by omega,fun _=>rfl⟩,by omega⟩
   ·obtain rfl:m=4:=by omega
    go_simp
    exact ⟨ks.length,⟨Nat.le_refl _,fun _=>rfl,by omega⟩,rfl⟩
  ·intro c hc
   replace hc:CntP m ks c:=hc
   have hc1:=hc.1;refine sqc ?_;go_simp;go_bits;refine ct (α:=Nat × Nat × List UInt8 × Nat) (fun x=>LhP m c op x.2.2.1∧x.2.2.2≤L.length) (fun x=>⟨[(0,.ptr 1000 ver 0),(3,.ptr 3 nx 0),(4,.v (.slice none 0 0)),(5,bov op),(6,.own 900 x.2.1 x.2.2.1.length 1),(9,iv m),(10,iv c)],[(1000,DK ver L x.2.2.2),(3,⟨nx,31,4,[iv m,uv n,bsl b,isl ks]⟩),(900,⟨x.2.1,5,1,bys x.2.2.1⟩)],x.1,[],218⟩) [(6,900,5,1)] (gw ?_) ?_
   ·go_simp
    refine ifk (fun h=>?_) (fun h=>?_) <;> go_simp
    ·go_bits
     refine cl [] [1000] (lhead_c 1000 ver L a1 m c hL ha1 (by omega) (by omega)) (by go_simp) ?_;rintro r rows ⟨l0,a2,hg,ha2,rfl,rfl⟩;have hop:op=false:=by simpa using h
     subst hop;go_simp
     exact ⟨_,_,l0,a2,⟨⟨by simp,fun _=>hg⟩,ha2⟩,Nat.le_refl _,⟨rfl,rfl⟩,rfl,rfl,rfl⟩
    ·have hop:op=true:=by simpa using h
     subst hop;exact ⟨_,nx + 1,[UInt8.ofNat (m * 32 + 31)],a1,⟨⟨fun _=>rfl,by simp⟩,ha1⟩,Nat.le_refl _,⟨rfl,rfl⟩,rfl,rfl,by1 _ _ (by omega) (by omega)⟩
   ·rintro ⟨u,v,l0,a2⟩ ⟨hl0,ha2⟩
    replace hl0:LhP m c op l0:=hl0
    replace ha2:a2≤L.length:=ha2
    dsimp only
    refine sqc ?_;go_simp;refine ct (α:=Nat × Nat × Nat) (fun x=>StP m c x.1 x.2.1∧x.2.2≤L.length) (fun x=>⟨[(0,.ptr 1000 ver 0),(3,.ptr 3 nx 0),(4,.v (.slice none 0 0)),(5,bov op),(6,.own 900 v l0.length 1),(9,iv m),(11,iv x.1),(12,iv x.2.1)],[(1000,DK ver L x.2.2),(3,⟨nx,31,4,[iv m,uv n,bsl b,isl ks]⟩),(900,⟨v,5,1,bys l0⟩)],u,[],218⟩) [] (gw ?_) ?_
    ·go_simp
     refine ifd (fun h=>?_) (fun h=>?_) <;> go_simp
     ·obtain rfl:m=5:=by omega
      go_bits
      refine cl [] [1000] (next_c 1000 ver L a2 (c + 1) hL ha2 (by omega) (by omega)) (by go_simp) ?_;rintro r rows ⟨g,a3,hg,ha3,rfl,rfl⟩;go_simp;go_bits
      exact ⟨2 * g,2,a3,⟨⟨by omega,fun _=>⟨rfl,g,rfl,by omega⟩⟩,ha3⟩,⟨by omega,rfl⟩,rfl⟩
     ·obtain rfl:m=4:=by omega
      exact ⟨0,1,a2,⟨⟨fun _=>⟨rfl,rfl⟩,by omega⟩,ha2⟩,⟨rfl,rfl⟩,rfl⟩
    ·rintro ⟨f,w,a3⟩ ⟨hst,ha3⟩
     replace hst:StP m c f w:=hst
     replace ha3:a3≤L.length:=ha3
     dsimp only
     have hl9:=hl0.len;have hw:1≤w∧w≤2∧f≤ks.length:=by
      rcases HM.out with rfl | rfl
      ·have:=hst.1 rfl;omega
      ·obtain ⟨h1,g,h2,h3⟩:=hst.2 rfl
       have:=hc.2.2 rfl;omega
     refine sqc ?_;go_simp;refine lp (α:=Nat × Nat × Nat × List UInt8 × Nat) (fun x=>LoP m ks f x.2.2.1 x.2.2.2.1∧x.2.2.2.2≤L.length) (fun x=>⟨[(0,.ptr 1000 ver 0),(3,.ptr 3 nx 0),(4,.v (.slice none 0 0)),(5,bov op),(6,.own 900 x.2.1 (l0.length + x.2.2.2.1.length) 1),(11,iv f),(12,iv w),(13,iv x.2.2.1)],[(1000,DK ver L x.2.2.2.2),(3,⟨nx,31,4,[iv m,uv n,bsl b,isl ks]⟩),(900,⟨x.2.1,5,1,bys (l0 ++ x.2.2.2.1)⟩)],x.1,[],218⟩) (fun x=>ks.length - x.2.2.1) [] [] (u,v,0,[],a3) ?_ ?_
     ·go_simp
      exact ⟨GEs.nil,Nat.zero_le _,fun _=>rfl⟩
     ·rintro ⟨u,v,j,acc,a⟩ ⟨hlo,ha'⟩
      replace hlo:LoP m ks f j acc:=hlo
      replace ha':a≤L.length:=ha'
      dsimp only
      have hj:=hlo.2.1;have hal:acc.length≤1000028:=by
       have h1:=GEs_len hlo.1;have h2:=It.gszs_take (ks.drop f ++ ks.take f) j;rw [It.gszs_rot] at h2;omega
      refine ct (α:=Unit) (fun _=>j < ks.length) (fun _=>⟨[(0,.ptr 1000 ver 0),(3,.ptr 3 nx 0),(4,.v (.slice none 0 0)),(5,bov op),(6,.own 900 v (l0.length + acc.length) 1),(11,iv f),(12,iv w),(13,iv j)],[(1000,DK ver L a),(3,⟨nx,31,4,[iv m,uv n,bsl b,isl ks]⟩),(900,⟨v,5,1,bys (l0 ++ acc)⟩)],u,[],218⟩) [] (gw ?_) ?_
      ·go_simp
       refine ifd (fun h=>?_) (fun h=>?_) <;> go_simp
       obtain rfl:j=ks.length:=by omega
       have HG:=dh (lst_end (n:=n) (b:=b) HM.out hc hst hl0 hlo);refine sqc ?_;go_simp;refine ifk (fun h=>?_) (fun h=>?_) <;> go_simp
       ·subst h
        refine ⟨⟨by rw [show Tryd.t5.bytes=1 from rfl];omega,by omega⟩,?_⟩;refine gw ?_;go_simp;exact ⟨l0 ++ acc ++ [255],a,HG.out,ha',by simp [Nat.add_assoc],by rw [show [SV.v (.int .u8 255)]=bys [255] from rfl,bys_app]⟩
       ·subst h
        refine gw ?_;go_simp;exact ⟨l0 ++ acc,a,HG.out,ha',by simp,rfl⟩
      ·rintro - hjl
       replace hjl:j < ks.length:=hjl
       refine sqA (blk ?_);refine sqc ?_;go_simp;refine ⟨fun h=>by rw [h] at hjl;simp at hjl,?_⟩;rw [show (IntKind.i64.wrap ((j:Int) + (f:Int))).tmod (ks.length:Int)=(((j + f) % ks.length:Nat):Int) by
        rw [Go.IntWalk.i64_in _ (by omega)];exact (Int.ofNat_tmod (j + f) ks.length).symm]
       have hr:=rot_at hw.2.2 hjl;have hkl2:=Nat.mod_lt (j + f) (show 0 < ks.length by omega);have hpair:w=2→(j + f) % ks.length + 1 < ks.length∧j + 1 < ks.length:=fun h2=>by
        rcases HM.out with rfl | rfl
        ·have:=hst.1 rfl;omega
        ·obtain ⟨h1,g,h2,h3⟩:=hst.2 rfl
         have h5:=H5.out rfl;have h6:=hlo.2.2 rfl;have h7:(j + f) % ks.length % 2=0:=by
          rw [Nat.mod_mod_of_dvd _ (Nat.dvd_of_mod_eq_zero h5)];omega
         omega
       have hrr:∀ i,i < w→(ks.drop f ++ ks.take f)[j + i]?=ks[(j + f) % ks.length + i]?:=by
        intro i hi;rcases (show i=0∨i=1∧w=2 by omega) with rfl | ⟨rfl,h2⟩
        ·obtain ⟨h1,h3⟩:=hr
         rw [Nat.add_zero,Nat.add_zero,h3,List.getElem?_eq_getElem h1]
        ·obtain ⟨h1,h3⟩:=hpair h2
         obtain ⟨h4,h5⟩:=rot_at hw.2.2 h3;rw [h5,List.getElem?_eq_getElem h1];congr 2
         rw [show j + 1 + f=j + f + 1 by omega,← Nat.mod_add_mod,Nat.mod_eq_of_lt h1]
       have hrs:∀ i,i < w→j + i < ks.length∧(j + f) % ks.length + i < ks.length:=fun i hi=>by
        rcases (show i=0∨i=1∧w=2 by omega) with rfl | ⟨rfl,h2⟩
        ·omega
        ·have:=hpair h2;omega
       clear hr hpair;generalize (j + f) % ks.length=k at *;refine sqc ?_;go_simp;refine blk ?_;refine lp (α:=Nat × Nat × Nat × List UInt8 × Nat) (fun x=>x.2.2.1≤w∧GEs ((ks.drop f ++ ks.take f).take (j + x.2.2.1)) x.2.2.2.1∧x.2.2.2.2≤L.length) (fun x=>⟨[(0,.ptr 1000 ver 0),(3,.ptr 3 nx 0),(4,.v (.slice none 0 0)),(5,bov op),(6,.own 900 x.2.1 (l0.length + x.2.2.2.1.length) 1),(11,iv f),(12,iv w),(13,iv j),(14,iv k),(197,iv w),(198,iv x.2.2.1)],[(1000,DK ver L x.2.2.2.2),(3,⟨nx,31,4,[iv m,uv n,bsl b,isl ks]⟩),(900,⟨x.2.1,5,1,bys (l0 ++ x.2.2.2.1)⟩)],x.1,[],218⟩) (fun x=>w - x.2.2.1) [] [] (u,v,0,acc,a) ?_ ?_
       ·go_simp
        exact hlo.1
       ·rintro ⟨u,v,i,ac,a⟩ ⟨hiw,hge,ha'⟩
        replace hiw:i≤w:=hiw
        replace hge:GEs ((ks.drop f ++ ks.take f).take (j + i)) ac:=hge
        replace ha':a≤L.length:=ha'
        dsimp only
        have hal:ac.length≤1000028:=by
         have h1:=GEs_len hge;have h2:=It.gszs_take (ks.drop f ++ ks.take f) (j + i);rw [It.gszs_rot] at h2;omega
        refine gw ?_;go_simp
        refine ifd (fun h=>?_) (fun h=>?_) <;> go_simp
        ·go_bits
         obtain ⟨hji,hki⟩:=hrs i h;rw [itL_sub (l:=ks) (i:=k + i) hki];have hwk:=It.wfs_in hki hs;have hgk:=It.gszs_in hki;have hat:=hrr i h;rw [List.getElem?_eq_getElem hki] at hat;have hat':=It.take_next hat;clear hrr hrs hat;go_simp
         refine ⟨by omega,?_⟩;refine cl [] [1000] (IH.out hd ks[k + i] hwk (by omega) 1000 ver L a hL ha') (by go_simp) ?_;rintro r rows ⟨l2,a4,hg2,ha4,rfl,rfl⟩;have hl2:=GE_len hg2;go_simp
         exact ⟨⟨by rw [show Tryd.t5.bytes=1 from rfl];omega,by omega⟩,_,_,i + 1,ac ++ l2,a4,⟨by omega,by rw [← Nat.add_assoc,hat'];exact .app hge hg2,ha4⟩,by omega,Nat.le_refl _,⟨⟨rfl,by rw [List.length_append];omega⟩,by go_bits;omega⟩,rfl,rfl,rfl⟩
        ·refine gw ?_;go_simp;go_bits
         have hwj:i=w:=by omega
         subst hwj;exact ⟨_,_,j + i,ac,a,⟨⟨hge,by have:=hrs (i - 1) (by omega);omega,fun h5=>by have:=hlo.2.2 h5;have:=(hst.2 h5).1;omega⟩,ha'⟩,by omega,Nat.le_refl _,⟨⟨rfl,rfl⟩,by omega⟩,rfl,rfl,rfl⟩
theorem general_any:∀ d,GenD X d
 | 0=>general_step 0 fun h=>absurd h (Nat.lt_irrefl _)
 | d + 1=>general_step (d + 1) fun _=>general_any d
end
theorem encode_c (x:It) (hf:x.fits) (hv:x.valid=true):AC Tryd.prog XU 18 [itS x] [] fun r rows=>r=.tup [bsl x.enc,iv 0]∧rows=[]:=by
 have hw:x.wf 8=true∧x.enc.length≤4096:=by
  unfold It.valid at hv;simp only [Bool.and_eq_true,decide_eq_true_eq] at hv;exact ⟨hv.1.1,hv.2⟩
 refine AC.bodyW false Tryd.func18 rfl Tryd.call18 Tryd.ntmps18 (by simp) fun e nx=>gw ?_
 go_simp
 refine cl [] [] (valid8_c x hf) (by go_simp) ?_;rintro r rows ⟨rfl,rfl⟩;go_simp
 refine cl [] [] (add_c x hf hw.1 (by omega)) (by go_simp) ?_;rintro r rows ⟨rfl,rfl⟩;go_simp
theorem It.wf_parts {d:Nat} {k:Int} {n:Nat} {b:List UInt8} {ks:List It} (h:It.wf d (.mk k n b ks)=true):(k=2∨k=3)∧ks=[]∨b=[]∧(ks=[]∨(k=4∨k=5∨k=6)∧It.wfs (d - 1) ks=true):=by
 unfold It.wf at h;rw [Bool.and_eq_true] at h;have h:=h.2
 split at h
 ·simp only [Bool.and_eq_true,List.isEmpty_iff] at h;exact .inr ⟨h.1,.inl h.2⟩
 split at h
 ·rename_i h2
  simp only [Bool.and_eq_true,List.isEmpty_iff] at h;exact .inl ⟨.inl h2,h.2⟩
 split at h
 ·rename_i h2
  simp only [Bool.and_eq_true,List.isEmpty_iff] at h;exact .inl ⟨.inr h2,h.1.2⟩
 split at h
 ·simp only [Bool.and_eq_true,List.isEmpty_iff] at h;exact .inr ⟨h.1.1,.inl h.1.2⟩
 split at h
 ·simp only [Bool.and_eq_true,List.isEmpty_iff] at h;exact .inr ⟨h.1.1,.inl h.1.2⟩
 split at h
 ·rename_i h4
  simp only [Bool.and_eq_true,List.isEmpty_iff] at h;exact .inr ⟨h.1.1.1.1,.inr ⟨h4,h.2⟩⟩
 ·cases h
mutual
theorem It.gsz_enc:∀ (x:It) (d:Nat),It.wf d x=true→x.gsz≤30 * x.nodes + x.enc.length
 | .mk k n b ks,d,h=>by
   have hn:(It.mk k n b ks).nodes=1 + It.nodesL ks:=rfl;have hg:(It.mk k n b ks).gsz=30 + b.length + It.gszs ks:=rfl;rw [hn,hg];rcases It.wf_parts h with ⟨hk,rfl⟩ | ⟨rfl,rfl | ⟨hk,hs⟩⟩
   ·have he:(It.mk k n b []).enc=It.head k.toNat b.length ++ b:=by unfold It.enc;rw [if_neg (by omega),if_pos hk]
    rw [he,List.length_append];simp only [It.gszs];omega
   ·simp only [It.gszs,List.length_nil];omega
   ·have:=It.gszs_encs ks (d - 1) hs
    have he:(It.encs ks).length≤(It.mk k n [] ks).enc.length:=by
     unfold It.enc;rcases hk with rfl | rfl | rfl <;> simp
    simp only [List.length_nil];omega
theorem It.gszs_encs:∀ (l:List It) (d:Nat),It.wfs d l=true→It.gszs l≤30 * It.nodesL l + (It.encs l).length
 | [],_,_=>by simp [It.gszs]
 | x :: l,d,h=>by
   unfold It.wfs at h;rw [Bool.and_eq_true] at h;have h1:=It.gsz_enc x d h.1;have h2:=It.gszs_encs l d h.2;simp only [It.gszs,It.nodesL,It.encs,List.length_append];omega
end
theorem It.valid_gsz {x:It} (h:x.valid=true):It.wf 8 x=true∧x.gsz≤12000:=by
 unfold It.valid at h;simp only [Bool.and_eq_true,decide_eq_true_eq] at h;have:=It.gsz_enc x 8 h.1.1;exact ⟨h.1.1,by omega⟩
theorem mshort_c (X:Ev) (b:List UInt8) (hb:b.length≤9223372036854775807):AC Tryd.prog X 13 [bsl b] [] fun r rows=>r=bov (decide (b.length≤600))∧rows=[]:=by
 refine AC.bodyW false Tryd.func13 rfl Tryd.call13 Tryd.ntmps13 (by simp) fun e nx=>gw ?_
 go_simp
 omega
def rws (Ls:List (List UInt8)):List SV:=Ls.map bsl
section
variable (Ls:List (List UInt8)) (n i:Nat)
@[go_sem] theorem rws_len:(rws Ls).length=Ls.length:=by simp [rws]
@[go_sem] theorem rws_cv (H):(rws Ls).map (cv H (n + 1))=rws Ls:=by simp [rws,cv]
@[go_sem] theorem rws_sub (h:i < Ls.length):sub (rws Ls) i 1=[bsl Ls[i]]:=by
 unfold sub rws;rw [Nat.mul_one,List.drop_eq_getElem_cons (by simpa using h)];simp
end
theorem hl_of {w:World} {la:Option Addr} {len c:Nat} (h:InL w la len) (hc:len≤c∧c≤9223372036854775807):∃ L:List Int,L.length=len∧∀ g:Cx,(∀ b,b < w.heap.size→g.Z b)→holds g w (.sl L.length 1 (nts L)) (.slice la len c):=by
 rcases Nat.eq_zero_or_pos len with rfl | h0
 ·exact ⟨[],rfl,fun g hg=>⟨la,c,rfl,hc,rfl,.inl rfl⟩⟩
 ·obtain ⟨bl,ol,x0,rfl,hb,_⟩:=h.2 0 h0
  have hx:∀ j,∃ x,j < len→w.cell? ⟨bl,ol + j,none⟩=some (.int .i64 x):=fun j=>by
   by_cases hj:j < len
   ·obtain ⟨b',o',x,e,_,hc⟩:=h.2 j hj
    cases e
    exact ⟨x,fun _=>hc⟩
   ·exact ⟨0,fun h=>absurd h hj⟩
  obtain ⟨f,hf⟩:=Classical.axiomOfChoice hx;refine ⟨(List.range len).map f,by simp,fun g hg=>⟨_,c,by simp,by simpa using hc,by simp [nts],.inr ⟨bl,ol,rfl,hg bl hb,?_⟩⟩⟩;unfold nts;refine atL.of (vs:=((List.range len).map f).map fun x=>.int .i64 x) ?_ fun i x hx=>?_
  ·have:=agL.ofv (g:=g.pure) (w:=w) (((List.range len).map f).map fun x=>Value.int .i64 x)
   rwa [List.map_map] at this
  ·obtain ⟨hi,rfl⟩:=List.getElem?_eq_some_iff.1 hx
   rw [List.length_map,List.length_map,List.length_range] at hi;simpa using hf i hi
theorem AC.calls {P:Program} {X:Ev} {f:FuncId} {args:List SV} {C:SV→List Row→Prop} {D:Value→Prop} (h:AC P X f args [] fun r rows=>C r rows) (hgo:∀ vals w,(callFunc f vals).run P w=.ok (.enter f vals) w) (hD:∀ (g:Cx) (w:World) (r:SV) (rows:List Row) (v:Value) (nx:Nat),C r rows→holds g w (ren 0 nx r) v→D v) {w:World} {vals:List Value} (hE:X.E w) (ha:agL ⟨fun b=>b < w.heap.size,fun _=>False,fun _=>0,fun _=>0⟩ w args vals):Calls P f vals.toArray w fun e w'=>∃ v,e=.returned v∧D v∧Below w.heap.size w w':=by
 have h1:=h.out ⟨fun b=>b < w.heap.size,fun _=>False,fun _=>0,fun _=>0⟩ w vals 0 hE (fun b hb=>hb) (fun u hu=>hu.elim) (fun u hu=>hu.elim) ha (fun r hr=>by simp at hr) (fun i j r q hi=>by simp at hi);rcases h1 with ⟨_,h1⟩ | ⟨v,w',h2,_⟩
 ·refine h1.mono fun e w' ⟨v,r,rows',g',he,hC,hh,_,_,_,_,_,_,hs,hb,ho,_⟩=>⟨v,he,hD _ _ _ _ _ _ hC hh,?_⟩
  exact ⟨ho.1,ho.2.1,ho.2.2,hs,fun k hk=>hb k hk (fun r hr=>by simp at hr)⟩
 ·rw [hgo] at h2;cases h2
end Go.Proofs.YtelefkkkccilaaaDoor
