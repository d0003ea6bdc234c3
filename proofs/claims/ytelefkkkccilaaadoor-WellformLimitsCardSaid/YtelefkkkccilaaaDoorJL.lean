/- Joined texts. -/
import Derived.Test.YtelefkkkccilaaaDoorJK
set_option linter.unusedVariables false
set_option linter.unusedSimpArgs false
namespace Go.Proofs.YtelefkkkccilaaaDoor
open Am Go.RowKit
set_option maxRecDepth 100000
theorem mod_nat (a:Int) (n:Nat) (h:0 < n):∃ j:Nat,j < n∧a % (n:Int)=j:=
 ⟨(a % n).toNat,by have:=Int.emod_lt_of_pos a (show (0:Int) < n by omega);have:=Int.emod_nonneg a (show (n:Int)≠0 by omega);omega,by rw [Int.toNat_of_nonneg (Int.emod_nonneg a (show (n:Int)≠0 by omega))]⟩
def ModC (n:Nat) (r:SV) (rows:List Row):Prop:=∃ j:Nat,j < n∧r=iv j∧rows=[]
theorem modn_c (X:Ev) (a:Int) (n:Nat) (h:0 < n) (hn:n≤100):AC Tryd.prog X 6 [iv a,iv n] [] (ModC n):=by
 refine (mod_c (X:=X) a n (by omega) (by omega)).mono ?_;rintro r rows ⟨rfl,rfl⟩;obtain ⟨j,h1,h2⟩:=mod_nat a n h;exact ⟨j,h1,by rw [h2],rfl⟩
theorem bya (l:List UInt8) (b:Nat) (h:b < 256):bys l ++ [y8 (b:Int)]=bys (l ++ [UInt8.ofNat b]):=by
 rw [by1 b _ rfl h,bys_app]
theorem bya2 (l:List UInt8) (a b:Nat) (ha:a < 256) (h:b < 256):bys l ++ [y8 (a:Int),y8 (b:Int)]=bys (l ++ [UInt8.ofNat a,UInt8.ofNat b]):=by
 have:=bya (l ++ [UInt8.ofNat a]) b h;rw [← bya l a ha] at this;simpa using this
set_option maxHeartbeats 4000000 in
theorem limits_law (n k:Int) (hk0: -9223372036854775808≤k) (hk1:k≤9223372036854775807):AC Tryd.prog XU 3 [iv n,iv k] [] fun r rows=>r=bov true∧rows=[]:=by
 refine AC.bodyW false Tryd.func3 rfl Tryd.call3 Tryd.ntmps3 (by simp) fun e nx=>?_
 go_simp
 refine sqc ?_;go_simp;refine sqc ?_;go_simp;refine cl [] [] (modn_c XU n 4 (by decide) (by decide)) (by go_simp) ?_;rintro r rows ⟨m,hm,rfl,rfl⟩;go_simp;go_bits
 refine sqc ?_;go_simp;refine sqc ?_;go_simp;refine lp (α:=Nat × Nat × Nat × Nat × List UInt8 × List UInt8) (fun x=>x.2.1≤253 + m∧x.2.2.2.2.1.length≤x.2.1 + 1∧x.2.2.2.2.2.length≤x.2.1 + 1) (fun x=>⟨[(1,iv k),(4,.v (.bool false)),(5,.own 21 x.2.2.1 x.2.2.2.2.1.length 1),(6,.own 22 x.2.2.2.1 x.2.2.2.2.2.length 1),(7,.v (.slice none 0 0)),(23,iv (253 + (m:Int))),(24,iv x.2.1)],[(21,⟨x.2.2.1,5,1,bys x.2.2.2.2.1⟩),(22,⟨x.2.2.2.1,5,1,bys x.2.2.2.2.2⟩)],x.1,[],128⟩) (fun x=>253 + m - x.2.1) [] [] (nx + 1 + 1,0,nx,nx + 1,[95],[159]) ?_ ?_
 ·go_simp
  exact ⟨rfl,rfl⟩
 rintro ⟨u,i,va,vb,la,lb⟩ ⟨hi,hla,hlb⟩
 replace hi:i≤253 + m:=hi
 replace hla:la.length≤i + 1:=hla
 replace hlb:lb.length≤i + 1:=hlb
 dsimp only
 refine gw ?_;go_simp
 refine ifd (fun h=>?_) (fun h=>?_) <;> go_simp
 ·go_bits
  rw [show Tryd.t5.bytes=1 from rfl];exact ⟨⟨by omega,by omega⟩,⟨by omega,by omega⟩,_,i + 1,_,_,la ++ [64],lb ++ [0],⟨by omega,by simp;omega,by simp;omega⟩,by omega,Nat.le_refl _,⟨⟨rfl,by simp⟩,⟨rfl,by simp⟩,by omega⟩,⟨rfl,bya la 64 (by decide)⟩,rfl,bya lb 0 (by decide)⟩
 have hla':la.length≤257:=by omega
 have hlb':lb.length≤257:=by omega
 clear hi h hla hlb hm;refine sqc ?_;go_simp;refine cl [] [] (modn_c XU k 3 (by decide) (by decide)) (by go_simp) ?_;rintro r rows ⟨p,hp,rfl,rfl⟩;go_simp;go_bits
 refine lp (α:=Nat × Nat × Nat × List UInt8) (fun x=>x.2.1≤7 + p∧x.2.2.2.length≤2 * x.2.1) (fun x=>⟨[(1,iv k),(4,.v (.bool false)),(5,.own 21 va la.length 1),(6,.own 22 vb lb.length 1),(7,.own 900 x.2.2.1 x.2.2.2.length 1),(35,iv (7 + (p:Int))),(36,iv x.2.1)],[(21,⟨va,5,1,bys la⟩),(22,⟨vb,5,1,bys lb⟩),(900,⟨x.2.2.1,5,1,bys x.2.2.2⟩)],x.1,[],128⟩) (fun x=>7 + p - x.2.1) [(7,900,5,1)] [] (u + 1,0,u,[]) ?_ ?_
 ·dsimp only
  go_simp
  skip
 rintro ⟨u2,i,v,l⟩ ⟨hi,hl⟩
 replace hi:i≤7 + p:=hi
 replace hl:l.length≤2 * i:=hl
 dsimp only
 refine gw ?_;go_simp
 refine ifd (fun h=>?_) (fun h=>?_) <;> go_simp
 ·go_bits
  refine cl (C:=ModC 3) [] [] (by simp [arg,cv,frzH,go_sem];exact modn_c XU _ 3 (by decide) (by decide)) (by go_simp) ?_;rintro r rows ⟨j,hj,rfl,rfl⟩;obtain rfl | rfl | rfl:j=0∨j=1∨j=2:=by omega
  all_goals go_simp;go_bits
  all_goals
   rw [show Tryd.t5.bytes=1 from rfl];refine ⟨⟨by omega,by omega⟩,?_⟩;refine cl (C:=ModC 3) [] [] (by simp [arg,cv,frzH,go_sem];exact modn_c XU _ 3 (by decide) (by decide)) (by go_simp) ?_;rintro r rows ⟨j,hj,rfl,rfl⟩;go_simp
   refine ifd (fun h=>?_) (fun h=>?_) <;> go_simp
   all_goals go_bits
   all_goals (try rw [show Tryd.t5.bytes=1 from rfl])
  ·exact ⟨⟨by omega,by omega⟩,_,i + 1,_,l ++ [159,7],⟨by omega,by simp;omega⟩,by omega,Nat.le_refl _,⟨⟨rfl,by simp⟩,by omega⟩,rfl,bya2 l 159 7 (by decide) (by decide)⟩
  ·exact ⟨_,i + 1,_,l ++ [159],⟨by omega,by simp;omega⟩,by omega,Nat.le_refl _,⟨⟨rfl,by simp⟩,by omega⟩,rfl,bya l 159 (by decide)⟩
  ·exact ⟨⟨by omega,by omega⟩,_,i + 1,_,l ++ [129,7],⟨by omega,by simp;omega⟩,by omega,Nat.le_refl _,⟨⟨rfl,by simp⟩,by omega⟩,rfl,bya2 l 129 7 (by decide) (by decide)⟩
  ·exact ⟨_,i + 1,_,l ++ [129],⟨by omega,by simp;omega⟩,by omega,Nat.le_refl _,⟨⟨rfl,by simp⟩,by omega⟩,rfl,bya l 129 (by decide)⟩
  ·exact ⟨⟨by omega,by omega⟩,_,i + 1,_,l ++ [216,7],⟨by omega,by simp;omega⟩,by omega,Nat.le_refl _,⟨⟨rfl,by simp⟩,by omega⟩,rfl,bya2 l 216 7 (by decide) (by decide)⟩
  ·exact ⟨_,i + 1,_,l ++ [216],⟨by omega,by simp;omega⟩,by omega,Nat.le_refl _,⟨⟨rfl,by simp⟩,by omega⟩,rfl,bya l 216 (by decide)⟩
 have hl':l.length≤18:=by omega
 clear hi h hl hp;refine ct (α:=Nat × Nat × List UInt8) (fun x=>x.2.2.length≤19) (fun x=>⟨[(1,iv k),(4,.v (.bool false)),(5,.own 21 va la.length 1),(6,.own 22 vb lb.length 1),(7,.own 900 x.2.1 x.2.2.length 1)],[(21,⟨va,5,1,bys la⟩),(22,⟨vb,5,1,bys lb⟩),(900,⟨x.2.1,5,1,bys x.2.2⟩)],x.1,[],128⟩) [] (gw ?_) ?_
 ·go_simp;go_bits
  refine cl (C:=ModC 3) [] [] (by simp [arg,cv,frzH,go_sem];exact modn_c XU _ 3 (by decide) (by decide)) (by go_simp) ?_;rintro r rows ⟨j,hj,rfl,rfl⟩;obtain rfl | rfl | rfl:j=0∨j=1∨j=2:=by omega
  all_goals go_simp
  all_goals rw [show Tryd.t5.bytes=1 from rfl]
  ·exact ⟨⟨by omega,by omega⟩,_,_,l ++ [95],by simp;omega,Nat.le_refl _,⟨rfl,by simp⟩,rfl,bya l 95 (by decide)⟩
  ·exact ⟨⟨by omega,by omega⟩,_,_,l ++ [128],by simp;omega,Nat.le_refl _,⟨rfl,by simp⟩,rfl,bya l 128 (by decide)⟩
  ·exact ⟨⟨by omega,by omega⟩,_,_,l ++ [0],by simp;omega,Nat.le_refl _,⟨rfl,by simp⟩,rfl,bya l 0 (by decide)⟩
 clear hl' l;rintro ⟨u3,v,l⟩ hl
 replace hl:l.length≤19:=hl
 dsimp only
 refine sqc ?_;go_simp;refine lp (α:=Nat × Nat × Nat × List UInt8) (fun x=>x.2.1≤10∧x.2.2.2.length≤19 + x.2.1) (fun x=>⟨[(1,iv k),(4,.v (.bool false)),(5,.own 21 va la.length 1),(6,.own 22 vb lb.length 1),(7,.own 900 x.2.2.1 x.2.2.2.length 1),(64,iv x.2.1)],[(21,⟨va,5,1,bys la⟩),(22,⟨vb,5,1,bys lb⟩),(900,⟨x.2.2.1,5,1,bys x.2.2.2⟩)],x.1,[],128⟩) (fun x=>10 - x.2.1) [] [] (u3,0,v,l) ?_ ?_
 ·dsimp only
  go_simp
  try exact ⟨by omega,Nat.le_refl _⟩
 rintro ⟨u4,i,v,l⟩ ⟨hi,hl⟩
 replace hi:i≤10:=hi
 replace hl:l.length≤19 + i:=hl
 dsimp only
 refine gw ?_;go_simp
 refine ifd (fun h=>?_) (fun h=>?_) <;> go_simp
 ·go_bits
  rw [show Tryd.t5.bytes=1 from rfl];exact ⟨⟨by omega,by omega⟩,_,i + 1,_,l ++ [255],⟨by omega,by simp;omega⟩,by omega,Nat.le_refl _,⟨⟨rfl,by simp⟩,by omega⟩,rfl,bya l 255 (by decide)⟩
 have hl':l.length≤29:=by omega
 clear hi h hl;refine sqc ?_;go_simp;have e1:(la.length + 1) * Tryd.t5.bytes≤140737488355328∧la.length≤140737488355327:=by rw [show Tryd.t5.bytes=1 from rfl];omega
 have e2:(lb.length + 1) * Tryd.t5.bytes≤140737488355328∧lb.length≤140737488355327:=by rw [show Tryd.t5.bytes=1 from rfl];omega
 refine ⟨e1,e2,?_⟩;refine cl (C:=ModC 2) [] [] (by simp [arg,cv,frzH,go_sem];exact modn_c XU _ 2 (by decide) (by decide)) (by go_simp) ?_;rintro r rows ⟨j,hj,rfl,rfl⟩;go_simp;go_bits
 have e3:(4096 + j) * Tryd.t5.bytes≤140737488355328:=by rw [show Tryd.t5.bytes=1 from rfl];omega
 refine ⟨⟨by omega,e3,by omega⟩,?_⟩;clear e1 e2 e3;have c1:=bya la 255 (by decide);have c2:=bya lb 255 (by decide);have c3:List.replicate (4096 + j) (SV.v (.int .u8 0))=bys (List.replicate (4096 + j) 0):=by simp [bys]
 have d1:la.length + 1=(la ++ [UInt8.ofNat 255]).length:=by simp
 have d2:lb.length + 1=(lb ++ [UInt8.ofNat 255]).length:=by simp
 have d3:4096 + j=(List.replicate (4096 + j) (0:UInt8)).length:=by simp
 have m1:(la ++ [UInt8.ofNat 255]).length≤5000:=by simp;omega
 have m2:(lb ++ [UInt8.ofNat 255]).length≤5000:=by simp;omega
 have m3:(List.replicate (4096 + j) (0:UInt8)).length≤5000:=by simp;omega
 rw [show bys la ++ [SV.v (.int .u8 255)]=bys (la ++ [UInt8.ofNat 255]) from c1,show bys lb ++ [SV.v (.int .u8 255)]=bys (lb ++ [UInt8.ofNat 255]) from c2,c3,d1,d2];clear c1 c2 c3 d1 d2;rw [show (SV.own 80 (u4 + 1 + 1 + 1 + 1) (4096 + j) 1)=SV.own 80 (u4 + 1 + 1 + 1 + 1) (List.replicate (4096 + j) (0:UInt8)).length 1 by rw [← d3]];clear d3;generalize la ++ [UInt8.ofNat 255]=b0 at *;generalize lb ++ [UInt8.ofNat 255]=b1 at *;generalize List.replicate (4096 + j) (0:UInt8)=b3 at *;refine lp (α:=Nat × Nat) (fun x=>x.2≤4) (fun x=>⟨[(4,.v (.bool false)),(81,.own 81 (u4 + 1 + 1 + 1 + 1 + 1) 4 1),(82,iv 4),(83,iv x.2)],[(21,⟨u4 + 1,5,1,bys b0⟩),(22,⟨u4 + 1 + 1 + 1,5,1,bys b1⟩),(900,⟨v,5,1,bys l⟩),(80,⟨u4 + 1 + 1 + 1 + 1,5,1,bys b3⟩),(81,⟨u4 + 1 + 1 + 1 + 1 + 1,23,1,[.own 21 (u4 + 1) b0.length 1,.own 22 (u4 + 1 + 1 + 1) b1.length 1,.own 900 v l.length 1,.own 80 (u4 + 1 + 1 + 1 + 1) b3.length 1]⟩)],x.1,[21,22,900,80],128⟩) (fun x=>4 - x.2) [] [] (u4 + 1 + 1 + 1 + 1 + 1 + 1,0) ?_ ?_
 ·dsimp only
  go_simp
  skip
 rintro ⟨u,i⟩ hi
 replace hi:i≤4:=hi
 dsimp only
 refine gw ?_;go_simp
 refine ifd (fun h=>?_) (fun h=>?_) <;> go_simp
 ·obtain rfl | rfl | rfl | rfl:i=0∨i=1∨i=2∨i=3:=by omega
  ·go_simp
   have h46:=item46_any b0 (by omega);have h47:=ritm47_c b0 (by omega);have HX:=Lib.hid (fun x (h:cnP b0=.ok x)=>cnP_ok h);generalize cnP b0=R at *;refine cl (C:=fun r rows=>r=.tup [iv (scanP (readP b0)).1,iv (scanP (readP b0)).2]∧rows=[]) [21] [] (by simp [arg,cv,frzH,go_sem];exact scanz_c b0 (by omega)) (by go_simp) ?_;rintro r rows ⟨rfl,rfl⟩;go_simp
   refine cl (C:=fun r rows=>r=.tup [iv (scanP (readP b0)).1,iv (scanP (readP b0)).2]∧rows=[]) [21] [] (by simp [arg,cv,frzH,go_sem];exact rscan_c b0 (by omega)) (by go_simp) ?_;rintro r rows ⟨rfl,rfl⟩;generalize scanP (readP b0)=q at *;go_simp
   cases R with
   | error e'=>
     clear HX;refine cl (C:=IcN isI (.error e')) [21] [] (by simp [arg,cv,frzH,go_sem];exact h46) (by go_simp) ?_;rintro r rows ⟨rfl,rfl⟩;go_simp
     refine cl (C:=IcN isI (.error e')) [21] [] (by simp [arg,cv,frzH,go_sem];exact h47) (by go_simp) ?_;rintro r rows ⟨rfl,rfl⟩;go_simp
     refine cl [] [] (same_z XU) (by go_simp) ?_;rintro r rows ⟨rfl,rfl⟩;go_simp;(try go_bits)
     exact ⟨_,1,by omega,by omega,Nat.le_refl _,by omega⟩
   | ok x=>
     have hxv:=HX.out x rfl;clear HX;refine cl (C:=IcN isI (.ok x)) [21] [] (by simp [arg,cv,frzH,go_sem];exact h46) (by go_simp) ?_;rintro r rows ⟨a,rfl,rfl,rfl⟩;have hsm:=same_i XU x hxv;obtain ⟨xk,xn,xb,xs⟩:=x;go_simp
     generalize (fl0 (bsl xb) && fl0 (isl xs))=fb at *;refine ⟨by cases fb <;> simp,?_⟩
     refine cl (C:=IcN isI (.ok (.mk xk xn xb xs))) [21] [] (by simp [arg,cv,frzH,go_sem];exact h47) (by go_simp) ?_;rintro r rows ⟨a,rfl,rfl,rfl⟩;go_simp
     generalize (fl0 (bsl xb) && fl0 (isl xs))=fc at *;refine ⟨by cases fb <;> cases fc <;> simp,?_⟩
     refine cl [] [] hsm (by go_simp) ?_;rintro r rows ⟨rfl,rfl⟩;go_simp;(try go_bits)
     exact ⟨_,1,by omega,by omega,Nat.le_refl _,by omega,by cases fb <;> cases fc <;> simp⟩
  ·refine ⟨by decide,?_⟩;go_simp
   have h46:=item46_any b1 (by omega);have h47:=ritm47_c b1 (by omega);have HX:=Lib.hid (fun x (h:cnP b1=.ok x)=>cnP_ok h);generalize cnP b1=R at *;refine cl (C:=fun r rows=>r=.tup [iv (scanP (readP b1)).1,iv (scanP (readP b1)).2]∧rows=[]) [22] [] (by simp [arg,cv,frzH,go_sem];exact scanz_c b1 (by omega)) (by go_simp) ?_;rintro r rows ⟨rfl,rfl⟩;go_simp
   refine cl (C:=fun r rows=>r=.tup [iv (scanP (readP b1)).1,iv (scanP (readP b1)).2]∧rows=[]) [22] [] (by simp [arg,cv,frzH,go_sem];exact rscan_c b1 (by omega)) (by go_simp) ?_;rintro r rows ⟨rfl,rfl⟩;generalize scanP (readP b1)=q at *;go_simp
   cases R with
   | error e'=>
     clear HX;refine cl (C:=IcN isI (.error e')) [22] [] (by simp [arg,cv,frzH,go_sem];exact h46) (by go_simp) ?_;rintro r rows ⟨rfl,rfl⟩;go_simp
     refine cl (C:=IcN isI (.error e')) [22] [] (by simp [arg,cv,frzH,go_sem];exact h47) (by go_simp) ?_;rintro r rows ⟨rfl,rfl⟩;go_simp
     refine cl [] [] (same_z XU) (by go_simp) ?_;rintro r rows ⟨rfl,rfl⟩;go_simp;(try go_bits)
     exact ⟨_,2,by omega,by omega,Nat.le_refl _,by omega⟩
   | ok x=>
     have hxv:=HX.out x rfl;clear HX;refine cl (C:=IcN isI (.ok x)) [22] [] (by simp [arg,cv,frzH,go_sem];exact h46) (by go_simp) ?_;rintro r rows ⟨a,rfl,rfl,rfl⟩;have hsm:=same_i XU x hxv;obtain ⟨xk,xn,xb,xs⟩:=x;go_simp
     generalize (fl0 (bsl xb) && fl0 (isl xs))=fb at *;refine ⟨by cases fb <;> simp,?_⟩
     refine cl (C:=IcN isI (.ok (.mk xk xn xb xs))) [22] [] (by simp [arg,cv,frzH,go_sem];exact h47) (by go_simp) ?_;rintro r rows ⟨a,rfl,rfl,rfl⟩;go_simp
     generalize (fl0 (bsl xb) && fl0 (isl xs))=fc at *;refine ⟨by cases fb <;> cases fc <;> simp,?_⟩
     refine cl [] [] hsm (by go_simp) ?_;rintro r rows ⟨rfl,rfl⟩;go_simp;(try go_bits)
     exact ⟨_,2,by omega,by omega,Nat.le_refl _,by omega,by cases fb <;> cases fc <;> simp⟩
  ·refine ⟨by decide,?_⟩;go_simp
   have h46:=item46_any l (by omega);have h47:=ritm47_c l (by omega);have HX:=Lib.hid (fun x (h:cnP l=.ok x)=>cnP_ok h);generalize cnP l=R at *;refine cl (C:=fun r rows=>r=.tup [iv (scanP (readP l)).1,iv (scanP (readP l)).2]∧rows=[]) [900] [] (by simp [arg,cv,frzH,go_sem];exact scanz_c l (by omega)) (by go_simp) ?_;rintro r rows ⟨rfl,rfl⟩;go_simp
   refine cl (C:=fun r rows=>r=.tup [iv (scanP (readP l)).1,iv (scanP (readP l)).2]∧rows=[]) [900] [] (by simp [arg,cv,frzH,go_sem];exact rscan_c l (by omega)) (by go_simp) ?_;rintro r rows ⟨rfl,rfl⟩;generalize scanP (readP l)=q at *;go_simp
   cases R with
   | error e'=>
     clear HX;refine cl (C:=IcN isI (.error e')) [900] [] (by simp [arg,cv,frzH,go_sem];exact h46) (by go_simp) ?_;rintro r rows ⟨rfl,rfl⟩;go_simp
     refine cl (C:=IcN isI (.error e')) [900] [] (by simp [arg,cv,frzH,go_sem];exact h47) (by go_simp) ?_;rintro r rows ⟨rfl,rfl⟩;go_simp
     refine cl [] [] (same_z XU) (by go_simp) ?_;rintro r rows ⟨rfl,rfl⟩;go_simp;(try go_bits)
     exact ⟨_,3,by omega,by omega,Nat.le_refl _,by omega⟩
   | ok x=>
     have hxv:=HX.out x rfl;clear HX;refine cl (C:=IcN isI (.ok x)) [900] [] (by simp [arg,cv,frzH,go_sem];exact h46) (by go_simp) ?_;rintro r rows ⟨a,rfl,rfl,rfl⟩;have hsm:=same_i XU x hxv;obtain ⟨xk,xn,xb,xs⟩:=x;go_simp
     generalize (fl0 (bsl xb) && fl0 (isl xs))=fb at *;refine ⟨by cases fb <;> simp,?_⟩
     refine cl (C:=IcN isI (.ok (.mk xk xn xb xs))) [900] [] (by simp [arg,cv,frzH,go_sem];exact h47) (by go_simp) ?_;rintro r rows ⟨a,rfl,rfl,rfl⟩;go_simp
     generalize (fl0 (bsl xb) && fl0 (isl xs))=fc at *;refine ⟨by cases fb <;> cases fc <;> simp,?_⟩
     refine cl [] [] hsm (by go_simp) ?_;rintro r rows ⟨rfl,rfl⟩;go_simp;(try go_bits)
     exact ⟨_,3,by omega,by omega,Nat.le_refl _,by omega,by cases fb <;> cases fc <;> simp⟩
  ·refine ⟨by decide,?_⟩;go_simp
   have h46:=item46_any b3 (by omega);have h47:=ritm47_c b3 (by omega);have HX:=Lib.hid (fun x (h:cnP b3=.ok x)=>cnP_ok h);generalize cnP b3=R at *;refine cl (C:=fun r rows=>r=.tup [iv (scanP (readP b3)).1,iv (scanP (readP b3)).2]∧rows=[]) [80] [] (by simp [arg,cv,frzH,go_sem];exact scanz_c b3 (by omega)) (by go_simp) ?_;rintro r rows ⟨rfl,rfl⟩;go_simp
   refine cl (C:=fun r rows=>r=.tup [iv (scanP (readP b3)).1,iv (scanP (readP b3)).2]∧rows=[]) [80] [] (by simp [arg,cv,frzH,go_sem];exact rscan_c b3 (by omega)) (by go_simp) ?_;rintro r rows ⟨rfl,rfl⟩;generalize scanP (readP b3)=q at *;go_simp
   cases R with
   | error e'=>
     clear HX;refine cl (C:=IcN isI (.error e')) [80] [] (by simp [arg,cv,frzH,go_sem];exact h46) (by go_simp) ?_;rintro r rows ⟨rfl,rfl⟩;go_simp
     refine cl (C:=IcN isI (.error e')) [80] [] (by simp [arg,cv,frzH,go_sem];exact h47) (by go_simp) ?_;rintro r rows ⟨rfl,rfl⟩;go_simp
     refine cl [] [] (same_z XU) (by go_simp) ?_;rintro r rows ⟨rfl,rfl⟩;go_simp;(try go_bits)
     exact ⟨_,4,by omega,by omega,Nat.le_refl _,by omega⟩
   | ok x=>
     have hxv:=HX.out x rfl;clear HX;refine cl (C:=IcN isI (.ok x)) [80] [] (by simp [arg,cv,frzH,go_sem];exact h46) (by go_simp) ?_;rintro r rows ⟨a,rfl,rfl,rfl⟩;have hsm:=same_i XU x hxv;obtain ⟨xk,xn,xb,xs⟩:=x;go_simp
     generalize (fl0 (bsl xb) && fl0 (isl xs))=fb at *;refine ⟨by cases fb <;> simp,?_⟩
     refine cl (C:=IcN isI (.ok (.mk xk xn xb xs))) [80] [] (by simp [arg,cv,frzH,go_sem];exact h47) (by go_simp) ?_;rintro r rows ⟨a,rfl,rfl,rfl⟩;go_simp
     generalize (fl0 (bsl xb) && fl0 (isl xs))=fc at *;refine ⟨by cases fb <;> cases fc <;> simp,?_⟩
     refine cl [] [] hsm (by go_simp) ?_;rintro r rows ⟨rfl,rfl⟩;go_simp;(try go_bits)
     exact ⟨_,4,by omega,by omega,Nat.le_refl _,by omega,by cases fb <;> cases fc <;> simp⟩
 ·refine gw ?_;go_simp
  refine cl [] [] awakez_c (by go_simp) ?_;rintro r rows ⟨rfl,rfl⟩;go_simp
theorem limits_any (n k:Int) (w:World) (hk0: -9223372036854775808≤k) (hk1:k≤9223372036854775807) (hE:Env w):
 Calls Tryd.prog 3 #[.int .i64 n,.int .i64 k] w fun e w'=>e=.returned (.bool true)∧Below w.heap.size w w':=by
 refine (AC.calls (D:=fun v=>v=.bool true) (limits_law n k hk0 hk1) Tryd.call3 ?_ hE (vals:=[.int .i64 n,.int .i64 k]) ⟨rfl,rfl,trivial⟩).mono ?_
 ·rintro g w r rows v nx ⟨rfl,rfl⟩ hv
  exact hv
 ·rintro e w' ⟨v,he,rfl,hB⟩
  exact ⟨he,hB⟩
end Go.Proofs.YtelefkkkccilaaaDoor
