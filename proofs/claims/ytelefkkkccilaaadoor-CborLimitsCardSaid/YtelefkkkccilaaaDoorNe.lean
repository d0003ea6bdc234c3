/- The law CborLimits, walked. -/
import Derived.Test.YtelefkkkccilaaaDoorNz
import Derived.Test.YtelefkkkccilaaaDoorRe
import Derived.Test.YtelefkkkccilaaaDoorNa
import Derived.Test.YtelefkkkccilaaaDoorZa
import Derived.Test.YtelefkkkccilaaaDoorLN
import Derived.Test.YtelefkkkccilaaaDoorNd
set_option linter.unusedVariables false
set_option linter.unusedSimpArgs false
namespace Go.Proofs.YtelefkkkccilaaaDoor
open Go.RowKit
set_option maxRecDepth 100000
theorem It.same_self (x:It):It.same x x=true:=It.same_iff.2 rfl
theorem u8_of {N:Int} (h0:0≤N) (h1:N < 256):∃ x:UInt8,(x.toNat:Int)=N:=⟨UInt8.ofNat N.toNat,by rw [UInt8.toNat_ofNat_of_lt' (by show N.toNat < 256;omega)];omega⟩
theorem br_own {w:World} {base n c:Nat} {a:Option Addr} {l:List UInt8} (h:OwnB w base (.slice a n c) l) (hn:n=l.length):BR (fun q=>base≤q) w a n l:=by
 obtain ⟨a',c',e,h1,_⟩:=h.br;cases e
 exact h1
theorem br_tail {w:World} {ok:Nat→Prop} {n g:Nat} {x:UInt8} {l:List UInt8} (h:BR ok w (some ⟨g,0,none⟩) (n + 1) (x :: l)):BR ok w (some ⟨g,1,none⟩) n l:=by
 obtain ⟨h1,h2,h3⟩:=h;refine ⟨by simpa using h1,by omega,fun i hi=>?_⟩;obtain ⟨b,o,e,hb,hc⟩:=h3 (i + 1) (by simp;omega);cases e
 refine ⟨_,_,rfl,hb,?_⟩;rw [show 1 + i=0 + (i + 1) by omega];simpa using hc
theorem push_one {W:World} {base:Nat} {v:Value} {l:List UInt8} (hO:OwnB W base v l) (x:UInt8) (C:Int) (hC:(x.toNat:Int)=C) (hb:base≤W.heap.size) (hl:l.length≤100000):
 ∃ a c W',(Builtin.append_ #[23,23] 23 #[v,.slice (some ⟨W.heap.size,0,none⟩) 1 1]).run Tryd.prog (W.alloc (.cells #[.int .u8 C] 5))=.ok (.slice a (l.length + 1) c) W'∧OwnB W' base (.slice a (l.length + 1) c) (l ++ [x])∧Below base W W':=by
 subst hC;have P:=al W (.cells #[.int .u8 (x.toNat:Int)] 5);have O1:OwnB (W.alloc (.cells #[.int .u8 (x.toNat:Int)] 5)) W.heap.size (.slice (some ⟨W.heap.size,0,none⟩) 1 1) [x]:=own_lits [x] W.heap.size (by simp) (aw _ _) _ (Nat.le_refl _);have hs:=P.size;obtain ⟨a,c,W',h1,h2,h3,_⟩:=app_bytes (W.alloc (.cells #[.int .u8 (x.toNat:Int)] 5)) base v l (hO.pure P) (some ⟨W.heap.size,0,none⟩) 1 1 [x] _ (br_own O1 rfl) (by omega) (by omega);exact ⟨a,c,W',h1,h2,bg (P.mono hb) (by omega) (hO.pure P) h3⟩
def NR (base:Nat) (w:World) (T:Nat) (v i:Value) (W:World):Prop:=∃ (j:Nat) (l:List UInt8),i=.int .i64 (j:Int)∧j≤T∧l.length=j∧OwnB W base v l∧Below base w W
structure Sl where
 l:List UInt8
 a:Option Addr
 n:Nat
 c:Nat
def Sl.ok (s:Sl) (W:World):Prop:=BR (fun _=>True) W s.a s.n s.l∧s.n≤s.c∧s.c≤9223372036854775807∧s.n≤5000
theorem Sl.ok.below {s:Sl} {W W':World} (h:s.ok W) (k:Below W.heap.size W W'):s.ok W':=⟨h.1.below k,h.2⟩
def FR (w:World) (s len i:Value) (W:World):Prop:=∃ (b:Nat) (s0 s1 s2 s3 s4:Sl),s=.slice (some ⟨b,0,none⟩) 5 5∧len=.int .i64 5∧i=.int .i64 0∧W.heap[b]?=some (.cells #[.slice s0.a s0.n s0.c,.slice s1.a s1.n s1.c,.slice s2.a s2.n s2.c,.slice s3.a s3.n s3.c,.slice s4.a s4.n s4.c] 23 (0,0))∧s0.ok W∧s1.ok W∧s2.ok W∧s3.ok W∧s4.ok W∧Below w.heap.size w W
set_option maxHeartbeats 16000000 in
theorem limits_any (n k:Int) (w:World) (hn0: -9223372036854775808≤n) (hn1:n≤9223372036854775807) (hk0: -9223372036854775808≤k) (hk1:k≤9223372036854775807) (hE:Env w):
 Calls Tryd.prog 5 #[.int .i64 n,.int .i64 k] w fun e w'=>e=.returned (.bool true)∧Below w.heap.size w w':=by
 obtain ⟨r,hr⟩:∃ r:Int,n % 3=r:=⟨_,rfl⟩;have hr0:0≤r:=by rw [← hr];exact Int.emod_nonneg _ (by decide)
 have hr3:r < 3:=by rw [← hr];exact Int.emod_lt_of_pos _ (by decide)
 have HC1:=dh (mod_any n 3 w (by omega) (by omega));rw [hr] at HC1;obtain ⟨N,hN⟩:∃ N:Int,N=254 + r:=⟨_,rfl⟩;have hw1:IntKind.i64.wrap (254 + r)=N:=by rw [hN];exact IntWalk.i64_in _ (by omega)
 have HN:Hid (254≤N∧N≤256):=dh (by omega);have HE:=dh hE;clear hr hr0 hr3 hN hE;obtain ⟨xA,hxA⟩:=u8_of (N:=N / 256 % 256) (by omega) (by omega);obtain ⟨xB,hxB⟩:=u8_of (N:=N % 256) (by omega) (by omega);obtain ⟨xK,hxK⟩:=u8_of (N:=k % 256) (by omega) (by omega);have f1:N / 256 % 256=(xA.toNat:Int):=hxA.symm;have f2:N % 256=(xB.toNat:Int):=hxB.symm;have f3:k % 256=(xK.toNat:Int):=hxK.symm;clear hxA hxB hxK;have P0:=al w (.cells #[.int .u8 153,.int .u8 (xA.toNat:Int),.int .u8 (xB.toNat:Int)] 5);have O0:OwnB (w.alloc (.cells #[.int .u8 153,.int .u8 (xA.toNat:Int),.int .u8 (xB.toNat:Int)] 5)) w.heap.size (.slice (some ⟨w.heap.size,0,none⟩) 3 3) [153,xA,xB]:=own_lits [153,xA,xB] w.heap.size (by simp) (aw _ _) _ (Nat.le_refl _);obtain ⟨a1,c1,W1,hrun1,hO1,hg1,_⟩:=app_bytes (w.alloc (.cells #[.int .u8 153,.int .u8 (xA.toNat:Int),.int .u8 (xB.toNat:Int)] 5)) w.heap.size (.slice none 0 0) [] (OwnB.nil _ _) (some ⟨w.heap.size,0,none⟩) 3 3 [153,xA,xB] _ (br_own O0 rfl) (by simp) P0.size;rw [List.nil_append] at hO1;rw [List.length_nil,Nat.zero_add] at hrun1 hO1;have hB1:=bg P0 P0.size (OwnB.nil _ _) hg1;obtain ⟨nz,hnz⟩:∃ nz:Nat,N=nz:=⟨N.toNat,by have:=HN.out;omega⟩;obtain ⟨a2,c2,W2,hrun2,hO2,hg2⟩:=app_zeros W1 w.heap.size (.slice a1 3 c1) [153,xA,xB] hO1 nz N hnz (by have:=HN.out;simp;omega) (fun e=>by cases e) hB1.size;have HB2:=dh (bg hB1 hB1.size hO1 hg2);have HO2:=dh hO2;have HR1:=dh hrun1;have HR2:=dh hrun2;have HNZ:=dh hnz;clear P0 O0 hrun1 hO1 hg1 hB1 hrun2 hO2 hg2 hnz;obtain ⟨r2,hr2⟩:∃ r2:Int,k % 3=r2:=⟨_,rfl⟩;have hr20:0≤r2:=by rw [← hr2];exact Int.emod_nonneg _ (by decide)
 have hr23:r2 < 3:=by rw [← hr2];exact Int.emod_lt_of_pos _ (by decide)
 have HC2:=dh (mod_any k 3 W2 (by omega) (by omega));rw [hr2] at HC2;obtain ⟨T,hT⟩:∃ T:Nat,7 + r2=(T:Int):=⟨(7 + r2).toNat,by omega⟩;have hw2:IntKind.i64.wrap (7 + r2)=(T:Int):=by rw [hT];exact IntWalk.i64_in _ (by omega)
 have HT:Hid (7≤T∧T≤9):=dh (by omega);clear hr2 hr20 hr23 hT;go_enter Tryd.func5,Tryd.ntmps5
 go_wp2_with fail
 refine HC1.out.mono ?_;rintro e w1 ⟨rfl,rfl⟩;clear HC1;go_wp2_with (at_builtin;first | (refine wj rfl _ _ 23 rfl rfl rfl HR1.out ?_;clear HR1) | (refine wpList_appz rfl _ _ 23 3 rfl rfl rfl HR2.out ?_;clear HR2))
 refine HC2.out.mono ?_;rintro e w2 ⟨rfl,rfl⟩;clear HC2 hw1 f1 f2;go_upto_region 6 with fail
 go_loopw [6,33] (NR W2.heap.size W2 T) (fun _ i _=>T - (intOf i).toNat)
 case atStart=>exact ⟨0,[],rfl,by omega,rfl,OwnB.nil _ _,Below.refl _ _⟩
 case round=>
  obtain ⟨u,hu⟩:∃ u,u=wr:=⟨_,rfl⟩;subst hu;obtain ⟨j,l,rfl,hj,hlj,hO,hB⟩:=hrel;have hTl:=HT.out;by_cases hjT:j < T
  ·have hz:(j:Int) < (T:Int):=by omega
   have hzb:decide ((j:Int) < (T:Int))=true:=decide_eq_true hz;obtain ⟨r3,hr3⟩:∃ r3:Int,Int.tdiv k 3 % 2=r3:=⟨_,rfl⟩;have h30:0≤r3:=by rw [← hr3];exact Int.emod_nonneg _ (by decide)
   have h32:r3 < 2:=by rw [← hr3];exact Int.emod_lt_of_pos _ (by decide)
   have P3:=al u (.cells #[.int .u8 129,.int .u8 193] 5);have N3:=aw u (.cells #[.int .u8 129,.int .u8 193] 5);have HC3:=dh (mod_any (Int.tdiv k 3) 2 (u.alloc (.cells #[.int .u8 129,.int .u8 193] 5)) (by omega) (by omega));rw [hr3] at HC3;have y0:=cr N3 0;have y1:=cr N3 1;simp at y0 y1;have hsu:=hB.size;have hs3:=P3.size;obtain ⟨aL,cL,WL,hrunL,hOL,hBL⟩:=push_one (hO.pure P3) 129 129 rfl (by omega) (by omega);obtain ⟨aM,cM,WM,hrunM,hOM,hBM⟩:=push_one (hO.pure P3) 193 193 rfl (by omega) (by omega);have hszu:(u.alloc (.cells #[.int .u8 129,.int .u8 193] 5)).heap.size=u.heap.size + 1:=by simp
   rw [hszu] at hrunL hrunM;clear hszu;have HL:=dh (And.intro hrunL (And.intro hOL (hB.trans (Below.trans (P3.mono hsu) hBL))));have HM:=dh (And.intro hrunM (And.intro hOM (hB.trans (Below.trans (P3.mono hsu) hBM))));have HRL:=dh hrunL;have HRM:=dh hrunM;have HLJ:=dh hlj;clear hO hB P3 N3 hrunL hOL hBL hrunM hOM hBM hr3 hlj;go_wp2_with fail
   refine HC3.out.mono ?_;rintro e w3 ⟨rfl,rfl⟩;clear HC3;rcases (show r3=0∨r3=1 by omega) with rfl | rfl
   ·go_wp2_with (at_builtin;refine wj rfl _ _ 23 rfl rfl rfl HRL.out ?_;clear HRL)
    go_roundw
    case rel=>exact ⟨j + 1,l ++ [129],by go_num,by omega,by rw [List.length_append,HLJ.out];rfl,HL.out.2.1,HL.out.2.2⟩
    case measure=>simp [intOf];omega
   ·go_wp2_with (at_builtin;refine wj rfl _ _ 23 rfl rfl rfl HRM.out ?_;clear HRM)
    go_roundw
    case rel=>exact ⟨j + 1,l ++ [193],by go_num,by omega,by rw [List.length_append,HLJ.out];rfl,HM.out.2.1,HM.out.2.2⟩
    case measure=>simp [intOf];omega
  ·have hz:¬ (j:Int) < (T:Int):=by omega
   have HO:=dh hO;have HB:=dh hB;have HLJ:=dh hlj;clear hO hB hlj;go_upto_region 10 with fail
   go_cut [6] from 45 to 53 (fun v wx=>∃ l':List UInt8,l'.length≤100∧OwnB wx W2.heap.size v l'∧Below W2.heap.size W2 wx)
   case first=>
    obtain ⟨r4,hr4⟩:∃ r4:Int,Int.tdiv k 6 % 4=r4:=⟨_,rfl⟩;have h40:0≤r4:=by rw [← hr4];exact Int.emod_nonneg _ (by decide)
    have h44:r4 < 4:=by rw [← hr4];exact Int.emod_lt_of_pos _ (by decide)
    have P3:=al u (.cells #[.int .u8 0,.int .u8 128,.int .u8 160,.int .u8 65] 5);have N3:=aw u (.cells #[.int .u8 0,.int .u8 128,.int .u8 160,.int .u8 65] 5);have HC3:=dh (mod_any (Int.tdiv k 6) 4 (u.alloc (.cells #[.int .u8 0,.int .u8 128,.int .u8 160,.int .u8 65] 5)) (by omega) (by omega));rw [hr4] at HC3;have y0:=cr N3 0;have y1:=cr N3 1;have y2:=cr N3 2;have y3:=cr N3 3;simp at y0 y1 y2 y3;have hsu:=HB.out.size;have hs3:=P3.size;have HPU:=dh (fun (x:UInt8) (C:Int) (hC:(x.toNat:Int)=C)=>push_one (HO.out.pure P3) x C hC (by omega) (by have:=HLJ.out;omega));have hszu:(u.alloc (.cells #[.int .u8 0,.int .u8 128,.int .u8 160,.int .u8 65] 5)).heap.size=u.heap.size + 1:=by simp
    rw [hszu] at HPU;clear hszu;have HBU:=dh (Below.trans HB.out (P3.mono hsu));clear P3 N3 hr4 hsu hs3;go_wp2_with fail
    refine HC3.out.mono ?_;rintro e w3 ⟨rfl,rfl⟩;clear HC3;rcases (show r4=0∨r4=1∨r4=2∨r4=3 by omega) with rfl | rfl | rfl | rfl
    ·obtain ⟨aL,cL,WL,hrunL,hOL,hBL⟩:=HPU.out 0 0 rfl
     have HX:=dh (And.intro hOL hBL);clear hOL hBL HPU;go_wp2_with (at_builtin;refine wj rfl _ _ 23 rfl rfl rfl hrunL ?_;clear hrunL)
     go_meet
     exact ⟨_,by rw [List.length_append,HLJ.out];simp;omega,HX.out.1,HBU.out.trans HX.out.2⟩
    ·obtain ⟨aL,cL,WL,hrunL,hOL,hBL⟩:=HPU.out 128 128 rfl
     have HX:=dh (And.intro hOL hBL);clear hOL hBL HPU;go_wp2_with (at_builtin;refine wj rfl _ _ 23 rfl rfl rfl hrunL ?_;clear hrunL)
     go_meet
     exact ⟨_,by rw [List.length_append,HLJ.out];simp;omega,HX.out.1,HBU.out.trans HX.out.2⟩
    ·obtain ⟨aL,cL,WL,hrunL,hOL,hBL⟩:=HPU.out 160 160 rfl
     have HX:=dh (And.intro hOL hBL);clear hOL hBL HPU;go_wp2_with (at_builtin;refine wj rfl _ _ 23 rfl rfl rfl hrunL ?_;clear hrunL)
     go_meet
     exact ⟨_,by rw [List.length_append,HLJ.out];simp;omega,HX.out.1,HBU.out.trans HX.out.2⟩
    ·obtain ⟨aL,cL,WL,hrunL,hOL,hBL⟩:=HPU.out 65 65 rfl
     have HX:=dh (And.intro hOL hBL);clear hOL hBL HPU;go_wp2_with (at_builtin;refine wj rfl _ _ 23 rfl rfl rfl hrunL ?_;clear hrunL)
     go_meet
     exact ⟨_,by rw [List.length_append,HLJ.out];simp;omega,HX.out.1,HBU.out.trans HX.out.2⟩
   case rest=>
    obtain ⟨l',hl',hO',hB'⟩:=hcut;obtain ⟨a6,c6,rfl,hR6,hc6,hcm6⟩:=hO'.br;generalize hn6:l'.length=n6 at *;have HR6:=dh hR6;have HC6:=dh (And.intro hc6 (And.intro hcm6 hl'));have HBc:=dh hB';clear hO' hB' hR6 hc6 hcm6 hl' hn6;obtain ⟨a',c',e,hR2,hc2,hcm2⟩:=HO2.out.br;simp only [Value.slice.injEq] at e;obtain ⟨e1,e2,e3⟩:=e;subst e1;subst e3;have hlen:([153,xA,xB] ++ List.replicate nz 0:List UInt8).length=3 + nz:=by simp;omega
    rw [hlen] at hR2 hc2;have HMB:Hid (BR (fun _=>True) W2 a2 (3 + nz) ([153,xA,xB] ++ List.replicate nz 0)∧3 + nz≤c2∧c2≤9223372036854775807):=dh ⟨hR2.imp fun _ _ _=>trivial,hc2,hcm2⟩;clear hR2 hc2 hcm2 e2 hlen;have PG:=al wc (.cells #[.int .u8 155,.int .u8 255,.int .u8 255,.int .u8 255,.int .u8 255,.int .u8 255,.int .u8 255,.int .u8 255,.int .u8 (xK.toNat:Int)] 5);have OG:OwnB (wc.alloc (.cells #[.int .u8 155,.int .u8 255,.int .u8 255,.int .u8 255,.int .u8 255,.int .u8 255,.int .u8 255,.int .u8 255,.int .u8 (xK.toNat:Int)] 5)) wc.heap.size (.slice (some ⟨wc.heap.size,0,none⟩) 9 9) [155,255,255,255,255,255,255,255,xK]:=own_lits [155,255,255,255,255,255,255,255,xK] wc.heap.size (by simp) (aw _ _) _ (Nat.le_refl _);have hRG:=br_own OG rfl;have hRH:=br_tail hRG;have HRG:=dh hRG;have HRH:=dh hRH;have HBD:=dh (HB2.out.trans ((HBc.out.trans (PG.mono HBc.out.size)).mono HB2.out.size));have HMB2:=dh ((HMB.out.1.below HBc.out).below PG);have HNB2:=dh (HR6.out.below PG);have HGS:Hid (wc.heap.size < (wc.alloc (.cells #[.int .u8 155,.int .u8 255,.int .u8 255,.int .u8 255,.int .u8 255,.int .u8 255,.int .u8 255,.int .u8 255,.int .u8 (xK.toNat:Int)] 5)).heap.size):=dh (by simp);clear PG OG hRG hRH HR6 HBc;go_upto_region 12 with fail
    generalize wc.alloc (.cells #[.int .u8 155,.int .u8 255,.int .u8 255,.int .u8 255,.int .u8 255,.int .u8 255,.int .u8 255,.int .u8 255,.int .u8 (xK.toNat:Int)] 5)=wd at *;generalize hg:wc.heap.size=g at *
    try rw [f3]
    clear f3;go_cut [68,69,70] from 57 to 70 (fun s n9 i wx=>FR wd s n9 i wx)
    case first=>
     have HTL:Hid (∀ V,Below wd.heap.size wd V→BR (fun _=>True) V (some ⟨g,1,none⟩) 8 [255,255,255,255,255,255,255,xK]):=dh fun V hV=>(HRH.out.imp fun _ _ _=>trivial).below hV
     generalize hG:wd.heap.size=G at *;refine wp_region_held_drew (S:=(fun _=>True)) (by kernel_rfl) trivial (fun hHeld=>?_);refine tk 0 (v:=?_) rfl hHeld ?_ ?_;rotate_left
     ·intro W h;(try dsimp only at h);go_simp;try with_reducible rfl
     try simp only [Act.put,sx]
     refine tk 1 (v:=?_) rfl hHeld ?_ ?_;rotate_left
     ·intro W h;(try dsimp only at h);go_simp;try with_reducible rfl
     try simp only [Act.put,sx]
     refine tk 2 (v:=?_) rfl hHeld ?_ ?_;rotate_left
     ·intro W h;(try dsimp only at h);go_simp;try with_reducible rfl
     try simp only [Act.put,sx]
     refine tk 4 (v:=?_) rfl hHeld ?_ ?_;rotate_left
     ·intro W h;(try dsimp only at h);go_simp;try with_reducible rfl
     try simp only [Act.put,sx]
     refine tk 5 (v:=?_) rfl hHeld ?_ ?_;rotate_left
     ·intro W h;(try dsimp only at h);go_simp;try with_reducible rfl
     try simp only [Act.put,sx]
     refine tk 8 (v:=?_) rfl hHeld ?_ ?_;rotate_left
     ·intro W h;(try dsimp only at h);go_simp;try with_reducible rfl
     try simp only [Act.put,sx]
     refine tk 9 (v:=?_) rfl hHeld ?_ ?_;rotate_left
     ·intro W h;(try dsimp only at h);go_simp;try with_reducible rfl
     try simp only [Act.put,sx]
     refine tk 13 (v:=?_) rfl hHeld ?_ ?_;rotate_left
     ·intro W h;(try dsimp only at h);go_simp;try with_reducible rfl
     try simp only [Act.put,sx]
     refine wpAnyH_ready (rs:=[3,7]) (by kernel_rfl) (by simp) ?_;refine AllReadyH.cons rfl (fun K1 hK1=>?_) (AllReadyH.cons rfl (fun K1 hK1=>?_) AllReadyH.nil)
     ·go_simp
      have P3:Below G wd (wd.alloc (.cells #[.int .u8 187] 5)).drew:=hG ▸ (al wd (.cells #[.int .u8 187] 5)).drew;have O3:OwnB (wd.alloc (.cells #[.int .u8 187] 5)).drew G (.slice (some ⟨G,0,none⟩) 1 1) [187]:=own_lits [187] G (by simp) (hG ▸ aw wd (.cells #[.int .u8 187] 5)) _ (Nat.le_refl _);have S3:G < (wd.alloc (.cells #[.int .u8 187] 5)).drew.heap.size:=by rw [← hG];show wd.heap.size < (wd.alloc (.cells #[.int .u8 187] 5)).heap.size;simp
      try rw [hG]
      generalize (wd.alloc (.cells #[.int .u8 187] 5)).drew=V3 at *;obtain ⟨b3,hb3⟩:∃ b,b=G:=⟨_,rfl⟩;rw [← hb3] at O3 S3;have O3:OwnB V3 G (.slice (some ⟨b3,0,none⟩) 1 1) [187]:=by subst hb3;exact O3
      have HB:=dh P3;have HO3:=dh O3;have HS3:=dh (And.intro (Nat.le_of_eq hb3.symm) S3);rw [← hb3];clear P3 O3 S3 hb3;refine hK1.out _ _ trivial (fun hHeld=>?_);clear hK1
      try simp only [Act.put,sx]
      refine wpAnyH_ready (rs:=[6,7]) (by kernel_rfl) (by simp) ?_;refine AllReadyH.cons rfl (fun K1 hK1=>?_) (AllReadyH.cons rfl (fun K1 hK1=>?_) AllReadyH.nil)
      ·rw [if_pos (by rfl)]
       obtain ⟨a9,c9,V6,hrun9,hO9,hg9,hx9⟩:=app_bytes V3 G (.slice (some ⟨b3,0,none⟩) 1 1) [187] HO3.out (some ⟨g,1,none⟩) 8 8 [255,255,255,255,255,255,255,xK] (fun _=>True) (HTL.out V3 HB.out) (by simp) (by have:=HB.out.size;omega);have hl9:([187]:List UInt8).length + 8=9:=rfl;rw [hl9] at hrun9 hO9 hx9;have HB':=dh (show Below G wd V6 from bg HB.out (by have:=HB.out.size;omega) HO3.out hg9);clear HB;have HB:=HB';clear HB';have HO6:=dh hO9;refine wp_app _ _ 23 rfl rfl rfl hrun9 ?_;clear hrun9 hO9 hg9 hx9 hl9;refine hK1.out _ _ trivial (fun hHeld=>?_);clear hK1
       try simp only [Act.put,sx]
       refine wpAnyH_ready (rs:=[7]) (by kernel_rfl) (by simp) ?_;refine AllReadyH.cons rfl (fun K1 hK1=>?_) AllReadyH.nil;go_simp
       have P7:=al V6 (.cells #[.int .u8 91] 5);have O7:OwnB (V6.alloc (.cells #[.int .u8 91] 5)) G (.slice (some ⟨V6.heap.size,0,none⟩) 1 1) [91]:=own_lits [91] V6.heap.size (by simp) (aw _ _) _ (by have:=HB.out.size;omega);have S7:V6.heap.size < (V6.alloc (.cells #[.int .u8 91] 5)).heap.size:=by simp
       have HNE:Hid (∀ q,(Value.slice a9 9 c9).ownBlock=some q→q≠V6.heap.size):=dh fun q hq e=>by have:=(own_lt HO6.out hq).1;omega
       have HO6':=dh (HO6.out.pure P7);clear HO6;have HO6:=HO6';clear HO6';have HB':=dh (HB.out.trans (P7.mono (by have:=HB.out.size;omega)));have HS7:=dh (And.intro (by have:=HB.out.size;omega) S7);clear HB;have HB:=HB';clear HB';have HO7:=dh O7;clear P7 O7 S7;generalize V6.alloc (.cells #[.int .u8 91] 5)=V7 at *;generalize V6.heap.size=b7 at *;refine hK1.out _ _ trivial (fun hHeld=>?_);clear hK1
       try simp only [Act.put,sx]
       refine wpAnyH_ready (rs:=[10]) (by kernel_rfl) (by simp) ?_;refine AllReadyH.cons rfl (fun K1 hK1=>?_) AllReadyH.nil;rw [if_pos (by rfl)];obtain ⟨a8,c8,V10,hrun8,hO8,hg8,hx8⟩:=app_bytes V7 G (.slice (some ⟨b7,0,none⟩) 1 1) [91] HO7.out (some ⟨g,1,none⟩) 8 8 [255,255,255,255,255,255,255,xK] (fun _=>True) (HTL.out V7 HB.out) (by simp) (by have:=HB.out.size;omega);have hl9:([91]:List UInt8).length + 8=9:=rfl;rw [hl9] at hrun8 hO8 hx8;have HB':=dh (show Below G wd V10 from bg HB.out (by have:=HB.out.size;omega) HO7.out hg8);clear HB;have HB:=HB';clear HB';have HO6':=dh (show OwnB _ _ _ _ from own_keep HO6.out fun q hq=>hg8.block q (own_lt HO6.out hq).1 (fun e=>HNE.out q hq (by cases e;rfl)));clear HO6;have HO6:=HO6';clear HO6';have HO10:=dh hO8;refine wp_app _ _ 23 rfl rfl rfl hrun8 ?_;clear hrun8 hO8 hg8 hx8 hl9;refine hK1.out _ _ trivial (fun hHeld=>?_);clear hK1
       try simp only [Act.put,sx]
       refine wpAnyH_ready (rs:=[11]) (by kernel_rfl) (by simp) ?_;refine AllReadyH.cons rfl (fun K1 hK1=>?_) AllReadyH.nil;go_simp
       have PR:=al V10 (.cells #[.slice a2 (3 + nz) c2,.slice a6 n6 c6,.slice (some ⟨g,0,none⟩) 9 9,.slice a9 9 c9,.slice a8 9 c8] 23);have NR':=aw V10 (.cells #[.slice a2 (3 + nz) c2,.slice a6 n6 c6,.slice (some ⟨g,0,none⟩) 9 9,.slice a9 9 c9,.slice a8 9 c8] 23);have HFR:Hid (FR wd (.slice (some ⟨V10.heap.size,0,none⟩) 5 5) (.int .i64 5) (.int .i64 0) (V10.alloc (.cells #[.slice a2 (3 + nz) c2,.slice a6 n6 c6,.slice (some ⟨g,0,none⟩) 9 9,.slice a9 9 c9,.slice a8 9 c8] 23))):=dh (by
        have hBV:=HB.out;rw [← hG] at hBV;have hm:=HNZ.out;have hnn:=HN.out;obtain ⟨q6,r6,e6,hr6,hc6',hm6⟩:=HO6.out.br;obtain ⟨q8,r8,e8,hr8,hc8',hm8⟩:=HO10.out.br;simp only [Value.slice.injEq] at e6 e8;obtain ⟨e61,_,e63⟩:=e6;obtain ⟨e81,_,e83⟩:=e8;subst e61;subst e63;subst e81;subst e83;refine ⟨V10.heap.size,⟨_,a2,3 + nz,c2⟩,⟨l',a6,n6,c6⟩,⟨_,some ⟨g,0,none⟩,9,9⟩,⟨_,a9,9,c9⟩,⟨_,a8,9,c8⟩,rfl,rfl,rfl,NR',⟨(HMB2.out.below hBV).below PR,HMB.out.2.1,HMB.out.2.2,by show 3 + nz≤5000;omega⟩,⟨((HNB2.out.below hBV).below PR).imp fun _ _ _=>trivial,HC6.out.1,HC6.out.2.1,by show n6≤5000;have:=HC6.out.2.2;omega⟩,⟨((HRG.out.below hBV).below PR).imp fun _ _ _=>trivial,by show 9≤9;omega,by show 9≤_;omega,by show 9≤5000;omega⟩,⟨(hr6.below PR).imp fun _ _ _=>trivial,hc6',hm6,by show 9≤5000;omega⟩,⟨(hr8.below PR).imp fun _ _ _=>trivial,hc8',hm8,by show 9≤5000;omega⟩,hBV.trans (PR.mono hBV.size)⟩)
       clear PR NR';refine hK1.out _ _ trivial (fun hHeld=>?_);clear hK1;generalize V10.alloc (.cells #[.slice a2 (3 + nz) c2,.slice a6 n6 c6,.slice (some ⟨g,0,none⟩) 9 9,.slice a9 9 c9,.slice a8 9 c8] 23)=V11 at *;generalize V10.heap.size=br at *
       try simp only [Act.put,sx]
       refine tk 12 (v:=?_) rfl hHeld ?_ ?_;rotate_left
       ·intro W h;(try dsimp only at h);go_simp;try with_reducible rfl
       try simp only [Act.put,sx]
       refine wpAnyH_done (by kernel_rfl) ?_ _
       try simp only [Act.put,sx]
       go_wp2_with fail
       go_meet
       exact HFR.out
      ·go_simp
       have P7:=al V3 (.cells #[.int .u8 91] 5);have O7:OwnB (V3.alloc (.cells #[.int .u8 91] 5)) G (.slice (some ⟨V3.heap.size,0,none⟩) 1 1) [91]:=own_lits [91] V3.heap.size (by simp) (aw _ _) _ (by have:=HB.out.size;omega);have S7:V3.heap.size < (V3.alloc (.cells #[.int .u8 91] 5)).heap.size:=by simp
       have HO3':=dh (HO3.out.pure P7);have HNE:Hid (b3≠V3.heap.size):=dh (by have:=HS3.out;omega);clear HO3;have HO3:=HO3';clear HO3';have HB':=dh (HB.out.trans (P7.mono (by have:=HB.out.size;omega)));have HS7:=dh (And.intro (by have:=HB.out.size;omega) S7);clear HB;have HB:=HB';clear HB';have HO7:=dh O7;clear P7 O7 S7;generalize V3.alloc (.cells #[.int .u8 91] 5)=V7 at *;generalize V3.heap.size=b7 at *;refine hK1.out _ _ trivial (fun hHeld=>?_);clear hK1
       try simp only [Act.put,sx]
       refine wpAnyH_ready (rs:=[6]) (by kernel_rfl) (by simp) ?_;refine AllReadyH.cons rfl (fun K1 hK1=>?_) AllReadyH.nil;rw [if_pos (by rfl)];have HSV:Hid (b7 < V7.heap.size):=dh (own_lt HO7.out rfl).1;obtain ⟨a9,c9,V6,hrun9,hO9,hg9,hx9⟩:=app_bytes V7 G (.slice (some ⟨b3,0,none⟩) 1 1) [187] HO3.out (some ⟨g,1,none⟩) 8 8 [255,255,255,255,255,255,255,xK] (fun _=>True) (HTL.out V7 HB.out) (by simp) (by have:=HB.out.size;omega);have hl9:([187]:List UInt8).length + 8=9:=rfl;rw [hl9] at hrun9 hO9 hx9;have HB':=dh (show Below G wd V6 from bg HB.out (by have:=HB.out.size;omega) HO3.out hg9);clear HB;have HB:=HB';clear HB';have HO7':=dh (show OwnB _ _ _ _ from own_keep HO7.out fun q hq=>hg9.block q (own_lt HO7.out hq).1 (fun e=>HNE.out (by cases hq;cases e;rfl)));clear HO7;have HO7:=HO7';clear HO7';have hs7:=(own_lt HO7.out rfl).1;have HNE':Hid (∀ q,(Value.slice a9 9 c9).ownBlock=some q→q≠b7):=dh fun q hq e=>by
        rcases hx9 with h | h
        ·rw [h] at hq;cases hq;exact HNE.out (by first | exact e | exact e.symm)
        ·rw [h] at hq;cases hq;have:=HSV.out;omega
       clear HNE hs7;have HNE:=HNE';clear HNE';have HO6:=dh hO9;refine wp_app _ _ 23 rfl rfl rfl hrun9 ?_;clear hrun9 hO9 hg9 hx9 hl9;refine hK1.out _ _ trivial (fun hHeld=>?_);clear hK1
       try simp only [Act.put,sx]
       refine wpAnyH_ready (rs:=[10]) (by kernel_rfl) (by simp) ?_;refine AllReadyH.cons rfl (fun K1 hK1=>?_) AllReadyH.nil;rw [if_pos (by rfl)];obtain ⟨a8,c8,V10,hrun8,hO8,hg8,hx8⟩:=app_bytes V6 G (.slice (some ⟨b7,0,none⟩) 1 1) [91] HO7.out (some ⟨g,1,none⟩) 8 8 [255,255,255,255,255,255,255,xK] (fun _=>True) (HTL.out V6 HB.out) (by simp) (by have:=HB.out.size;omega);have hl9:([91]:List UInt8).length + 8=9:=rfl;rw [hl9] at hrun8 hO8 hx8;have HB':=dh (show Below G wd V10 from bg HB.out (by have:=HB.out.size;omega) HO7.out hg8);clear HB;have HB:=HB';clear HB';have HO6':=dh (show OwnB _ _ _ _ from own_keep HO6.out fun q hq=>hg8.block q (own_lt HO6.out hq).1 (fun e=>HNE.out q hq (by cases e;rfl)));clear HO6;have HO6:=HO6';clear HO6';have HO10:=dh hO8;refine wp_app _ _ 23 rfl rfl rfl hrun8 ?_;clear hrun8 hO8 hg8 hx8 hl9;refine hK1.out _ _ trivial (fun hHeld=>?_);clear hK1
       try simp only [Act.put,sx]
       refine wpAnyH_ready (rs:=[11]) (by kernel_rfl) (by simp) ?_;refine AllReadyH.cons rfl (fun K1 hK1=>?_) AllReadyH.nil;go_simp
       have PR:=al V10 (.cells #[.slice a2 (3 + nz) c2,.slice a6 n6 c6,.slice (some ⟨g,0,none⟩) 9 9,.slice a9 9 c9,.slice a8 9 c8] 23);have NR':=aw V10 (.cells #[.slice a2 (3 + nz) c2,.slice a6 n6 c6,.slice (some ⟨g,0,none⟩) 9 9,.slice a9 9 c9,.slice a8 9 c8] 23);have HFR:Hid (FR wd (.slice (some ⟨V10.heap.size,0,none⟩) 5 5) (.int .i64 5) (.int .i64 0) (V10.alloc (.cells #[.slice a2 (3 + nz) c2,.slice a6 n6 c6,.slice (some ⟨g,0,none⟩) 9 9,.slice a9 9 c9,.slice a8 9 c8] 23))):=dh (by
        have hBV:=HB.out;rw [← hG] at hBV;have hm:=HNZ.out;have hnn:=HN.out;obtain ⟨q6,r6,e6,hr6,hc6',hm6⟩:=HO6.out.br;obtain ⟨q8,r8,e8,hr8,hc8',hm8⟩:=HO10.out.br;simp only [Value.slice.injEq] at e6 e8;obtain ⟨e61,_,e63⟩:=e6;obtain ⟨e81,_,e83⟩:=e8;subst e61;subst e63;subst e81;subst e83;refine ⟨V10.heap.size,⟨_,a2,3 + nz,c2⟩,⟨l',a6,n6,c6⟩,⟨_,some ⟨g,0,none⟩,9,9⟩,⟨_,a9,9,c9⟩,⟨_,a8,9,c8⟩,rfl,rfl,rfl,NR',⟨(HMB2.out.below hBV).below PR,HMB.out.2.1,HMB.out.2.2,by show 3 + nz≤5000;omega⟩,⟨((HNB2.out.below hBV).below PR).imp fun _ _ _=>trivial,HC6.out.1,HC6.out.2.1,by show n6≤5000;have:=HC6.out.2.2;omega⟩,⟨((HRG.out.below hBV).below PR).imp fun _ _ _=>trivial,by show 9≤9;omega,by show 9≤_;omega,by show 9≤5000;omega⟩,⟨(hr6.below PR).imp fun _ _ _=>trivial,hc6',hm6,by show 9≤5000;omega⟩,⟨(hr8.below PR).imp fun _ _ _=>trivial,hc8',hm8,by show 9≤5000;omega⟩,hBV.trans (PR.mono hBV.size)⟩)
       clear PR NR';refine hK1.out _ _ trivial (fun hHeld=>?_);clear hK1;generalize V10.alloc (.cells #[.slice a2 (3 + nz) c2,.slice a6 n6 c6,.slice (some ⟨g,0,none⟩) 9 9,.slice a9 9 c9,.slice a8 9 c8] 23)=V11 at *;generalize V10.heap.size=br at *
       try simp only [Act.put,sx]
       refine tk 12 (v:=?_) rfl hHeld ?_ ?_;rotate_left
       ·intro W h;(try dsimp only at h);go_simp;try with_reducible rfl
       try simp only [Act.put,sx]
       refine wpAnyH_done (by kernel_rfl) ?_ _
       try simp only [Act.put,sx]
       go_wp2_with fail
       go_meet
       exact HFR.out
     ·go_simp
      have P7:Below G wd (wd.alloc (.cells #[.int .u8 91] 5)).drew:=hG ▸ (al wd (.cells #[.int .u8 91] 5)).drew;have O7:OwnB (wd.alloc (.cells #[.int .u8 91] 5)).drew G (.slice (some ⟨G,0,none⟩) 1 1) [91]:=own_lits [91] G (by simp) (hG ▸ aw wd (.cells #[.int .u8 91] 5)) _ (Nat.le_refl _);have S7:G < (wd.alloc (.cells #[.int .u8 91] 5)).drew.heap.size:=by rw [← hG];show wd.heap.size < (wd.alloc (.cells #[.int .u8 91] 5)).heap.size;simp
      try rw [hG]
      generalize (wd.alloc (.cells #[.int .u8 91] 5)).drew=V7 at *;obtain ⟨b7,hb7⟩:∃ b,b=G:=⟨_,rfl⟩;rw [← hb7] at O7 S7;have O7:OwnB V7 G (.slice (some ⟨b7,0,none⟩) 1 1) [91]:=by subst hb7;exact O7
      have HB:=dh P7;have HO7:=dh O7;have HS7:=dh (And.intro (Nat.le_of_eq hb7.symm) S7);rw [← hb7];clear P7 O7 S7 hb7;refine hK1.out _ _ trivial (fun hHeld=>?_);clear hK1
      try simp only [Act.put,sx]
      refine wpAnyH_ready (rs:=[3]) (by kernel_rfl) (by simp) ?_;refine AllReadyH.cons rfl (fun K1 hK1=>?_) AllReadyH.nil;go_simp
      have P3:=al V7 (.cells #[.int .u8 187] 5);have O3:OwnB (V7.alloc (.cells #[.int .u8 187] 5)) G (.slice (some ⟨V7.heap.size,0,none⟩) 1 1) [187]:=own_lits [187] V7.heap.size (by simp) (aw _ _) _ (by have:=HB.out.size;omega);have S3:V7.heap.size < (V7.alloc (.cells #[.int .u8 187] 5)).heap.size:=by simp
      have HO7':=dh (HO7.out.pure P3);have HNE:Hid (b7≠V7.heap.size):=dh (by have:=HS7.out;omega);clear HO7;have HO7:=HO7';clear HO7';have HB':=dh (HB.out.trans (P3.mono (by have:=HB.out.size;omega)));have HS3:=dh (And.intro (by have:=HB.out.size;omega) S3);clear HB;have HB:=HB';clear HB';have HO3:=dh O3;clear P3 O3 S3;generalize V7.alloc (.cells #[.int .u8 187] 5)=V3 at *;generalize V7.heap.size=b3 at *;refine hK1.out _ _ trivial (fun hHeld=>?_);clear hK1
      try simp only [Act.put,sx]
      refine wpAnyH_ready (rs:=[6]) (by kernel_rfl) (by simp) ?_;refine AllReadyH.cons rfl (fun K1 hK1=>?_) AllReadyH.nil;rw [if_pos (by rfl)];have HSV:Hid (b7 < V3.heap.size):=dh (own_lt HO7.out rfl).1;obtain ⟨a9,c9,V6,hrun9,hO9,hg9,hx9⟩:=app_bytes V3 G (.slice (some ⟨b3,0,none⟩) 1 1) [187] HO3.out (some ⟨g,1,none⟩) 8 8 [255,255,255,255,255,255,255,xK] (fun _=>True) (HTL.out V3 HB.out) (by simp) (by have:=HB.out.size;omega);have hl9:([187]:List UInt8).length + 8=9:=rfl;rw [hl9] at hrun9 hO9 hx9;have HB':=dh (show Below G wd V6 from bg HB.out (by have:=HB.out.size;omega) HO3.out hg9);clear HB;have HB:=HB';clear HB';have HO7':=dh (show OwnB _ _ _ _ from own_keep HO7.out fun q hq=>hg9.block q (own_lt HO7.out hq).1 (fun e=>HNE.out (by cases hq;cases e;rfl)));clear HO7;have HO7:=HO7';clear HO7';have hs7:=(own_lt HO7.out rfl).1;have HNE':Hid (∀ q,(Value.slice a9 9 c9).ownBlock=some q→q≠b7):=dh fun q hq e=>by
       rcases hx9 with h | h
       ·rw [h] at hq;cases hq;exact HNE.out (by first | exact e | exact e.symm)
       ·rw [h] at hq;cases hq;have:=HSV.out;omega
      clear HNE hs7;have HNE:=HNE';clear HNE';have HO6:=dh hO9;refine wp_app _ _ 23 rfl rfl rfl hrun9 ?_;clear hrun9 hO9 hg9 hx9 hl9;refine hK1.out _ _ trivial (fun hHeld=>?_);clear hK1
      try simp only [Act.put,sx]
      refine wpAnyH_ready (rs:=[10]) (by kernel_rfl) (by simp) ?_;refine AllReadyH.cons rfl (fun K1 hK1=>?_) AllReadyH.nil;rw [if_pos (by rfl)];obtain ⟨a8,c8,V10,hrun8,hO8,hg8,hx8⟩:=app_bytes V6 G (.slice (some ⟨b7,0,none⟩) 1 1) [91] HO7.out (some ⟨g,1,none⟩) 8 8 [255,255,255,255,255,255,255,xK] (fun _=>True) (HTL.out V6 HB.out) (by simp) (by have:=HB.out.size;omega);have hl9:([91]:List UInt8).length + 8=9:=rfl;rw [hl9] at hrun8 hO8 hx8;have HB':=dh (show Below G wd V10 from bg HB.out (by have:=HB.out.size;omega) HO7.out hg8);clear HB;have HB:=HB';clear HB';have HO6':=dh (show OwnB _ _ _ _ from own_keep HO6.out fun q hq=>hg8.block q (own_lt HO6.out hq).1 (fun e=>HNE.out q hq (by cases e;rfl)));clear HO6;have HO6:=HO6';clear HO6';have HO10:=dh hO8;refine wp_app _ _ 23 rfl rfl rfl hrun8 ?_;clear hrun8 hO8 hg8 hx8 hl9;refine hK1.out _ _ trivial (fun hHeld=>?_);clear hK1
      try simp only [Act.put,sx]
      refine wpAnyH_ready (rs:=[11]) (by kernel_rfl) (by simp) ?_;refine AllReadyH.cons rfl (fun K1 hK1=>?_) AllReadyH.nil;go_simp
      have PR:=al V10 (.cells #[.slice a2 (3 + nz) c2,.slice a6 n6 c6,.slice (some ⟨g,0,none⟩) 9 9,.slice a9 9 c9,.slice a8 9 c8] 23);have NR':=aw V10 (.cells #[.slice a2 (3 + nz) c2,.slice a6 n6 c6,.slice (some ⟨g,0,none⟩) 9 9,.slice a9 9 c9,.slice a8 9 c8] 23);have HFR:Hid (FR wd (.slice (some ⟨V10.heap.size,0,none⟩) 5 5) (.int .i64 5) (.int .i64 0) (V10.alloc (.cells #[.slice a2 (3 + nz) c2,.slice a6 n6 c6,.slice (some ⟨g,0,none⟩) 9 9,.slice a9 9 c9,.slice a8 9 c8] 23))):=dh (by
       have hBV:=HB.out;rw [← hG] at hBV;have hm:=HNZ.out;have hnn:=HN.out;obtain ⟨q6,r6,e6,hr6,hc6',hm6⟩:=HO6.out.br;obtain ⟨q8,r8,e8,hr8,hc8',hm8⟩:=HO10.out.br;simp only [Value.slice.injEq] at e6 e8;obtain ⟨e61,_,e63⟩:=e6;obtain ⟨e81,_,e83⟩:=e8;subst e61;subst e63;subst e81;subst e83;refine ⟨V10.heap.size,⟨_,a2,3 + nz,c2⟩,⟨l',a6,n6,c6⟩,⟨_,some ⟨g,0,none⟩,9,9⟩,⟨_,a9,9,c9⟩,⟨_,a8,9,c8⟩,rfl,rfl,rfl,NR',⟨(HMB2.out.below hBV).below PR,HMB.out.2.1,HMB.out.2.2,by show 3 + nz≤5000;omega⟩,⟨((HNB2.out.below hBV).below PR).imp fun _ _ _=>trivial,HC6.out.1,HC6.out.2.1,by show n6≤5000;have:=HC6.out.2.2;omega⟩,⟨((HRG.out.below hBV).below PR).imp fun _ _ _=>trivial,by show 9≤9;omega,by show 9≤_;omega,by show 9≤5000;omega⟩,⟨(hr6.below PR).imp fun _ _ _=>trivial,hc6',hm6,by show 9≤5000;omega⟩,⟨(hr8.below PR).imp fun _ _ _=>trivial,hc8',hm8,by show 9≤5000;omega⟩,hBV.trans (PR.mono hBV.size)⟩)
      clear PR NR';refine hK1.out _ _ trivial (fun hHeld=>?_);clear hK1;generalize V10.alloc (.cells #[.slice a2 (3 + nz) c2,.slice a6 n6 c6,.slice (some ⟨g,0,none⟩) 9 9,.slice a9 9 c9,.slice a8 9 c8] 23)=V11 at *;generalize V10.heap.size=br at *
      try simp only [Act.put,sx]
      refine tk 12 (v:=?_) rfl hHeld ?_ ?_;rotate_left
      ·intro W h;(try dsimp only at h);go_simp;try with_reducible rfl
      try simp only [Act.put,sx]
      refine wpAnyH_done (by kernel_rfl) ?_ _
      try simp only [Act.put,sx]
      go_wp2_with fail
      go_meet
      exact HFR.out
    case rest=>
     obtain ⟨bb,s0,s1,s2,s3,s4,rfl,rfl,rfl,hbb,k0,k1,k2,k3,k4,hBx⟩:=hcut;have HROW:Hid (∀ j,j < 5→∃ s:Sl,wc.cell? ⟨bb,j,none⟩=some (.slice s.a s.n s.c)∧s.ok wc):=dh fun j hj=>by
      rcases (show j=0∨j=1∨j=2∨j=3∨j=4 by omega) with rfl | rfl | rfl | rfl | rfl
      ·exact ⟨s0,cr hbb _,k0⟩
      ·exact ⟨s1,cr hbb _,k1⟩
      ·exact ⟨s2,cr hbb _,k2⟩
      ·exact ⟨s3,cr hbb _,k3⟩
      ·exact ⟨s4,cr hbb _,k4⟩
     have HB6:=dh (HBD.out.trans (hBx.mono HBD.out.size));have HE6:=dh (HE.out.below HB6.out);clear hbb k0 k1 k2 k3 k4 hBx HBD HMB2 HNB2 HRG HRH HGS HMB HC6 HO2 HB2 HNZ HN HT;go_upto_region 13 with fail
     go_loopw [70] (fun i W=>∃ j:Nat,i=.int .i64 (j:Int)∧j≤5∧Below wc.heap.size wc W) (fun i _=>5 - (intOf i).toNat)
     case atStart=>exact ⟨0,rfl,by omega,Below.refl _ _⟩
     case round=>
      obtain ⟨u,hu⟩:∃ u,u=wr:=⟨_,rfl⟩;subst hu;obtain ⟨j,rfl,hj,hBj⟩:=hrel;by_cases hj5:j < 5
      ·obtain ⟨sl,hcell0,hok⟩:=HROW.out j hj5
       obtain ⟨lz,az,nz',cz⟩:=sl;obtain ⟨hBz,hcz,hczm,_⟩:=hok;have hBz:BR (fun _=>True) wc az nz' lz:=hBz;have hcz:nz'≤cz:=hcz;have hczm:cz≤9223372036854775807:=hczm;have hcell0:wc.cell? ⟨bb,j,none⟩=some (.slice az nz' cz):=hcell0;have hcl:=(hBj.cell (p:=⟨bb,j,none⟩) (lg hcell0)).trans hcell0;have HBj:=dh hBj;have HBz:=dh (hBz.below hBj);have hjz:(j:Int) < 5:=by omega
       have HEu:=dh (HE6.out.below hBj);obtain ⟨x3,j3,k3,hout3⟩:=PrefP.out (lz.take 4096) (It.prefixP lz);have HO3:=dh hout3;have HC3:=dh (cprefix_any lz az nz' cz u _ HBz.out hcz hczm HEu.out);have HCZ:=dh (And.intro hcz hczm);clear hcell0 hBz hBj hcz hczm hout3;go_wp2_with fail
       refine HC3.out.mono ?_;rintro e u3 h3;obtain ⟨A3,rfl,hI3,hB3⟩:=HO3.out _ _ _ h3;have P3:=al u3 (.cells #[.int .i64 x3.kind,.int .u64 (x3.num:Int),.slice A3.ab A3.nb A3.cb,.slice A3.ai A3.ni A3.ci] 31);have Q3:=dh (pt hB3 P3);have HN3:=dh (aw u3 (.cells #[.int .i64 x3.kind,.int .u64 (x3.num:Int),.slice A3.ab A3.nb A3.cb,.slice A3.ai A3.ni A3.ci] 31));have HI3:=dh (hI3.below P3);have HT3:=dh (pt HBj.out Q3.out);have HZ3:=dh (HBz.out.below Q3.out);clear P3 hB3 hI3 h3;have HC4:=dh (rprefix_any lz az nz' cz (u3.alloc (.cells #[.int .i64 x3.kind,.int .u64 (x3.num:Int),.slice A3.ab A3.nb A3.cb,.slice A3.ai A3.ni A3.ci] 31)) _ HZ3.out HCZ.out.1 HCZ.out.2 (HE6.out.below HT3.out));go_upto_region 16 with fail
       generalize u3.heap.size=b3 at *;generalize u3.alloc (.cells #[.int .i64 x3.kind,.int .u64 (x3.num:Int),.slice A3.ab A3.nb A3.cb,.slice A3.ai A3.ni A3.ci] 31)=v3 at *;go_wp2_with fail
       refine HC4.out.mono ?_;rintro e u4 h4;obtain ⟨A4,rfl,hI4,hB4⟩:=HO3.out _ _ _ h4;have P4:=al u4 (.cells #[.int .i64 x3.kind,.int .u64 (x3.num:Int),.slice A4.ab A4.nb A4.cb,.slice A4.ai A4.ni A4.ci] 31);have Q4:=dh (pt hB4 P4);have HN4:=dh (aw u4 (.cells #[.int .i64 x3.kind,.int .u64 (x3.num:Int),.slice A4.ab A4.nb A4.cb,.slice A4.ai A4.ni A4.ci] 31));have HI4:=dh (hI4.below P4);have HT4:=dh (pt HT3.out Q4.out);have HN3':=dh (Below.keep Q4.out HN3.out (lb HN3.out));have HI3':=dh (HI3.out.below Q4.out);clear HN3 HI3;clear P4 hB4 hI4 h4;go_upto_region 17 with fail
       generalize u4.heap.size=b4 at *;generalize u4.alloc (.cells #[.int .i64 x3.kind,.int .u64 (x3.num:Int),.slice A4.ab A4.nb A4.cb,.slice A4.ai A4.ni A4.ci] 31)=v4 at *;have HS1:=dh (same_any x3 x3 A3 A4 v4 _ _ HI3'.out HI4.out);rw [It.same_self] at HS1;obtain ⟨p0,p1,p2,p3⟩:=cf HN3'.out;obtain ⟨q0,q1,q2,q3⟩:=cf HN4.out;go_wp2_with fail
       refine HS1.out.mono ?_;rintro e v5 ⟨rfl,hB5⟩;have HT5:=dh (pt HT4.out hB5);clear p0 p1 p2 p3 q0 q1 q2 q3 HS1 hB5;go_wp2_with fail
       go_roundw
       case rel=>exact ⟨j + 1,by go_num,by omega,HT5.out⟩
       case measure=>simp [intOf];omega
      ·have hj3':j=5:=by omega
       have hjz:¬ (j:Int) < 5:=by omega
       have HCa:=dh (awake_any u (HE6.out.below hBj));have HBL:=dh hBj;clear hBj;go_wp2_with fail
       refine HCa.out.mono ?_;rintro e u5 ⟨rfl,B5⟩;have HB9:=dh (HB6.out.trans ((pt HBL.out B5).mono HB6.out.size));clear B5 HCa HBL;go_wp2_with fail
       go_ret
       exact ⟨rfl,HB9.out⟩
end Go.Proofs.YtelefkkkccilaaaDoor
