/- Joined texts. -/
import Derived.Test.YtelefkkkccilaaaDoorJC
import Derived.Test.YtelefkkkccilaaaDoorLF
import Derived.Test.YtelefkkkccilaaaDoorLC
import Derived.Laws.FloatArith
import Derived.Laws.BitsAllLaws
import Derived.Test.YtelefkkkccilaaaDoorJD
import Derived.Test.YtelefkkkccilaaaDoorLL
import Derived.Test.YtelefkkkccilaaaDoorXn
set_option linter.unusedVariables false
set_option linter.unusedSimpArgs false
namespace Go.Proofs.YtelefkkkccilaaaDoor
open Am Go.RowKit
set_option maxRecDepth 100000
theorem Am.atL.app {g:Cx} {w:World}:∀ {cs ds:List SV} {b o:Nat},atL g w (cs ++ ds) b o→atL g w cs b o∧atL g w ds b (o + cs.length)
 | [],_,_,_,h=>⟨trivial,h⟩
 | c :: cs,ds,b,o,h=>by
   have:=Am.atL.app (cs:=cs) (ds:=ds) h.2;exact ⟨⟨h.1,this.1⟩,by rw [List.length_cons,show o + (cs.length + 1)=o + 1 + cs.length by omega];exact this.2⟩
theorem itC_len (x:It):(itC x).length=4:=by rw [itC_eq];rfl
mutual
theorem ir_ag {g:Cx} {w:World}:∀ (x:It) {vs:List Value},x.fits→agL g w (itC x) vs→∃ A:Ad,vs=[.int .i64 x.kind,.int .u64 (x.num:Int),.slice A.ab A.nb A.cb,.slice A.ai A.ni A.ci]∧IR g.Z w x A
 | .mk k n b ks,vs,hf,h=>by
   unfold itC at h
   match vs,h with
   | [v1,v2,v3,v4],h=>
     obtain ⟨h1,h2,h3,h4,_⟩:=h;have h1:v1=.int .i64 k:=h1;have h2:v2=.int .u64 (n:Int):=h2;have hb:b.length≤9223372036854775807:=by obtain ⟨a,c,_,hc,_⟩:=h3;omega
     obtain ⟨a,c,rfl,hc,hB⟩:=bro_of h3 hb;obtain ⟨a2,c2,rfl,hc2,hl2,h4⟩:=h4;refine ⟨⟨a,b.length,c,a2,ks.length,c2⟩,by rw [h1,h2];rfl,?_⟩;unfold IR;refine ⟨hf.1,⟨hB,hc⟩,⟨rfl,hc2⟩,?_⟩;rcases h4 with h4 | ⟨b2,o2,rfl,hz,h4⟩
     ·rw [itL_len] at h4
      cases ks with
      | nil=>unfold KR;trivial
      | cons y l=>simp at h4
     ·exact kr_at (g:=g.pure) ks (i:=0) hf.2 hz (by rwa [Nat.zero_mul,Nat.add_zero])
theorem kr_at {g:Cx} {w:World}:∀ (l:List It) {b o i:Nat},It.fitsL l→g.Z b→atL g w (itL l) b (o + i * 4)→KR g.Z w l (some ⟨b,o,none⟩) i
 | [],_,_,_,_,_,_=>by unfold KR;trivial
 | x :: l,b,o,i,hf,hz,h=>by
   have h2:atL g w (itC x ++ itL l) b (o + i * 4):=h;obtain ⟨h3,h4⟩:=h2.app;rw [itC_len] at h4;obtain ⟨vs,h5,h6⟩:=h3.vals;obtain ⟨A,rfl,hI⟩:=ir_ag x hf.1 h5;unfold KR;rw [itC_len] at h6;have cell:∀ j v,[Value.int .i64 x.kind,.int .u64 (x.num:Int),.slice A.ab A.nb A.cb,.slice A.ai A.ni A.ci][j]?=some v→j < 4→w.cell? ⟨b,o + i * 4 + j,none⟩=some v:=fun j v hj hlt=>by
    obtain ⟨u,e1,e2⟩:=h6 j hlt;rw [hj] at e1;cases e1;exact e2
   exact ⟨⟨b,o,A,rfl,hz,⟨cell 0 _ rfl (by omega),cell 1 _ rfl (by omega),cell 2 _ rfl (by omega),cell 3 _ rfl (by omega)⟩,hI⟩,kr_at l hf.2 hz (by rw [show o + (i + 1) * 4=o + i * 4 + 4 by omega];exact h4)⟩
end
theorem ir_of {g:Cx} {w:World} {x:It} {v:Value} (hf:x.fits) (h:holds g w (itS x) v):∃ A:Ad,v=v4 x A∧IR g.Z w x A:=by
 obtain ⟨vs,e,h⟩:=h;obtain ⟨A,rfl,hI⟩:=ir_ag x hf (by rw [itC_eq];exact h);exact ⟨A,e,hI⟩
theorem bs_at {ok:Nat→Prop} {g:Cx} {w:World} {a:Option Addr} {n:Nat} {l:List UInt8} (h:BR ok w a n l) (h0:l≠[]):∃ b o,a=some ⟨b,o,none⟩∧ok b∧b < w.heap.size∧atL g w (bys l) b o:=by
 have hl:0 < l.length:=List.length_pos_iff.2 h0;obtain ⟨b,o,ea,hb,hc⟩:=h.2.2 0 hl;refine ⟨b,o,ea,hb,cell_lt hc,?_⟩;unfold bys;refine atL.of (vs:=l.map fun b=>.int .u8 (b.toNat:Int)) ?_ fun i x hx=>?_
 ·have:=agL.ofv (g:=g) (w:=w) (l.map fun b=>Value.int .u8 (b.toNat:Int))
  rwa [List.map_map] at this
 ·obtain ⟨hi,rfl⟩:=List.getElem?_eq_some_iff.1 hx
  rw [List.length_map] at hi;obtain ⟨b',o',ea',_,hc'⟩:=h.2.2 i hi;rw [ea] at ea';cases ea';simpa using hc'
theorem AC.fresh {P:Program} {X:Ev} {f:FuncId} {l:List UInt8} {args:List SV} (hgo:∀ vals w,(callFunc f vals).run P w=.ok (.enter f vals) w) (hc:∀ g w vals,X.E w→agL g w args vals→Calls P f vals.toArray w fun e w'=>∃ a c,e=.returned (.slice a l.length c)∧BR (fun q=>w.heap.size≤q) w' a l.length l∧l.length≤c∧c≤9223372036854775807∧Below w.heap.size w w'):AC P X f args [] fun r rows=>r=bsl l∧rows=[]:=
 ⟨fun g w vals nx hE hz hv hb ha hrow hap=>.inl ⟨hgo _ _,(hc g w vals hE ha).mono fun e w' ⟨a,c,he,hB,h1,h2,hW⟩=>by
  refine ⟨.slice a l.length c,bsl l,[],⟨fun b=>g.Z b∨(w.heap.size≤b∧b < w'.heap.size),g.A,g.mu,g.ka⟩,he,⟨rfl,rfl⟩,⟨a,c,rfl,⟨h1,h2⟩,by rw [bys_len,Nat.mul_one],?_⟩,⟨fun b hb=>.inl hb,fun u hu=>⟨hu,rfl,rfl⟩⟩,fun b hb=>hb,.inl rfl,fun i r q h=>by simp at h,fun q hq=>by simp [rnR] at hq,fun u hu=>.inl hu,hW.size,fun b hb _=>hW.block b hb,⟨hW.os,hW.tape,hW.output⟩,X.st w w' hW.size hE fun b hb=>hW.block b (X.lt w b hE hb)⟩;by_cases h0:l=[]
  ·subst h0;exact .inl rfl
  ·obtain ⟨b,o,ea,hb1,hb2,hat⟩:=bs_at hB h0
   exact .inr ⟨b,o,ea,.inr ⟨hb1,hb2⟩,hat⟩⟩⟩
theorem env_lt {w:World} (h:Env w):1 < w.heap.size:=cell_lt (h.2 0 (by omega)).1
set_option maxHeartbeats 4000000 in
theorem valid8_any (x:It) (A:Ad) (w:World) (ok:Nat→Prop) (hI:IR ok w x A) (hE:Env w) (V:Bool) (hV:It.valid x=V):
 Calls Tryd.prog 25 #[.agg #[.int .i64 x.kind,.int .u64 (x.num:Int),.slice A.ab A.nb A.cb,.slice A.ai A.ni A.ci]] w fun e w'=>e=.returned (.bool V)∧Below w.heap.size w w':=by
 have h1:=env_lt hE;have P0:=al w (.cells #[.int .i64 x.kind,.int .u64 (x.num:Int),.slice A.ab A.nb A.cb,.slice A.ai A.ni A.ci] 31);have N0:=aw w (.cells #[.int .i64 x.kind,.int .u64 (x.num:Int),.slice A.ab A.nb A.cb,.slice A.ai A.ni A.ci] 31);have P1:=al (w.alloc (.cells #[.int .i64 x.kind,.int .u64 (x.num:Int),.slice A.ab A.nb A.cb,.slice A.ai A.ni A.ci] 31)) (.cells #[.int .i64 0,.int .i64 0] 99);have N1:=aw (w.alloc (.cells #[.int .i64 x.kind,.int .u64 (x.num:Int),.slice A.ab A.nb A.cb,.slice A.ai A.ni A.ci] 31)) (.cells #[.int .i64 0,.int .i64 0] 99);have N01:=Below.keep P1 N0 (lb N0);have hsz:(w.alloc (.cells #[.int .i64 x.kind,.int .u64 (x.num:Int),.slice A.ab A.nb A.cb,.slice A.ai A.ni A.ci] 31)).heap.size=w.heap.size + 1:=by simp
 rw [hsz] at N1;have HC:=dh (item_any 8 (by omega) x A ((w.alloc (.cells #[.int .i64 x.kind,.int .u64 (x.num:Int),.slice A.ab A.nb A.cb,.slice A.ai A.ni A.ci] 31)).alloc (.cells #[.int .i64 0,.int .i64 0] 99)) (fun b=>b < w.heap.size) (w.heap.size + 1) 0 0 0 (((hI.imp (ok':=fun b=>b < w.heap.size) fun b _ hl=>hl).below P0).below P1) (fun b hb=>by omega) ((hE.below P0).below P1) (by omega) N1 (by omega) (by omega) (by omega));rw [← It.valid_ok,hV] at HC;have HP:=dh (pt P0 P1);have HS:Hid (w.heap.size≤((w.alloc (.cells #[.int .i64 x.kind,.int .u64 (x.num:Int),.slice A.ab A.nb A.cb,.slice A.ai A.ni A.ci] 31)).alloc (.cells #[.int .i64 0,.int .i64 0] 99)).heap.size):=dh (by simp;omega);obtain ⟨x0,x1,x2,x3⟩:=cf N01;clear P0 P1 N0 N1 N01 hI hE hsz h1 hV;go_enter Tryd.func25,Tryd.ntmps25
 go_wp2_with fail
 refine HC.out.mono ?_;rintro e w6 ⟨rfl,B6,C6⟩;have HB6:=dh (HP.out.trans (B6.below (by omega) HS.out));clear B6 C6;go_wp2_with fail
 go_ret
 exact ⟨rfl,HB6.out⟩
theorem valid8_c (x:It) (hf:x.fits):AC Tryd.prog XU 25 [itS x] [] fun r rows=>r=bov x.valid∧rows=[]:=
 AC.below Tryd.call25 fun g w vals hE ha=>by
  match vals,ha with
  | [v],ha=>
    obtain ⟨A,rfl,hI⟩:=ir_of hf ha.1;exact valid8_any x A w _ hI hE _ rfl
theorem add_c (x:It) (hf:x.fits) (hw:x.wf 8=true) (hl:x.enc.length≤1000000000):AC Tryd.prog XU 41 [.v (.slice none 0 0),itS x] [] fun r rows=>r=bsl x.enc∧rows=[]:=
 AC.fresh Tryd.call41 fun g w vals hE ha=>by
  match vals,ha with
  | [v0,v],ha=>
    obtain ⟨A,rfl,hI⟩:=ir_of hf ha.2.1;have h0:v0=.slice none 0 0:=ha.1;subst h0;have h:=add_any 8 x A w.heap.size w (.slice none 0 0) [] hw (hI.imp (ok':=fun b=>b < w.heap.size) fun b _ hl=>hl) (OwnB.nil _ _) (by simpa using hl) (Nat.le_refl _);refine h.mono fun e w' ⟨v,he,hO,hB⟩=>?_
    rw [List.nil_append] at hO;obtain ⟨a,c,rfl,h3,h4,h5⟩:=hO.br;exact ⟨a,c,he,h3,h4,h5,hB⟩
theorem size_c (x:It) (hf:x.fits) (hv:x.valid=true):AC Tryd.prog XU 105 [itS x] [] fun r rows=>r=iv x.enc.length∧rows=[]:=by
 have hw:x.wf 8=true∧x.enc.length≤4096:=by
  unfold It.valid at hv;simp only [Bool.and_eq_true,decide_eq_true_eq] at hv;exact ⟨hv.1.1,hv.2⟩
 refine AC.bodyW false Tryd.func105 rfl Tryd.call105 Tryd.ntmps105 (by simp) fun e nx=>gw ?_
 go_simp
 refine cl [] [] (valid8_c x hf) (by go_simp) ?_;rintro r rows ⟨rfl,rfl⟩;rw [hv];go_simp
 refine cl [] [] (add_c x hf hw.1 (by omega)) (by go_simp) ?_;rintro r rows ⟨rfl,rfl⟩;go_simp
end Go.Proofs.YtelefkkkccilaaaDoor
namespace Go.Proofs.YtelefkkkccilaaaDoor
open Go.RowKit
set_option maxRecDepth 100000
namespace Fl
theorem read_one:Ieee.double.read 4607182418800017408=.number false 4503599627370496 (-52):=by kernel_rfl
theorem mul_one {e m:Nat} (h1:1≤e) (h2:e < 2047) (hm:m < 4503599627370496):floatBits .mul .f64 4607182418800017408 (e * 4503599627370496 + m)=some (e * 4503599627370496 + m):=by
 show Ieee.double.mul _ _=_
 unfold Ieee.Format.mul;have r2:=readD 0 e m (by omega) (by omega) hm;rw [Nat.zero_mul,Nat.zero_add,if_neg (by omega),if_pos h2] at r2;rw [read_one,r2]
 show some (Ieee.double.nearest _ _ _)=_
 congr 1
 have hl:(4503599627370496 * (m + 4503599627370496)).log2=104:=log2_of (by omega) (by omega);have hs:∃ b,b=(false ^^ (0 % 2==1)):=⟨_,rfl⟩;rw [nearest_at Ieee.double _ (4503599627370496 * (m + 4503599627370496)) (-52 + ((e:Int) - 1075)) ((e:Int) - 1075) (by omega) (by rw [d4,d5,hl];omega),d4,d2,d3];have e1:((-52 + ((e:Int) - 1075)) - ((e:Int) - 1075)).toNat=0:=by omega
 have e2:(((e:Int) - 1075) - (-52 + ((e:Int) - 1075))).toNat=52:=by omega
 have e3:(((e:Int) - 1075) - -1074).toNat=e - 1:=by omega
 rw [e1,e2,e3,Nat.shiftLeft_zero,cut_exact (by omega) (by omega) (by rw [show (2:Nat) ^ 52=4503599627370496 from by decide];omega)];have e4:4503599627370496 * (m + 4503599627370496) / 2 ^ 52=m + 4503599627370496:=by rw [show (2:Nat) ^ 52=4503599627370496 from by decide];omega
 rw [e4];have e5:min ((e - 1) * 4503599627370496 + (m + 4503599627370496)) 9218868437227405312=e * 4503599627370496 + m:=by omega
 rw [e5];have:=wordD 0 (by omega) (e * 4503599627370496 + m);rw [Nat.zero_mul,Nat.zero_add] at this;exact this
end Fl
theorem low_mask (k:Nat) {n:Nat} (h:n < 2 ^ k):n &&& (2 ^ k - 1)=n:=by rw [Nat.and_two_pow_sub_one_eq_mod,Nat.mod_eq_of_lt h]
theorem bits_abs {n:Nat} {N:Int} (hN:N=n) (h:n < 9223372036854775808):bits .andNot .u64 N 9223372036854775808=N:=by
 subst hN;have:=Go.u64_andNot_nat n 9223372036854775808 (by omega) (by omega);rw [show (18446744073709551615 - 9223372036854775808:Nat)=2 ^ 63 - 1 from by decide,low_mask 63 (by simpa using h)] at this;exact this
theorem bits_frac {n:Nat} {N:Int} (hN:N=n) (h:n < 9223372036854775808):bits .andNot .u64 N 9218868437227405312=((n % 4503599627370496:Nat):Int):=by
 subst hN;have:=Go.u64_andNot_nat n 9218868437227405312 (by omega) (by omega);rw [show ((9218868437227405312:Nat):Int)=9218868437227405312 from rfl] at this;rw [this];congr 1
 have e1:(18446744073709551615 - 9218868437227405312:Nat)=2 ^ 63 ||| (2 ^ 52 - 1):=by decide +kernel
 rw [e1,Nat.and_or_distrib_left,Nat.and_two_pow_sub_one_eq_mod];have e2:n &&& 2 ^ 63=0:=by
  apply Nat.eq_of_testBit_eq
  intro i;rw [Nat.testBit_and,Nat.testBit_two_pow,Nat.zero_testBit];by_cases hi:63=i
  ·subst hi
   rw [Nat.testBit_lt_two_pow (by simpa using h)];rfl
  ·simp [hi]
 rw [e2,Nat.zero_or]
theorem or_top (k:Nat) {a b:Nat} (h:a < 2 ^ k):a ||| b * 2 ^ k=b * 2 ^ k + a:=by
 rw [Nat.or_comm,Nat.mul_comm];exact (Nat.two_pow_add_eq_or_of_lt h b).symm
theorem bits_or_top (k:Nat) {a b:Nat} {A B:Int} (hA:A=a) (hB:B=((b * 2 ^ k:Nat):Int)) (h:a < 2 ^ k) (hk:b * 2 ^ k + a < 18446744073709551616):bits .or .u64 A B=((b * 2 ^ k + a:Nat):Int):=by
 subst hA hB;have h1:=Go.u64_or_nat a (b * 2 ^ k) (by omega) (by omega);rw [h1,or_top k h]
set_option maxHeartbeats 4000000 in
theorem abs_any {n:Nat} (h:n < 9223372036854775808) (w:World):Calls Tryd.prog 154 #[.float .f64 n] w fun e w'=>e=.returned (.float .f64 n)∧w=w':=by
 obtain ⟨N,hN⟩:∃ N:Int,N=n:=⟨_,rfl⟩;have X1:=fun W=>x158 hN W
 have X2:=fun W=>x157 hN W
 have hb:=bits_abs hN h;clear hN h;go_enter Tryd.func154,Tryd.ntmps154
 go_wp2_with (first | simp only [X1] | simp only [X2])
 go_ret
 exact ⟨rfl,rfl⟩
set_option maxHeartbeats 4000000 in
theorem inf_any (w:World):Calls Tryd.prog 117 #[.int .i64 1] w fun e w'=>e=.returned (.float .f64 9218868437227405312)∧w=w':=by
 have X2:=fun W=>x157 (n:=9218868437227405312) (N:=9218868437227405312) rfl W
 go_enter Tryd.func117,Tryd.ntmps117
 go_wp2_with (simp only [X2])
 go_ret
 exact ⟨rfl,rfl⟩
set_option maxHeartbeats 4000000 in
theorem sign_any {n:Nat} (h:n < 9223372036854775808) (w:World):Calls Tryd.prog 119 #[.float .f64 n,.float .f64 13830554455654793216] w fun e w'=>e=.returned (.float .f64 (9223372036854775808 + n))∧w=w':=by
 obtain ⟨N,hN⟩:∃ N:Int,N=n:=⟨_,rfl⟩;obtain ⟨M,hM⟩:∃ M:Int,M=((9223372036854775808 + n:Nat):Int):=⟨_,rfl⟩;have X1:=fun W=>x158 hN W
 have X3:=fun W=>x158 (n:=13830554455654793216) (N:=13830554455654793216) rfl W
 have X2:=fun W=>x157 hM W
 have hb:=bits_abs hN h;have hc:bits .and .u64 13830554455654793216 9223372036854775808=9223372036854775808:=by decide +kernel
 have hd:bits .or .u64 N 9223372036854775808=M:=by
  have:=bits_or_top 63 (b:=1) (B:=9223372036854775808) hN (by decide) (by simpa using h) (by omega);rw [this,hM,show 1 * 2 ^ 63=9223372036854775808 from by decide]
 clear hN hM h;go_enter Tryd.func119,Tryd.ntmps119
 go_wp2_with (first | simp only [X1] | simp only [X3] | simp only [X2])
 go_ret
 exact ⟨rfl,rfl⟩
theorem read_pos {E F:Nat} (h1:1≤E) (h2:E < 2047) (hF:F < 4503599627370496):Ieee.double.read (E * 4503599627370496 + F)=.number false (F + 4503599627370496) ((E:Int) - 1075):=by
 have r2:=Fl.readD 0 E F (by omega) (by omega) hF;rw [Nat.zero_mul,Nat.zero_add,if_neg (by omega),if_pos h2] at r2;exact r2
theorem order_zero {E F:Nat} (h1:1≤E) (h2:E < 2047) (hF:F < 4503599627370496):(FloatKind.f64.format.order (E * 4503599627370496 + F) 0==some Ordering.eq)=false:=by
 show (Ieee.double.order _ _==_)=false
 unfold Ieee.Format.order;rw [read_pos h1 h2 hF,show Ieee.double.read 0=.number false 0 (-1074) from by kernel_rfl];unfold Ieee.Datum.order;simp only [Ieee.signed,Bool.false_eq_true,if_false,Nat.shiftLeft_eq,Nat.zero_mul];have hp:0 < (F + 4503599627370496) * 2 ^ (((E:Int) - 1075 - min ((E:Int) - 1075) (-1074)).toNat):=Nat.mul_pos (by omega) (Nat.two_pow_pos _);generalize (F + 4503599627370496) * 2 ^ (((E:Int) - 1075 - min ((E:Int) - 1075) (-1074)).toNat)=Z at *;have:compare (Z:Int) ((0:Nat):Int)=.gt:=by rw [Int.compare_eq_gt];omega
 rw [this];rfl
theorem not_gt {a b:Int} (h:a≤b):(some (compare a b)==some Ordering.gt)=false:=by
 cases hc:compare a b with
 | gt=>rw [Int.compare_eq_gt] at hc;omega
 | eq=>rfl
 | lt=>rfl
theorem not_lt {a b:Int} (h:b≤a):(some (compare a b)==some Ordering.lt)=false:=by
 cases hc:compare a b with
 | lt=>rw [Int.compare_eq_lt] at hc;omega
 | eq=>rfl
 | gt=>rfl
theorem order_max {E F:Nat} (h1:1≤E) (h2:E < 2047) (hF:F < 4503599627370496):(FloatKind.f64.format.order (E * 4503599627370496 + F) 9218868437227405311==some Ordering.gt)=false:=by
 show (Ieee.double.order _ _==_)=false
 unfold Ieee.Format.order;rw [read_pos h1 h2 hF,show Ieee.double.read 9218868437227405311=.number false 9007199254740991 971 from by kernel_rfl];unfold Ieee.Datum.order;have hb:min ((E:Int) - 1075) 971=(E:Int) - 1075:=by omega
 simp only [Ieee.signed,Bool.false_eq_true,if_false,hb];have e1:((E:Int) - 1075 - ((E:Int) - 1075)).toNat=0:=by omega
 rw [e1,Nat.shiftLeft_zero,Nat.shiftLeft_eq];have hp:9007199254740991≤9007199254740991 * 2 ^ ((971:Int) - ((E:Int) - 1075)).toNat:=Nat.le_mul_of_pos_right _ (Nat.two_pow_pos _);generalize 9007199254740991 * 2 ^ ((971:Int) - ((E:Int) - 1075)).toNat=Z at *;exact not_gt (by omega)
theorem order_small {E F:Nat} (h1:1≤E) (h2:E < 2047) (hF:F < 4503599627370496):(FloatKind.f64.format.order (E * 4503599627370496 + F) 4503599627370496==some Ordering.lt)=false:=by
 show (Ieee.double.order _ _==_)=false
 unfold Ieee.Format.order;rw [read_pos h1 h2 hF,show Ieee.double.read 4503599627370496=.number false 4503599627370496 (-1074) from by kernel_rfl];unfold Ieee.Datum.order;have hb:min ((E:Int) - 1075) (-1074)= -1074:=by omega
 simp only [Ieee.signed,Bool.false_eq_true,if_false,hb];have e1:((-1074:Int) - -1074).toNat=0:=by omega
 rw [e1,Nat.shiftLeft_zero,Nat.shiftLeft_eq];have hp:F + 4503599627370496≤(F + 4503599627370496) * 2 ^ ((E:Int) - 1075 - -1074).toNat:=Nat.le_mul_of_pos_right _ (Nat.two_pow_pos _);generalize (F + 4503599627370496) * 2 ^ ((E:Int) - 1075 - -1074).toNat=Z at *;exact not_lt (by omega)
theorem order_same {E F:Nat} (h1:1≤E) (h2:E < 2047) (hF:F < 4503599627370496):(FloatKind.f64.format.order (E * 4503599627370496 + F) (E * 4503599627370496 + F) !=some Ordering.eq)=false:=by
 show (Ieee.double.order _ _ !=_)=false
 unfold Ieee.Format.order;rw [read_pos h1 h2 hF];simp [Ieee.Datum.order]
structure Nrm (E F X:Nat):Prop where
 e1:1≤E
 e2:E < 2047
 f:F < 4503599627370496
 x:X=E * 4503599627370496 + F
theorem Nrm.lt {E F X:Nat} (h:Nrm E F X):X < 9223372036854775808:=by have:=h.e2;have:=h.f;have:=h.x;omega
set_option maxHeartbeats 4000000 in
theorem isinf_any {E F X:Nat} (h:Nrm E F X) (w:World):Calls Tryd.prog 150 #[.float .f64 X,.int .i64 0] w fun e w'=>e=.returned (.bool false)∧w=w':=by
 have ho:(FloatKind.f64.format.order X 9218868437227405311==some Ordering.gt)=false:=by rw [h.x];exact order_max h.e1 h.e2 h.f
 have HC:=dh (abs_any h.lt w);clear h;go_enter Tryd.func150,Tryd.ntmps150
 go_wp2_with fail
 refine HC.out.mono ?_;rintro e w' ⟨rfl,rfl⟩;go_wp2_with fail
 go_ret
 exact ⟨rfl,rfl⟩
set_option maxHeartbeats 4000000 in
theorem isnanf_any {E F X:Nat} (h:Nrm E F X) (w:World):Calls Tryd.prog 151 #[.float .f64 X] w fun e w'=>e=.returned (.bool false)∧w=w':=by
 have ho:(FloatKind.f64.format.order X X !=some Ordering.eq)=false:=by rw [h.x];exact order_same h.e1 h.e2 h.f
 clear h;go_enter Tryd.func151,Tryd.ntmps151
 go_wp2_with fail
 go_ret
 exact ⟨rfl,rfl⟩
set_option maxHeartbeats 4000000 in
theorem normalize_any {E F X:Nat} (h:Nrm E F X) (w:World):Calls Tryd.prog 152 #[.float .f64 X] w fun e w'=>e=.returned (.tuple #[.float .f64 X,.int .i64 0])∧w=w':=by
 have ho:(FloatKind.f64.format.order X 4503599627370496==some Ordering.lt)=false:=by rw [h.x];exact order_small h.e1 h.e2 h.f
 have HC:=dh (abs_any h.lt w);clear h;go_enter Tryd.func152,Tryd.ntmps152
 go_wp2_with fail
 refine HC.out.mono ?_;rintro e w' ⟨rfl,rfl⟩;go_wp2_with fail
 go_ret2
 exact ⟨rfl,rfl⟩
theorem and2047:∀ E:Fin 2047,bits .and .i64 (E.val:Int) 2047=(E.val:Int):=by decide +kernel
set_option maxHeartbeats 8000000 in
theorem ldexp_any {E F X G Y:Nat} (h:Nrm E F X) (h':Nrm G F Y) (k:Int) (hk:(E:Int) + k=G) (w:World):Calls Tryd.prog 143 #[.float .f64 X,.int .i64 k] w fun e w'=>e=.returned (.float .f64 Y)∧w=w':=by
 have ho:(FloatKind.f64.format.order X 0==some Ordering.eq)=false:=by rw [h.x];exact order_zero h.e1 h.e2 h.f
 have HC1:=dh (isinf_any h w);have HC2:=dh (isnanf_any h w);have HC3:=dh (normalize_any h w);obtain ⟨N,hN⟩:∃ N:Int,N=X:=⟨_,rfl⟩;obtain ⟨M,hM⟩:∃ M:Int,M=Y:=⟨_,rfl⟩;obtain ⟨EI,hEI⟩:∃ EI:Int,EI=E:=⟨_,rfl⟩;obtain ⟨FI,hFI⟩:∃ FI:Int,FI=F:=⟨_,rfl⟩;have X1:=fun W=>x158 hN W
 have X2:=fun W=>x157 hM W
 have he1:=h.e1;have he2:=h.e2;have hg1:=h'.e1;have hg2:=h'.e2;have hf:=h.f;have hx:=h.x;have hy:=h'.x;have hb1:IntKind.i64.wrap (N / 4503599627370496)=EI:=by
  have:N / 4503599627370496=EI:=by omega
  rw [this,IntWalk.i64_in _ (by omega)]
 have hb2:bits .and .i64 EI 2047=EI:=by rw [hEI];exact and2047 ⟨E,he2⟩
 have hb3:bits .andNot .u64 N 9218868437227405312=FI:=by
  rw [bits_frac hN h.lt,hFI];congr 1;omega
 have hw1:IntKind.i64.wrap (EI - 1023)=EI - 1023:=IntWalk.i64_in _ (by omega);obtain ⟨K,hK⟩:∃ K:Int,K=(G:Int) - 1023:=⟨_,rfl⟩;have hw2:IntKind.i64.wrap (k + (EI - 1023))=K:=by rw [IntWalk.i64_in _ (by omega)];omega
 have hw0:IntKind.i64.wrap k=k:=IntWalk.i64_in _ (by omega);have hc1:¬ K < -1075:=by omega
 have hc2:¬ 1023 < K:=by omega
 have hc3:¬ K < -1022:=by omega
 obtain ⟨GI,hGI⟩:∃ GI:Int,GI=G:=⟨_,rfl⟩;have hw3:IntKind.i64.wrap (K + 1023)=GI:=by rw [IntWalk.i64_in _ (by omega)];omega
 have hw4:IntKind.u64.wrap GI=GI:=wrap_u64 (by omega) (by omega);have hw5:IntKind.u64.wrap (GI * 4503599627370496)=GI * 4503599627370496:=wrap_u64 (by omega) (by omega);have hb4:bits .or .u64 FI (GI * 4503599627370496)=M:=by
  rw [bits_or_top 52 (b:=G) hFI (by rw [hGI];rfl) (by simpa using hf) (by rw [show 2 ^ 52=4503599627370496 from by decide];omega),hM,hy]
 have hm:floatBits .mul .f64 4607182418800017408 Y=some Y:=by rw [hy];exact Fl.mul_one hg1 hg2 hf
 have X3:=fun W=>run_float_arith (P:=Tryd.prog) (w:=W) .mul 146 .f64 _ _ _ hm
 clear h h' hN hM hEI hFI hGI hK hk he1 he2 hg1 hg2 hf hx hy hm;go_enter Tryd.func143,Tryd.ntmps143
 go_wp2_with (first | simp only [X1] | simp only [X2] | simp only [X3] | (go_at_call 150;refine HC1.out.mono ?_;rintro e w' ⟨rfl,rfl⟩) | (go_at_call 151;refine HC2.out.mono ?_;rintro e w' ⟨rfl,rfl⟩) | (go_at_call 152;refine HC3.out.mono ?_;rintro e w' ⟨rfl,rfl⟩))
 go_ret
 exact ⟨rfl,rfl⟩
set_option maxHeartbeats 4000000 in
theorem Ldexp_any {E F X G Y:Nat} (h:Nrm E F X) (h':Nrm G F Y) (k:Int) (hk:(E:Int) + k=G) (w:World):Calls Tryd.prog 118 #[.float .f64 X,.int .i64 k] w fun e w'=>e=.returned (.float .f64 Y)∧w=w':=by
 have HC:=dh (ldexp_any h h' k hk w);clear h h' hk;go_enter Tryd.func118,Tryd.ntmps118
 go_wp2_with fail
 refine HC.out.mono ?_;rintro e w' ⟨rfl,rfl⟩;go_wp2_with fail
 go_ret
 exact ⟨rfl,rfl⟩
set_option maxHeartbeats 4000000 in
theorem Ldexp_zero (k:Int) (w:World):Calls Tryd.prog 118 #[.float .f64 0,.int .i64 k] w fun e w'=>e=.returned (.float .f64 0)∧w=w':=by
 have ho:(FloatKind.f64.format.order 0 0==some Ordering.eq)=true:=by kernel_rfl
 have HC:Hid (Calls Tryd.prog 143 #[.float .f64 0,.int .i64 k] w fun e w'=>e=.returned (.float .f64 0)∧w=w'):=dh (by
  go_enter Tryd.func143,Tryd.ntmps143
  go_wp2_with fail
  go_ret
  exact ⟨rfl,rfl⟩)
 clear ho;go_enter Tryd.func118,Tryd.ntmps118
 go_wp2_with fail
 refine HC.out.mono ?_;rintro e w' ⟨rfl,rfl⟩;go_wp2_with fail
 go_ret
 exact ⟨rfl,rfl⟩
theorem float_ne0:∀ m:Fin 1024,m.val≠0→(FloatKind.f64.format.order (floatOfInt .f64 (m.val:Int)) 0 !=some Ordering.eq)=true:=by decide +kernel
theorem float_eq0:(FloatKind.f64.format.order (floatOfInt .f64 0) 0 !=some Ordering.eq)=false:=by kernel_rfl
theorem float_small:∀ m:Fin 1024,m.val≠0→floatOfInt .f64 (m.val:Int)=(m.val.log2 + 1023) * 4503599627370496 + (m.val * 2 ^ (52 - m.val.log2) - 4503599627370496):=by decide +kernel
theorem float_add:∀ m:Fin 1024,floatBits .add .f64 (floatOfInt .f64 (m.val:Int)) 4652218415073722368=some (1033 * 4503599627370496 + m.val * 4398046511104):=by decide +kernel
def Fl.widenP (n:Nat):Nat:=if Fl.nanH n=true then Fl.nan else Fl.widenH n
def Fl.posH (e m:Nat):Nat:=if e=31 then 9218868437227405312 else if e=0 then (if m=0 then 0 else (m.log2 + 999) * 4503599627370496 + (m * 2 ^ (52 - m.log2) - 4503599627370496)) else (e + 1008) * 4503599627370496 + m * 4398046511104
theorem posH_lt {e m:Nat} (he:e < 32) (hm:m < 1024):Fl.posH e m < 9223372036854775808:=by
 unfold Fl.posH
 split
 ·omega
 split
 ·split
  ·omega
  ·rename_i h
   have hl:m.log2 < 10:=(Nat.log2_lt h).2 (by simpa using hm);obtain ⟨_,hb⟩:=Fl.log2_bd h;generalize m.log2=k at *;have:m * 2 ^ (52 - k) < 9007199254740992:=by
    have:(9007199254740992:Nat)=2 ^ (k + 1) * 2 ^ (52 - k):=by rw [← Nat.pow_add,show k + 1 + (52 - k)=53 from by omega]
    rw [this];exact Nat.mul_lt_mul_of_pos_right hb (Nat.two_pow_pos _)
   generalize m * 2 ^ (52 - k)=Z at *;omega
 ·omega
theorem widenP_eq {g e m:Nat} (hg:g < 2) (he:e < 32) (hm:m < 1024) (h:e=31→m=0):Fl.widenP (g * 32768 + e * 1024 + m)=g * 9223372036854775808 + Fl.posH e m:=by
 have a1:(g * 32768 + e * 1024 + m) / 32768=g:=by omega
 have a2:(g * 32768 + e * 1024 + m) / 1024 % 32=e:=by omega
 have a3:(g * 32768 + e * 1024 + m) % 1024=m:=by omega
 have hn:Fl.nanH (g * 32768 + e * 1024 + m)=false:=by
  unfold Fl.nanH;rw [a2,a3];by_cases c:e=31
  ·rw [h c];simp
  ·simp [c]
 unfold Fl.widenP;rw [hn,if_neg (by decide)];unfold Fl.widenH Fl.posH
 dsimp only
 rw [a1,a2,a3];by_cases c:e=31
 ·rw [if_pos c,if_pos c,h c]
 ·rw [if_neg c,if_neg c]
  by_cases c0:e=0
  ·rw [if_pos c0,if_pos c0]
   by_cases cm:m=0
   ·rw [if_pos cm,if_pos cm];omega
   ·rw [if_neg cm,if_neg cm];omega
  ·rw [if_neg c0,if_neg c0];omega
theorem sub_norm {m:Nat} (h:m≠0) (hm:m < 1024):Nrm (m.log2 + 1023) (m * 2 ^ (52 - m.log2) - 4503599627370496) (floatOfInt .f64 (m:Int))∧Nrm (m.log2 + 999) (m * 2 ^ (52 - m.log2) - 4503599627370496) (Fl.posH 0 m):=by
 have hl:m.log2 < 10:=(Nat.log2_lt h).2 (by simpa using hm);obtain ⟨_,hb⟩:=Fl.log2_bd h;have hf:=float_small ⟨m,hm⟩ h;have hp:Fl.posH 0 m=(m.log2 + 999) * 4503599627370496 + (m * 2 ^ (52 - m.log2) - 4503599627370496):=by
  unfold Fl.posH;rw [if_neg (by omega),if_pos rfl,if_neg h]
 simp only at hf;rw [hf,hp];generalize m.log2=k at *;have:m * 2 ^ (52 - k) < 9007199254740992:=by
  have:(9007199254740992:Nat)=2 ^ (k + 1) * 2 ^ (52 - k):=by rw [← Nat.pow_add,show k + 1 + (52 - k)=53 from by omega]
  rw [this];exact Nat.mul_lt_mul_of_pos_right hb (Nat.two_pow_pos _)
 generalize m * 2 ^ (52 - k)=Z at *;exact ⟨⟨by omega,by omega,by omega,rfl⟩,⟨by omega,by omega,by omega,rfl⟩⟩
set_option maxHeartbeats 8000000 in
theorem wwiden_any (g e m:Nat) (N:Int) (hN:N=((g * 32768 + e * 1024 + m:Nat):Int)) (hg:g < 2) (he:e < 32) (hm:m < 1024) (w:World):Calls Tryd.prog 104 #[.int .u16 N] w fun e' w'=>e'=.returned (.int .u64 (Fl.widenP (g * 32768 + e * 1024 + m):Nat))∧w=w':=by
 obtain ⟨M,hM⟩:∃ M:Int,M=m:=⟨_,rfl⟩;obtain ⟨E,hE⟩:∃ E:Int,E=e:=⟨_,rfl⟩;obtain ⟨G,hG⟩:∃ G:Int,G=g:=⟨_,rfl⟩;have hb1:bits .and .u16 N 1023=M:=by
  rw [hN,hM];have:=Go.u16_and_nat (g * 32768 + e * 1024 + m) 1023 (by omega) (by omega);rw [show (1023:Nat)=2 ^ 10 - 1 from rfl,Nat.and_two_pow_sub_one_eq_mod] at this;rw [show (1023:Int)=((2 ^ 10 - 1:Nat):Int) from rfl,this];congr 1;omega
 have hb2:bits .and .u16 (N / 1024) 31=E:=by
  have h1:N / 1024=((g * 32 + e:Nat):Int):=by omega
  rw [h1,hE];have:=Go.u16_and_nat (g * 32 + e) 31 (by omega) (by omega);rw [show (31:Nat)=2 ^ 5 - 1 from rfl,Nat.and_two_pow_sub_one_eq_mod] at this;rw [show (31:Int)=((2 ^ 5 - 1:Nat):Int) from rfl,this];congr 1;omega
 have hb3:N / 32768=G:=by omega
 have hwE:IntKind.i64.wrap E=E:=IntWalk.i64_in _ (by omega);by_cases hnan:e=31∧m≠0
 case pos=>
  have hres:Fl.widenP (g * 32768 + e * 1024 + m)=9221120237041090560:=by
   unfold Fl.widenP Fl.nanH;have a2:(g * 32768 + e * 1024 + m) / 1024 % 32=e:=by omega
   have a3:(g * 32768 + e * 1024 + m) % 1024=m:=by omega
   rw [a2,a3,if_pos (by simp [hnan.1,hnan.2])]
   rfl
  rw [hres];obtain rfl:E=31:=by omega
  have hcmp:=float_ne0 ⟨m,hm⟩ hnan.2;simp only at hcmp;rw [← hM] at hcmp;clear hN hM hE hG hnan hres hb3;go_enter Tryd.func104,Tryd.ntmps104
  go_wp2_with fail
  go_ret
  exact ⟨rfl,rfl⟩
 have hres:=widenP_eq hg he hm (fun h=>by omega);have hpl:=posH_lt he hm;rw [hres];have HS:=dh (sign_any hpl w);obtain ⟨R,hR⟩:∃ R:Int,R=((g * 9223372036854775808 + Fl.posH e m:Nat):Int):=⟨_,rfl⟩;rw [← hR];have HR:=dh hR;have X1:∀ z:Nat,(z:Int)=R→∀ W,(callFunc 90 #[.float .f64 z]).run Tryd.prog W=.ok (.value (.int .u64 R)) W:=fun z hz W=>x158 hz.symm W
 rcases (show g=0∨g=1 by omega) with rfl | rfl
 ·obtain rfl:G=0:=by omega
  have X1':=X1 (Fl.posH e m) (by have:=HR.out;omega);by_cases h31:e=31
  ·obtain rfl:E=31:=by omega
   obtain rfl:M=0:=by omega
   have hP:Fl.posH e m=9218868437227405312:=by unfold Fl.posH;rw [if_pos h31]
   have HC:=dh (inf_any w);have hcmp:=float_eq0;rw [hP] at HS X1';clear hP h31 HR;clear hN hM hE hG hg he hm hnan hres hpl hR X1;go_enter Tryd.func104,Tryd.ntmps104
   go_wp2_with (first | simp only [X1'] | (go_at_call 117;refine HC.out.mono ?_;rintro e' w' ⟨rfl,rfl⟩) | (go_at_call 119;refine HS.out.mono ?_;rintro e' w' ⟨rfl,rfl⟩))
   go_ret
   exact ⟨rfl,rfl⟩
  by_cases h0:e=0
  ·by_cases hm0:m=0
   ·obtain rfl:E=0:=by omega
    obtain rfl:M=0:=by omega
    have hP:Fl.posH e m=0:=by unfold Fl.posH;rw [if_neg h31,if_pos h0,if_pos hm0]
    have HC:=dh (Ldexp_zero (-24) w);have hF:floatOfInt .f64 0=0:=by kernel_rfl
    rw [hP] at HS X1';clear hP h31 h0 hm0 HR;clear hN hM hE hG hg he hm hnan hres hpl hR X1;go_enter Tryd.func104,Tryd.ntmps104
    go_wp2_with (first | simp only [X1'] | (simp only [hF];go_at_call 118;refine HC.out.mono ?_;rintro e' w' ⟨rfl,rfl⟩) | (go_at_call 118;refine HC.out.mono ?_;rintro e' w' ⟨rfl,rfl⟩) | (go_at_call 119;refine HS.out.mono ?_;rintro e' w' ⟨rfl,rfl⟩))
    go_ret
    exact ⟨rfl,rfl⟩
   ·obtain rfl:E=0:=by omega
    have hsn:=sub_norm hm0 hm;have HC:=dh (Ldexp_any hsn.1 hsn.2 (-24) (by omega) w);rw [← hM] at HC;rw [h0] at HS X1';clear hsn h31 h0 hm0 HR;clear hN hM hE hG hg he hm hnan hres hpl hR X1;go_enter Tryd.func104,Tryd.ntmps104
    go_wp2_with (first | simp only [X1'] | (go_at_call 118;refine HC.out.mono ?_;rintro e' w' ⟨rfl,rfl⟩) | (go_at_call 119;refine HS.out.mono ?_;rintro e' w' ⟨rfl,rfl⟩))
    go_ret
    exact ⟨rfl,rfl⟩
  have hE31:(E==31)=false:=(by simp;omega);have hE0:(E==0)=false:=(by simp;omega);have hP:Fl.posH e m=(e + 1008) * 4503599627370496 + m * 4398046511104:=by unfold Fl.posH;rw [if_neg h31,if_neg h0]
  have hfa:=float_add ⟨m,hm⟩;simp only at hfa;rw [← hM] at hfa;have X3:=fun W=>run_float_arith (P:=Tryd.prog) (w:=W) .add 146 .f64 _ _ _ hfa
  have hwk:IntKind.i64.wrap (E - 25)=E - 25:=IntWalk.i64_in _ (by omega);have HC:=dh (Ldexp_any (E:=1033) (F:=m * 4398046511104) (G:=e + 1008) ⟨by omega,by omega,by omega,rfl⟩ ⟨by omega,by omega,by omega,hP⟩ (E - 25) (by omega) w);clear hP h31 h0 HR hfa;clear hN hM hE hG hg he hm hnan hres hpl hR X1;go_enter Tryd.func104,Tryd.ntmps104
  go_wp2_with (first | simp only [X1'] | simp only [X3] | (go_at_call 118;refine HC.out.mono ?_;rintro e' w' ⟨rfl,rfl⟩) | (go_at_call 119;refine HS.out.mono ?_;rintro e' w' ⟨rfl,rfl⟩))
  go_ret
  exact ⟨rfl,rfl⟩
 ·obtain rfl:G=1:=by omega
  have X1':=X1 (9223372036854775808 + Fl.posH e m) (by have:=HR.out;omega);by_cases h31:e=31
  ·obtain rfl:E=31:=by omega
   obtain rfl:M=0:=by omega
   have hP:Fl.posH e m=9218868437227405312:=by unfold Fl.posH;rw [if_pos h31]
   have HC:=dh (inf_any w);have hcmp:=float_eq0;rw [hP] at HS X1';clear hP h31 HR;clear hN hM hE hG hg he hm hnan hres hpl hR X1;go_enter Tryd.func104,Tryd.ntmps104
   go_wp2_with (first | simp only [X1'] | (go_at_call 117;refine HC.out.mono ?_;rintro e' w' ⟨rfl,rfl⟩) | (go_at_call 119;refine HS.out.mono ?_;rintro e' w' ⟨rfl,rfl⟩))
   go_ret
   exact ⟨rfl,rfl⟩
  by_cases h0:e=0
  ·by_cases hm0:m=0
   ·obtain rfl:E=0:=by omega
    obtain rfl:M=0:=by omega
    have hP:Fl.posH e m=0:=by unfold Fl.posH;rw [if_neg h31,if_pos h0,if_pos hm0]
    have HC:=dh (Ldexp_zero (-24) w);have hF:floatOfInt .f64 0=0:=by kernel_rfl
    rw [hP] at HS X1';clear hP h31 h0 hm0 HR;clear hN hM hE hG hg he hm hnan hres hpl hR X1;go_enter Tryd.func104,Tryd.ntmps104
    go_wp2_with (first | simp only [X1'] | (simp only [hF];go_at_call 118;refine HC.out.mono ?_;rintro e' w' ⟨rfl,rfl⟩) | (go_at_call 118;refine HC.out.mono ?_;rintro e' w' ⟨rfl,rfl⟩) | (go_at_call 119;refine HS.out.mono ?_;rintro e' w' ⟨rfl,rfl⟩))
    go_ret
    exact ⟨rfl,rfl⟩
   ·obtain rfl:E=0:=by omega
    have hsn:=sub_norm hm0 hm;have HC:=dh (Ldexp_any hsn.1 hsn.2 (-24) (by omega) w);rw [← hM] at HC;rw [h0] at HS X1';clear hsn h31 h0 hm0 HR;clear hN hM hE hG hg he hm hnan hres hpl hR X1;go_enter Tryd.func104,Tryd.ntmps104
    go_wp2_with (first | simp only [X1'] | (go_at_call 118;refine HC.out.mono ?_;rintro e' w' ⟨rfl,rfl⟩) | (go_at_call 119;refine HS.out.mono ?_;rintro e' w' ⟨rfl,rfl⟩))
    go_ret
    exact ⟨rfl,rfl⟩
  have hE31:(E==31)=false:=(by simp;omega);have hE0:(E==0)=false:=(by simp;omega);have hP:Fl.posH e m=(e + 1008) * 4503599627370496 + m * 4398046511104:=by unfold Fl.posH;rw [if_neg h31,if_neg h0]
  have hfa:=float_add ⟨m,hm⟩;simp only at hfa;rw [← hM] at hfa;have X3:=fun W=>run_float_arith (P:=Tryd.prog) (w:=W) .add 146 .f64 _ _ _ hfa
  have hwk:IntKind.i64.wrap (E - 25)=E - 25:=IntWalk.i64_in _ (by omega);have HC:=dh (Ldexp_any (E:=1033) (F:=m * 4398046511104) (G:=e + 1008) ⟨by omega,by omega,by omega,rfl⟩ ⟨by omega,by omega,by omega,hP⟩ (E - 25) (by omega) w);clear hP h31 h0 HR hfa;clear hN hM hE hG hg he hm hnan hres hpl hR X1;go_enter Tryd.func104,Tryd.ntmps104
  go_wp2_with (first | simp only [X1'] | simp only [X3] | (go_at_call 118;refine HC.out.mono ?_;rintro e' w' ⟨rfl,rfl⟩) | (go_at_call 119;refine HS.out.mono ?_;rintro e' w' ⟨rfl,rfl⟩))
  go_ret
  exact ⟨rfl,rfl⟩
end Go.Proofs.YtelefkkkccilaaaDoor
namespace Go.Proofs.YtelefkkkccilaaaDoor
open Am Go.RowKit
set_option maxRecDepth 100000
theorem ord_nan (V:Nat) (hV:V < 18446744073709551616):(FloatKind.f64.format.order V V !=some Ordering.eq)=Fl.isNaN V:=by
 show (Ieee.double.order V V !=some Ordering.eq)=Fl.isNaN V
 cases h:Fl.isNaN V with
 | true=>rw [order_nan hV h];rfl
 | false=>rw [order_self hV h];rfl
theorem valP_ok {lw n:Nat} (hn:n < 18446744073709551616) (h5:lw=25→n < 65536) (h6:lw=26→n < 4294967296):valP lw n < 18446744073709551616∧(Fl.isNaN (valP lw n)=false∨valP lw n=Fl.nan):=by
 have hN:Fl.nan < 18446744073709551616:=by decide
 unfold valP
 split
 ·rename_i h
  split
  ·exact ⟨hN,.inr rfl⟩
  ·rename_i h2
   have:=Fl.widenH_narrow (h5 h) (by simpa using h2);exact ⟨this.2.1,.inl this.2.2⟩
 ·split
  ·rename_i h
   split
   ·exact ⟨hN,.inr rfl⟩
   ·rename_i h2
    have:=Fl.widenS_narrow (h6 h) (by simpa using h2);exact ⟨this.2.1,.inl this.2.2⟩
  ·split
   ·exact ⟨hN,.inr rfl⟩
   ·rename_i h2
    exact ⟨hn,.inl (by simpa using h2)⟩
theorem flt_valid {n:Nat} (hn:n < 18446744073709551616) (h:Fl.isNaN n=false∨n=Fl.nan):It.valid (.mk 8 n [] [])=true:=by
 have hw:It.wf 8 (.mk 8 n [] [])=true:=by
  unfold It.wf;rcases h with h | rfl
  ·simp [hn,h]
  ·simp;decide
 unfold It.valid;have h1:=It.enc_le 8 n [] [];rw [hw,show It.nodes (.mk 8 n [] [])=1 from rfl,decide_eq_true (show (1:Nat)≤256 by omega),decide_eq_true]
 ·rfl
 ·simp [It.encs] at h1;omega
theorem wid_c (X:Ev) (n:Nat) (hn:n < 65536):AC Tryd.prog X 104 [.v (.int .u16 (n:Int))] [] fun r rows=>r=uv (valP 25 n)∧rows=[]:=by
 have e:n / 32768 * 32768 + n / 1024 % 32 * 1024 + n % 1024=n:=by omega
 have hv:valP 25 n=Fl.widenP n:=by unfold valP Fl.widenP;rw [if_pos rfl]
 rw [hv];refine AC.pure1 (v:=.int .u64 ((Fl.widenP n:Nat):Int)) [.int .u16 (n:Int)] Tryd.call104 fun w=>?_
 have h:=wwiden_any (n / 32768) (n / 1024 % 32) (n % 1024) (n:Int) (by rw [e]) (by omega) (by omega) (by omega) w;rw [e] at h;exact h
theorem x164_c (X:Ev) (n:Nat):AC Tryd.prog X 96 [.v (.int .u32 (n:Int))] [] fun r rows=>r=.v (.float .f32 n)∧rows=[]:=AC.ext [.int .u32 (n:Int)] fun w=>x164 rfl w
theorem x158_c (X:Ev) (n:Nat):AC Tryd.prog X 90 [.v (.float .f64 n)] [] fun r rows=>r=uv n∧rows=[]:=AC.ext [.float .f64 n] fun w=>x158 rfl w
theorem x157_c (X:Ev) (n:Nat):AC Tryd.prog X 89 [uv n] [] fun r rows=>r=.v (.float .f64 n)∧rows=[]:=AC.ext [.int .u64 (n:Int)] fun w=>x157 rfl w
theorem Am.AC.args {P:Program} {X:Ev} {f:FuncId} {args args':List SV} {rows:List Row} {C:SV→List Row→Prop} (h:AC P X f args rows C) (ha:∀ g w vals,agL g w args' vals→agL g w args vals):AC P X f args' rows C:=
 ⟨fun g w vals nx a b c d e i j=>h.out g w vals nx a b c d (ha _ _ _ e) i j⟩
theorem Am.AC.itn {P:Program} {X:Ev} {f:FuncId} {x:It} {s:SV} {C:SV→List Row→Prop} (h:AC P X f [itS x] [] C) (hs:itN x s):AC P X f [s] [] C:=
 h.args fun g w vals ha=>by
  match vals,ha with
  | [v],ha=>exact ⟨hs.holds ha.1,trivial⟩
theorem itN.flat (k:Int) (n:Nat):itN (.mk k n [] []) (.agg [iv k,uv n,.v (.slice none 0 0),.v (.slice none 0 0)]):=⟨_,_,rfl,.inr ⟨rfl,rfl,rfl⟩,.inr ⟨rfl,rfl,rfl⟩⟩
set_option maxHeartbeats 4000000 in
theorem sev_c (b:List UInt8):SevK b:=by
 intro s ver p it lo bt lw n hlw hn hnum;obtain ⟨V,hV⟩:∃ V,V=valP lw n:=⟨_,rfl⟩;refine AC.weak (C:=fun r rows=>itN (sevX lw n) r∧rows=[RR ver b p it (lo || loose7 lw n) bt]) ?_ ?_
 ·refine AC.bodyW false Tryd.func78 rfl Tryd.call78 Tryd.ntmps78 (by simp) fun e nx=>?_
  go_simp
  refine sqc ?_;go_simp;refine sqc ?_;go_simp;refine ct (α:=Nat × Nat) (fun y=>25≤lw∧y.2 < 18446744073709551616∧(if Fl.isNaN y.2 then Fl.nan else y.2)=valP lw n) (fun y=>⟨[(0,.ptr 1000 ver 0),(3,.ptr 3 nx 0),(4,.ptr 4 (nx + 1) 0),(5,.ptr 5 (nx + 1 + 1) 0)],[(1000,RR ver b p it (lo || (lw==25 && valP 25 n==Fl.nan && n !=32256)) bt),(3,⟨nx,125,4,[y8 7,y8 lw,uv n,iv (zsP lw)]⟩),(4,⟨nx + 1,31,4,[iv 0,uv 0,.v (.slice none 0 0),.v (.slice none 0 0)]⟩),(5,⟨nx + 1 + 1,31,4,[iv 8,uv y.2,.v (.slice none 0 0),.v (.slice none 0 0)]⟩)],y.1,[],67⟩) [] (gw ?_) ?_
  ·rcases (show lw < 25∨lw=25∨lw=26∨lw=27 by omega) with h | rfl | rfl | rfl
   ·have hs:sevX lw n=.mk 7 n [] []:=if_neg (by omega)
    have hl:loose7 lw n=false:=by unfold loose7;rw [decide_eq_false (by omega)];rfl
    have HS:=dh (And.intro hs hl);clear hs hl hnum;have e1:¬ (lw:Int)=25:=by omega
    have e2:¬ (lw:Int)=26:=by omega
    have e3:¬ (lw:Int)=27:=by omega
    go_simp
    rw [HS.out.1,HS.out.2];exact ⟨⟨_,_,rfl,.inr ⟨rfl,rfl,rfl⟩,.inr ⟨rfl,rfl,rfl⟩⟩,by simp⟩
   ·have h5:n < 65536:=by simpa using hnum (by omega)
    clear hnum;go_simp;go_bits
    refine cl [] [] (wid_c XU n h5) (by go_simp) ?_;rintro r rows ⟨rfl,rfl⟩;go_simp
    have hV:valP 25 n < 18446744073709551616∧(Fl.isNaN (valP 25 n)=false∨valP 25 n=Fl.nan):=valP_ok hn (fun _=>h5) (fun h=>by omega);have hW:(if Fl.isNaN (valP 25 n) then Fl.nan else valP 25 n)=valP 25 n:=by
     rcases hV.2 with h | h
     ·rw [h,if_neg Bool.false_ne_true]
     ·rw [h,ite_self]
    have HV:=dh (And.intro hV.1 hW);clear hV hW;generalize valP 25 n=N at *;have hnan:(N==Fl.nan)=decide (N=9221120237041090560):=by rw [show Fl.nan=9221120237041090560 from rfl];by_cases h:N=9221120237041090560 <;> simp [h]
    have hne:(n !=32256)= !decide (n=32256):=by by_cases h:n=32256 <;> simp [h]
    rw [hnan,hne];clear hnan hne;cases lo with
    | true=>
      go_simp
      exact ⟨_,N,⟨HV.out.1,HV.out.2⟩,Nat.le_refl _,rfl⟩
    | false=>
      go_simp
      have HV1:=HV.out.1;have HV2:=dh HV.out.2;clear HV;refine gdd (fun h=>?_) (fun h=>?_)
      ·obtain rfl:N=9221120237041090560:=by omega
       go_simp
       exact ⟨_,9221120237041090560,⟨HV1,HV2.out⟩,Nat.le_refl _,by omega,rfl⟩
      ·have h':¬ N=9221120237041090560:=by omega
       go_simp
       exact ⟨_,N,⟨HV1,HV2.out⟩,Nat.le_refl _,rfl⟩
   ·have h6:n < 4294967296:=by simpa using hnum (by omega)
    clear hnum;go_simp;go_bits
    refine cl [] [] (x164_c XU n) (by go_simp) ?_;rintro r rows ⟨rfl,rfl⟩;go_simp
    refine cvf (fun v=>∃ q,v=.float .f64 q∧q < 18446744073709551616∧(Fl.nanS n=false→q=Fl.widenS n)∧(Fl.nanS n=true→Fl.isNaN q=true)) (by go_simp) (fun W=>?_) ?_
    ·obtain ⟨q,W',h1,h2,h3,h4,h5⟩:=conv_back h6 W
     exact ⟨_,W',h1,h2,q,rfl,h3,fun h=>(h4 h).1,h5⟩
    rintro v ⟨q,rfl,hq1,hq2,hq3⟩;go_simp
    refine cl [] [] (x158_c XU q) (by go_simp) ?_;rintro r rows ⟨rfl,rfl⟩;go_simp
    refine ⟨_,q,⟨hq1,?_⟩,Nat.le_refl _,rfl⟩;have e26:valP 26 n=if Fl.nanS n then Fl.nan else Fl.widenS n:=by unfold valP;rw [if_neg (by decide),if_pos rfl]
    rw [e26];cases hs:Fl.nanS n with
    | true=>rw [hq3 hs,if_pos rfl,if_pos rfl]
    | false=>rw [hq2 hs,(Fl.widenS_narrow h6 hs).2.2]
   ·clear hnum
    go_simp
    exact ⟨_,n,⟨hn,by simp [valP]⟩,Nat.le_refl _,rfl⟩
  ·rintro ⟨u,N⟩ ⟨h25,hN,hval⟩
   replace hN:N < 18446744073709551616:=hN
   replace hval:(if Fl.isNaN N then Fl.nan else N)=valP lw n:=hval
   have hVo:=valP_ok (lw:=lw) hn (fun h=>by subst h;simpa using hnum (by omega)) (fun h=>by subst h;simpa using hnum (by omega));refine gw ?_;go_simp
   refine cl [] [] (x157_c XU N) (by go_simp) ?_;rintro r rows ⟨rfl,rfl⟩;go_simp
   rw [ord_nan N hN];have hsX:sevX lw n=.mk 8 (valP lw n) [] []:=if_pos h25;have hlo:loose7 lw n=((lw==25 && valP 25 n==Fl.nan && n !=32256) || (It.flt (valP lw n)).length !=zsP lw):=by unfold loose7;rw [decide_eq_true h25,Bool.true_and]
   have hsz:=size_c (.mk 8 (valP lw n) [] []) ⟨hVo.1,trivial⟩ (flt_valid hVo.1 hVo.2);rw [show It.enc (.mk 8 (valP lw n) [] [])=It.flt (valP lw n) by unfold It.enc;rfl] at hsz;rw [hsX,hlo];clear hsX hlo hnum hVo;generalize (lw==25 && valP 25 n==Fl.nan && n !=32256)=L at *;refine ifk (fun h=>?_) (fun h=>?_)
   ·have hV:valP lw n=9221120237041090560:=by rw [← hval,h,if_pos rfl];rfl
    rw [hV] at hsz ⊢;clear hval hV h;generalize (It.flt 9221120237041090560).length=z at *;go_simp
    refine rgp [0,2,3,1,4] hmx (by kernel_rfl) ?_;go_simp
    refine cl [] [] (hsz.itn (itN.flat _ _)) (by go_simp) ?_;rintro r rows ⟨rfl,rfl⟩;go_simp
    refine ifn (fun h=>?_) (fun h=>?_)
    ·have hz:(z !=zsP lw)=true:=by simp;omega
     rw [hz];clear hz hsz;go_simp
     exact itN.flat _ _
    ·have hz:(z !=zsP lw)=false:=by simp;omega
     rw [hz];clear hz hsz;go_simp
     exact itN.flat _ _
   ·have hV:valP lw n=N:=by rw [← hval,h,if_neg Bool.false_ne_true]
    rw [hV] at hsz ⊢;clear hval hV h;generalize (It.flt N).length=z at *;go_simp
    refine rgp [0,2,3,1,4] hmx (by kernel_rfl) ?_;go_simp
    refine cl [] [] (hsz.itn (itN.flat _ _)) (by go_simp) ?_;rintro r rows ⟨rfl,rfl⟩;go_simp
    refine ifn (fun h=>?_) (fun h=>?_)
    ·have hz:(z !=zsP lw)=true:=by simp;omega
     rw [hz];clear hz hsz;go_simp
     exact itN.flat _ _
    ·have hz:(z !=zsP lw)=false:=by simp;omega
     rw [hz];clear hz hsz;go_simp
     exact itN.flat _ _
 ·rintro r rows ⟨h,rfl⟩
  refine ⟨_,⟨rfl,rfl⟩,fun g w v nx hv=>?_⟩;rw [show ren 0 nx r=r by obtain ⟨B,K,rfl,_⟩:=h;rfl] at hv;exact h.holds hv
def nts (L:List Int):List SV:=L.map fun x=>.v (.int .i64 x)
section
variable (L:List Int) (n i:Nat)
@[go_sem] theorem nts_len:(nts L).length=L.length:=by simp [nts]
@[go_sem] theorem nts_cv (H):(nts L).map (cv H (n + 1))=nts L:=by simp [nts,cv]
@[go_sem] theorem nts_sub (h:i < L.length):sub (nts L) i 1=[.v (.int .i64 L[i])]:=by
 unfold sub nts;rw [Nat.mul_one,List.drop_eq_getElem_cons (by simpa using h)];simp
end
abbrev DK (ver:Nat) (L:List Int) (a:Nat):Row:=⟨ver,68,2,[.sl L.length 1 (nts L),iv a]⟩
def NxC (ver:Nat) (L:List Int) (n:Nat) (r:SV) (rows:List Row):Prop:=∃ k a':Nat,k < n∧a'≤L.length∧r=iv k∧rows=[DK ver L a']
section
variable {X:Ev}
theorem new_c (L:List Int):AC Tryd.prog X 14 [.sl L.length 1 (nts L)] [] fun r rows=>r=.ptr 2000 0 0∧rows=[DK 0 L 0]:=by
 refine AC.bodyW true Tryd.func14 rfl Tryd.call14 Tryd.ntmps14 (by simp) fun e nx=>gw ?_
 go_simp
theorem mod_c (a n:Int) (hn:1≤n) (hn':n≤9223372036854775807):AC Tryd.prog X 6 [iv a,iv n] [] fun r rows=>r=iv (a % n)∧rows=[]:=
 AC.pure1 [.int .i64 a,.int .i64 n] Tryd.call6 fun w=>mod_any a n w hn hn'
theorem next_c (s ver:Nat) (L:List Int) (a n:Nat) (hL:L.length≤9223372036854775807) (ha:a≤L.length) (hn:1≤n) (hn':n≤9223372036854775807):AC Tryd.prog X 30 [.ptr s ver 0,iv n] [DK ver L a] (NxC ver L n):=by
 refine AC.bodyW false Tryd.func30 rfl Tryd.call30 Tryd.ntmps30 (by simp) fun e nx=>gw ?_
 go_simp
 refine rg hmx (by kernel_rfl) ?_;go_simp
 refine ifd (fun h=>?_) (fun h=>?_) <;> go_simp
 ·exact ⟨0,a,by omega,ha,rfl,rfl⟩
 ·have hal:a < L.length:=by omega
  go_bits
  refine rg hmx (by kernel_rfl) ?_;go_simp;go_bits
  rw [nts_sub L a hal];go_simp
  refine cl [] [] (mod_c (X:=X) L[a] n (by omega) (by omega)) (by go_simp) ?_;rintro r rows ⟨rfl,rfl⟩;go_simp
  have h1:=Int.emod_nonneg L[a] (show (n:Int)≠0 by omega);have h2:=Int.emod_lt_of_pos L[a] (show (0:Int) < n by omega);exact ⟨(L[a] % n).toNat,a + 1,by omega,by omega,by rw [Int.toNat_of_nonneg h1],rfl⟩
def NumC (ver:Nat) (L:List Int) (r:SV) (rows:List Row):Prop:=∃ k a':Nat,k < 18446744073709551616∧a'≤L.length∧r=uv k∧rows=[DK ver L a']
def BytC (ver:Nat) (L:List Int) (n:Nat) (r:SV) (rows:List Row):Prop:=∃ (l:List UInt8) (a':Nat),l.length≤n∧a'≤L.length∧r=bsl l∧rows=[DK ver L a']
theorem num_c (s ver:Nat) (L:List Int) (a:Nat) (hL:L.length≤9223372036854775807) (ha:a≤L.length):AC Tryd.prog X 31 [.ptr s ver 0] [DK ver L a] (NumC ver L):=by
 refine AC.bodyW false Tryd.func31 rfl Tryd.call31 Tryd.ntmps31 (by simp) fun e nx=>?_
 go_simp
 refine sqc ?_;go_simp;refine sqc ?_;go_simp;refine cl [] [1000] (next_c 1000 ver L a 6 hL ha (by omega) (by omega)) (by go_simp) ?_;rintro r rows ⟨k,a1,hk,ha1,rfl,rfl⟩;go_simp
 refine ifd (fun h=>?_) (fun h=>?_) <;> go_simp
 ·refine cl [] [1000] (next_c 1000 ver L a1 9 hL ha1 (by omega) (by omega)) (by go_simp) ?_
  rintro r rows ⟨j,a2,hj,ha2,rfl,rfl⟩;rcases (show j=0∨j=1∨j=2∨j=3∨j=4∨j=5∨j=6∨j=7∨j=8 by omega) with rfl | rfl | rfl | rfl | rfl | rfl | rfl | rfl | rfl
  all_goals go_simp
  ·exact ⟨23,a2,by omega,ha2,rfl,rfl⟩
  ·exact ⟨24,a2,by omega,ha2,rfl,rfl⟩
  ·exact ⟨255,a2,by omega,ha2,rfl,rfl⟩
  ·exact ⟨256,a2,by omega,ha2,rfl,rfl⟩
  ·exact ⟨65535,a2,by omega,ha2,rfl,rfl⟩
  ·exact ⟨65536,a2,by omega,ha2,rfl,rfl⟩
  ·exact ⟨4294967295,a2,by omega,ha2,rfl,rfl⟩
  ·exact ⟨4294967296,a2,by omega,ha2,rfl,rfl⟩
  ·exact ⟨18446744073709551615,a2,by omega,ha2,rfl,rfl⟩
 ·refine ifd (fun h=>?_) (fun h=>?_) <;> go_simp
  ·refine cl [] [1000] (next_c 1000 ver L a1 1073741824 hL ha1 (by omega) (by omega)) (by go_simp) ?_
   rintro r rows ⟨j,a2,hj,ha2,rfl,rfl⟩;go_simp;go_bits
   exact ⟨j,a2,by omega,ha2,rfl,rfl⟩
  ·refine gw ?_;go_simp
   refine cl [] [1000] (next_c 1000 ver L a1 30 hL ha1 (by omega) (by omega)) (by go_simp) ?_;rintro r rows ⟨j,a2,hj,ha2,rfl,rfl⟩;go_simp;go_bits
   exact ⟨j,a2,by omega,ha2,rfl,rfl⟩
theorem bytes_c (s ver:Nat) (L:List Int) (a n:Nat) (hL:L.length≤9223372036854775807) (ha:a≤L.length) (hn:n≤1000):AC Tryd.prog X 33 [.ptr s ver 0,iv n] [DK ver L a] (BytC ver L n):=by
 refine AC.bodyW false Tryd.func33 rfl Tryd.call33 Tryd.ntmps33 (by simp) fun e nx=>?_
 go_simp
 refine sqc ?_;go_simp;refine sqc ?_;go_simp;refine sqc ?_;go_simp;go_bits;refine cl [] [1000] (next_c 1000 ver L a (n + 1) hL ha (by omega) (by omega)) (by go_simp) ?_;rintro r rows ⟨k,a1,hk,ha1,rfl,rfl⟩;go_simp
 refine lp (α:=Nat × Nat × List UInt8 × Nat × Nat) (fun x=>x.2.1≤L.length∧x.2.2.1.length + x.2.2.2.1≤k) (fun x=>⟨[(0,.ptr 1000 ver 0),(5,.own 900 x.2.2.2.2 x.2.2.1.length 1),(6,iv x.2.2.2.1)],[(1000,DK ver L x.2.1),(900,⟨x.2.2.2.2,5,1,bys x.2.2.1⟩)],x.1,[],22⟩) (fun x=>x.2.2.2.1) [(5,900,5,1)] [] (nx + 1,a1,[],k,nx) ?_ ?_
 ·dsimp only
  go_simp
 ·rintro ⟨u,a2,l,j,v⟩ ⟨ha2,hlj⟩
  replace ha2:a2≤L.length:=ha2
  replace hlj:l.length + j≤k:=hlj
  dsimp only
  refine gw ?_;go_simp
  refine ifd (fun h=>?_) (fun h=>?_) <;> go_simp
  ·refine cl [] [1000] (next_c 1000 ver L a2 256 hL ha2 (by omega) (by omega)) (by go_simp) ?_
   rintro r rows ⟨m,a3,hm,ha3,rfl,rfl⟩;go_simp;go_bits
   exact ⟨⟨by rw [show Tryd.t5.bytes=1 from rfl];omega,by omega⟩,_,a3,l ++ [UInt8.ofNat m],j - 1,⟨ha3,by rw [List.length_append];simp;omega⟩,by omega,Nat.le_refl _,_,⟨⟨rfl,by simp⟩,by omega⟩,rfl,rfl,by rw [by1 m _ rfl hm,bys_app]⟩
  ·refine gw ?_;go_simp
   exact ⟨l,a2,by omega,ha2,rfl,rfl⟩
end
theorem str_app (l m:List UInt8):(⟨l.toArray⟩:ByteArray) ++ (⟨m.toArray⟩:ByteArray)=⟨(l ++ m).toArray⟩:=by
 apply ByteArray.ext
 simp
def TxtC (ver:Nat) (L:List Int) (n:Nat) (r:SV) (rows:List Row):Prop:=∃ (ps:List Nat) (a':Nat),ps.length≤n∧a'≤L.length∧r=.v (.string ⟨(ps.flatMap piece).toArray⟩)∧rows=[DK ver L a']
section
variable {X:Ev}
theorem dtext_c (s ver:Nat) (L:List Int) (a n:Nat) (hL:L.length≤9223372036854775807) (ha:a≤L.length) (hn:n≤1000):AC Tryd.prog X 35 [.ptr s ver 0,iv n] [DK ver L a] (TxtC ver L n):=by
 refine AC.bodyW false Tryd.func35 rfl Tryd.call35 Tryd.ntmps35 (by simp) fun e nx=>?_
 go_simp
 refine sqc ?_;go_simp;refine sqc ?_;go_simp;refine sqc ?_;go_simp;go_bits;refine cl [] [1000] (next_c 1000 ver L a (n + 1) hL ha (by omega) (by omega)) (by go_simp) ?_;rintro r rows ⟨k,a1,hk,ha1,rfl,rfl⟩;go_simp
 refine lp (α:=Nat × Nat × List Nat × Nat) (fun x=>x.2.1≤L.length∧x.2.2.1.length + x.2.2.2≤k) (fun x=>⟨[(0,.ptr 1000 ver 0),(5,.v (.string ⟨(x.2.2.1.flatMap piece).toArray⟩)),(6,iv x.2.2.2)],[(1000,DK ver L x.2.1)],x.1,[],23⟩) (fun x=>x.2.2.2) [] [] (nx + 1,a1,[],k) ?_ ?_
 ·dsimp only
  go_simp
 ·rintro ⟨u,a2,ps,j⟩ ⟨ha2,hlj⟩
  replace ha2:a2≤L.length:=ha2
  replace hlj:ps.length + j≤k:=hlj
  dsimp only
  refine gw ?_;go_simp
  refine ifd (fun h=>?_) (fun h=>?_) <;> go_simp
  ·refine cl [] [1000] (next_c 1000 ver L a2 10 hL ha2 (by omega) (by omega)) (by go_simp) ?_
   rintro r rows ⟨m,a3,hm,ha3,rfl,rfl⟩;have hsz:=text_len ps;have hsz2:(⟨(ps.flatMap piece).toArray⟩:ByteArray).size≤3 * ps.length:=by simpa [ByteArray.size] using hsz
   have hpp:∀ m,((⟨(ps.flatMap piece).toArray⟩:ByteArray) ++ (⟨(piece m).toArray⟩:ByteArray))=⟨((ps ++ [m]).flatMap piece).toArray⟩:=fun m=>by rw [str_app];simp
   rcases (show m=0∨m=1∨m=2∨m=3∨m=4∨m=5∨m=6∨m=7∨m=8∨m=9 by omega) with rfl | rfl | rfl | rfl | rfl | rfl | rfl | rfl | rfl | rfl
   all_goals go_simp
   all_goals go_bits
   ·exact ⟨by have:(List.map (fun a=>(piece a).length) ps).sum≤3 * ps.length:=by simpa using hsz
              omega,_,a3,ps ++ [0],j - 1,⟨ha3,by rw [List.length_append];simp;omega⟩,by omega,Nat.le_refl _,⟨hpp 0,by omega⟩,rfl⟩
   ·exact ⟨by have:(List.map (fun a=>(piece a).length) ps).sum≤3 * ps.length:=by simpa using hsz
              omega,_,a3,ps ++ [1],j - 1,⟨ha3,by rw [List.length_append];simp;omega⟩,by omega,Nat.le_refl _,⟨hpp 1,by omega⟩,rfl⟩
   ·exact ⟨by have:(List.map (fun a=>(piece a).length) ps).sum≤3 * ps.length:=by simpa using hsz
              omega,_,a3,ps ++ [2],j - 1,⟨ha3,by rw [List.length_append];simp;omega⟩,by omega,Nat.le_refl _,⟨hpp 2,by omega⟩,rfl⟩
   ·exact ⟨by have:(List.map (fun a=>(piece a).length) ps).sum≤3 * ps.length:=by simpa using hsz
              omega,_,a3,ps ++ [3],j - 1,⟨ha3,by rw [List.length_append];simp;omega⟩,by omega,Nat.le_refl _,⟨hpp 3,by omega⟩,rfl⟩
   ·exact ⟨by have:(List.map (fun a=>(piece a).length) ps).sum≤3 * ps.length:=by simpa using hsz
              omega,_,a3,ps ++ [4],j - 1,⟨ha3,by rw [List.length_append];simp;omega⟩,by omega,Nat.le_refl _,⟨hpp 4,by omega⟩,rfl⟩
   ·exact ⟨by have:(List.map (fun a=>(piece a).length) ps).sum≤3 * ps.length:=by simpa using hsz
              omega,_,a3,ps ++ [5],j - 1,⟨ha3,by rw [List.length_append];simp;omega⟩,by omega,Nat.le_refl _,⟨hpp 5,by omega⟩,rfl⟩
   ·exact ⟨by have:(List.map (fun a=>(piece a).length) ps).sum≤3 * ps.length:=by simpa using hsz
              omega,_,a3,ps ++ [6],j - 1,⟨ha3,by rw [List.length_append];simp;omega⟩,by omega,Nat.le_refl _,⟨hpp 6,by omega⟩,rfl⟩
   ·exact ⟨by have:(List.map (fun a=>(piece a).length) ps).sum≤3 * ps.length:=by simpa using hsz
              omega,_,a3,ps ++ [7],j - 1,⟨ha3,by rw [List.length_append];simp;omega⟩,by omega,Nat.le_refl _,⟨hpp 7,by omega⟩,rfl⟩
   ·exact ⟨by have:(List.map (fun a=>(piece a).length) ps).sum≤3 * ps.length:=by simpa using hsz
              omega,_,a3,ps ++ [8],j - 1,⟨ha3,by rw [List.length_append];simp;omega⟩,by omega,Nat.le_refl _,⟨hpp 8,by omega⟩,rfl⟩
   ·exact ⟨by have:(List.map (fun a=>(piece a).length) ps).sum≤3 * ps.length:=by simpa using hsz
              omega,_,a3,ps ++ [9],j - 1,⟨ha3,by rw [List.length_append];simp;omega⟩,by omega,Nat.le_refl _,⟨hpp 9,by omega⟩,rfl⟩
  ·refine gw ?_;go_simp
   exact ⟨ps,a2,by omega,ha2,rfl,rfl⟩
end
theorem atL_app {g:Cx} {w:World}:∀ {cs ds:List SV} {b o:Nat},atL g w cs b o→atL g w ds b (o + cs.length)→atL g w (cs ++ ds) b o
 | [],_,_,_,_,h=>h
 | c :: cs,ds,b,o,h,k=>⟨h.1,atL_app h.2 (by rw [show o + 1 + cs.length=o + (cs.length + 1) by omega];exact k)⟩
theorem hb_of {ok:Nat→Prop} {g:Cx} {w:World} {a:Option Addr} {n c:Nat} {l:List UInt8} (h:BR ok w a n l) (hg:∀ b,ok b→b < w.heap.size→g.Z b) (hc:n≤c∧c≤9223372036854775807):holds g w (bsl l) (.slice a n c):=by
 obtain ⟨h1,h2⟩:=h;subst h1;refine ⟨a,c,rfl,hc,by rw [bys_len,Nat.mul_one],?_⟩;by_cases h0:l=[]
 ·subst h0;exact .inl rfl
 ·obtain ⟨b,o,ea,hb1,hb2,hat⟩:=bs_at (g:=g.pure) ⟨rfl,h2⟩ h0
  exact .inr ⟨b,o,ea,hg b hb1 hb2,hat⟩
mutual
theorem hi_ag {ok:Nat→Prop} {w:World}:∀ (x:It) (A:Ad) (g:Cx),(∀ b,ok b→b < w.heap.size→g.Z b)→IR ok w x A→agL g w (itC x) [.int .i64 x.kind,.int .u64 (x.num:Int),.slice A.ab A.nb A.cb,.slice A.ai A.ni A.ci]
 | .mk k n b ks,A,g,hg,h=>by
   unfold IR at h;unfold itC;refine ⟨rfl,rfl,hb_of h.2.1.1 hg h.2.1.2,⟨A.ai,A.ci,by rw [h.2.2.1.1],h.2.2.1.1 ▸ h.2.2.1.2,itL_len ks,?_⟩,trivial⟩;cases ks with
   | nil=>exact .inl rfl
   | cons y l=>
     obtain ⟨b,o,ea,hb,hlt,h4⟩:=hi_at (y :: l) A.ai 0 g.pure hg h.2.2.2 (by simp);rw [Nat.zero_mul,Nat.add_zero] at h4;exact .inr ⟨b,o,ea,hg b hb hlt,h4⟩
theorem hi_at {ok:Nat→Prop} {w:World}:∀ (l:List It) (a:Option Addr) (i:Nat) (g:Cx),(∀ b,ok b→b < w.heap.size→g.Z b)→KR ok w l a i→l≠[]→∃ b o,a=some ⟨b,o,none⟩∧ok b∧b < w.heap.size∧atL g w (itL l) b (o + i * 4)
 | [],_,_,_,_,_,h=>(h rfl).elim
 | x :: l,a,i,g,hg,h,_=>by
   unfold KR at h;obtain ⟨⟨b,o,A,rfl,hb,⟨c0,c1,c2,c3⟩,hI⟩,hl⟩:=h;have h1:=hi_ag x A g hg hI;have h2:atL g w (itC x) b (o + i * 4):=by
    refine atL.of h1 fun j v hj=>?_
    match j,hj with
    | 0,hj=>cases hj;exact c0
    | 1,hj=>cases hj;exact c1
    | 2,hj=>cases hj;exact c2
    | 3,hj=>cases hj;exact c3
   refine ⟨b,o,rfl,hb,cell_lt c0,?_⟩
   show atL g w (itC x ++ itL l) b (o + i * 4)
   refine atL_app h2 ?_;rw [itC_len];by_cases h0:l=[]
   ·subst h0;trivial
   ·obtain ⟨b',o',e,_,_,h4⟩:=hi_at l (some ⟨b,o,none⟩) (i + 1) g hg hl h0
    cases e
    rw [show o + i * 4 + 4=o + (i + 1) * 4 by omega];exact h4
end
theorem hi_of {ok:Nat→Prop} {w:World} {x:It} {A:Ad} {g:Cx} (hg:∀ b,ok b→b < w.heap.size→g.Z b) (h:IR ok w x A):holds g w (itS x) (v4 x A):=
 ⟨_,rfl,by rw [← itC_eq];exact hi_ag x A g hg h⟩
theorem AC.freshV {P:Program} {X:Ev} {f:FuncId} {C:SV→Prop} {args:List SV} (hgo:∀ vals w,(callFunc f vals).run P w=.ok (.enter f vals) w) (hc:∀ g w vals,X.E w→(∀ b,g.Z b→b < w.heap.size)→agL g w args vals→Calls P f vals.toArray w fun e w'=>∃ v r,e=.returned v∧C r∧(∀ g':Cx,(∀ b,w.heap.size≤b→b < w'.heap.size→g'.Z b)→∀ nx,holds g' w' (ren 0 nx r) v)∧Below w.heap.size w w'):AC P X f args [] fun r rows=>C r∧rows=[]:=
 ⟨fun g w vals nx hE hz hv hb ha hrow hap=>.inl ⟨hgo _ _,(hc g w vals hE hz ha).mono fun e w' ⟨v,r,he,hC,hh,hW⟩=>by
  exact ⟨v,r,[],⟨fun b=>g.Z b∨(w.heap.size≤b∧b < w'.heap.size),g.A,g.mu,g.ka⟩,he,⟨hC,rfl⟩,hh _ (fun b h1 h2=>Or.inr ⟨h1,h2⟩) nx,⟨fun b hb=>.inl hb,fun u hu=>⟨hu,rfl,rfl⟩⟩,fun b hb=>hb,.inl rfl,fun i r q h=>by simp at h,fun q hq=>by simp [rnR] at hq,fun u hu=>.inl hu,hW.size,fun b hb _=>hW.block b hb,⟨hW.os,hW.tape,hW.output⟩,X.st w w' hW.size hE fun b hb=>hW.block b (X.lt w b hE hb)⟩⟩⟩
section
variable {X:Ev}
theorem widenH_c (n:Nat) (hn:n < 65536):AC Tryd.prog X 59 [uv n,iv 5,iv 10] [] fun r rows=>r=uv (Fl.widenH n)∧rows=[]:=
 AC.pure1 [.int .u64 n,.int .i64 5,.int .i64 10] Tryd.call59 fun w=>widenH_any n _ rfl hn w
theorem widenS_c (n:Nat) (hn:n < 4294967296):AC Tryd.prog X 59 [uv n,iv 8,iv 23] [] fun r rows=>r=uv (Fl.widenS n)∧rows=[]:=
 AC.pure1 [.int .u64 n,.int .i64 8,.int .i64 23] Tryd.call59 fun w=>widenS_any n _ rfl hn w
theorem rtext_c (l:List UInt8) (hl:l.length≤1000000000):AC Tryd.prog X 34 [.v (.string ⟨l.toArray⟩)] [] fun r rows=>r=itS (.mk 3 0 l [])∧rows=[]:=
 AC.freshV Tryd.call34 fun g w vals hE hz ha=>by
  match vals,ha with
  | [v],ha=>
    have h0:v=.string ⟨l.toArray⟩:=ha.1;subst h0;exact (rtext_any l w hl).mono fun e w' ⟨A,he,hI,hB⟩=>⟨_,itS (.mk 3 0 l []),he,rfl,fun g' hg nx=>hi_of (fun b hb hl=>hg b hb hl) hI,hB⟩
theorem AC.wk1 {f:FuncId} {args:List SV} {rows:List Row} {x:It} {D:List Row→Prop} (h:AC Tryd.prog X f args rows fun r rs=>itN x r∧D rs):AC Tryd.prog X f args rows fun r rs=>r=itS x∧D rs:=
 h.weak fun r rs hr=>⟨itS x,⟨rfl,hr.2⟩,fun g w v nx hh=>by
  have h1:ren 0 nx r=r:=by
   have:=hr.1.ren nx;obtain ⟨B,K,rfl,_⟩:=hr.1;exact this
  rw [h1] at hh;exact hr.1.holds hh⟩
theorem AC.wkE {f:FuncId} {args:List SV} {rows:List Row} {D:It→List Row→Prop} (h:AC Tryd.prog X f args rows fun r rs=>∃ x,itN x r∧D x rs):AC Tryd.prog X f args rows fun r rs=>∃ x,r=itS x∧D x rs:=
 h.weak fun r rs ⟨x,h2,h3⟩=>⟨itS x,⟨x,rfl,h3⟩,fun g w v nx hh=>by
  have h1:ren 0 nx r=r:=by
   have:=h2.ren nx;obtain ⟨B,K,rfl,_⟩:=h2;exact this
  rw [h1] at hh;exact h2.holds hh⟩
theorem rbytes_c (l:List UInt8) (hl:l.length≤1000000000):AC Tryd.prog X 32 [bsl l] [] fun r rows=>r=itS (.mk 2 0 l [])∧rows=[]:=by
 refine AC.wk1 (D:=fun rs=>rs=[]) ?_;refine AC.bodyW false Tryd.func32 rfl Tryd.call32 Tryd.ntmps32 (by simp) fun e nx=>gw ?_
 go_simp
 exact ⟨⟨by rw [show Tryd.t5.bytes=1 from rfl];omega,by omega⟩,_,_,rfl,.inl rfl,.inr ⟨rfl,rfl,rfl⟩⟩
def WhC (x:It) (y:It):Prop:=y=x∧x.valid=true∨y=.mk 0 0 [] []
theorem dwhole_c (x:It) (V:AC Tryd.prog X 28 [itS x] [] fun r rows=>r=bov x.valid∧rows=[]):AC Tryd.prog X 36 [itS x] [] fun r rows=>∃ y,r=itS y∧WhC x y∧rows=[]:=by
 refine AC.wkE (D:=fun y rs=>WhC x y∧rs=[]) ?_;refine AC.bodyW false Tryd.func36 rfl Tryd.call36 Tryd.ntmps36 (by simp) fun e nx=>gw ?_
 go_simp
 refine cl [] [] V (by go_simp) ?_;rintro r rows ⟨rfl,rfl⟩;go_simp
 refine ifk (fun h=>?_) (fun h=>?_) <;> go_simp
 ·exact ⟨.mk 0 0 [] [],⟨_,_,rfl,.inr ⟨rfl,rfl,rfl⟩,.inr ⟨rfl,rfl,rfl⟩⟩,.inr rfl⟩
 ·exact ⟨x,⟨_,_,rfl,.inl rfl,.inl rfl⟩,.inl ⟨rfl,by simpa using h⟩⟩
end
theorem rvalid_c (x:It) (hf:x.fits):AC Tryd.prog XU 28 [itS x] [] fun r rows=>r=bov x.valid∧rows=[]:=
 AC.below Tryd.call28 fun g w vals hE ha=>by
  match vals,ha with
  | [v],ha=>
    obtain ⟨A,rfl,hI⟩:=ir_of hf ha.1;exact rva x A w _ hI hE _ rfl
theorem buildP_err {ps:List It} {n:Nat} (h:It.buildP ps=.err n):n≠0:=by
 unfold It.buildP at h
 split at h
 ·cases h;decide
 split at h
 ·cases h;decide
 split at h
 ·cases h;decide
 split at h
 ·cases h;decide
 ·cases h
theorem buildP_good {ps:List It} {x:It} (h:It.buildP ps=.ok x):It.valid x=true:=by
 unfold It.buildP at h
 split at h
 ·cases h
 split at h
 ·cases h
 split at h
 ·cases h
 split at h
 ·cases h
 ·rename_i h1
  cases h
  simpa using h1
def BuC (r:SV):Prop:=∃ (x:It) (n:Int),r=.tup [itS x,.v (.int .i64 n)]∧(n=0→x.valid=true)
theorem rbuild_c (l:List It) (hf:It.fitsL l) (hn:l.length≤1000):AC Tryd.prog XU 38 [isl l] [] fun r rows=>BuC r∧rows=[]:=
 AC.freshV Tryd.call38 fun g w vals hE hz ha=>by
  match vals,ha with
  | [v],ha=>
    obtain ⟨a,c,rfl,hc,hl,h⟩:=ha.1;have hT:TL g.Z w l a l.length:=by
     refine ⟨rfl,by omega,fun j hj=>?_⟩;rcases h with h | ⟨b,o,rfl,hb,h⟩
     ·rw [itL_len] at h;omega
     ·have h2:=(KR_iff l 0).1 (kr_at l (g:=g.pure) (i:=0) hf hb (by rwa [Nat.zero_mul,Nat.add_zero])) j hj
      rwa [Nat.zero_add] at h2
    refine (rbuild_any l a l.length c w _ hT hn hE).mono fun e w' h=>?_
    cases hb:It.buildP l with
    | err n=>
      rw [hb] at h;obtain ⟨he,hB⟩:=h;exact ⟨_,.tup [itS (.mk 0 0 [] []),.v (.int .i64 n)],he,⟨_,_,rfl,fun h=>(buildP_err hb (by omega)).elim⟩,fun g' hg nx=>⟨[_,_],rfl,⟨[_,_,_,_],rfl,rfl,rfl,⟨none,0,rfl,⟨Nat.le_refl _,by omega⟩,rfl,.inl rfl⟩,⟨none,0,rfl,⟨Nat.le_refl _,by omega⟩,rfl,.inl rfl⟩,trivial⟩,rfl,trivial⟩,hB⟩
    | ok x=>
      rw [hb] at h;obtain ⟨A,he,hI,hB⟩:=h;exact ⟨_,.tup [itS x,.v (.int .i64 0)],he,⟨_,_,rfl,fun _=>buildP_good hb⟩,fun g' hg nx=>⟨[_,_],rfl,hi_of (fun b hb hl=>hg b hb hl) hI,rfl,trivial⟩,hB⟩
def FltC (ver:Nat) (L:List Int) (r:SV) (rows:List Row):Prop:=∃ m a':Nat,(m < 18446744073709551616∧(Fl.isNaN m=false∨m=Fl.nan))∧a'≤L.length∧r=uv m∧rows=[DK ver L a']
section
variable {X:Ev}
set_option maxHeartbeats 4000000 in
theorem float93_c (s ver:Nat) (L:List Int) (a:Nat) (hL:L.length≤9223372036854775807) (ha:a≤L.length):AC Tryd.prog X 37 [.ptr s ver 0] [DK ver L a] (FltC ver L):=by
 refine AC.bodyW false Tryd.func37 rfl Tryd.call37 Tryd.ntmps37 (by simp) fun e nx=>?_
 go_simp
 refine sqc ?_;go_simp;refine sqc ?_;go_simp;refine cl [] [1000] (next_c 1000 ver L a 1073741824 hL ha (by omega) (by omega)) (by go_simp) ?_;rintro r rows ⟨n,a1,hn,ha1,rfl,rfl⟩;go_simp;go_bits
 refine sqc ?_;go_simp;refine cl [] [1000] (next_c 1000 ver L a1 5 hL ha1 (by omega) (by omega)) (by go_simp) ?_;rintro r rows ⟨q,a2,hq,ha2,rfl,rfl⟩;go_simp
 refine ifd (fun h=>?_) (fun h=>?_) <;> go_simp
 ·obtain ⟨v,hv,hvn,hve⟩:=half_bits n hn
  have E:orI .u64 (andI .u64 (n:Int) 31743) (andI .u64 ((n:Int).fdiv 16384) 32768)=(v:Int):=by
   rw [Int.fdiv_eq_ediv_of_nonneg _ (by omega)];exact hve
  rw [E];clear E hve;have hw:=Fl.widenH_narrow hv hvn;refine cl [] [] (widenH_c v hv) (by go_simp) ?_;rintro r rows ⟨rfl,rfl⟩;go_simp
  exact ⟨Fl.widenH v,a2,⟨hw.2.1,.inl hw.2.2⟩,ha2,rfl,rfl⟩
 refine ifd (fun h=>?_) (fun h=>?_) <;> go_simp
 ·obtain ⟨v,hv,hvn,hve⟩:=single_bits n hn
  have E:andI .u64 (n:Int) 2139095039=(v:Int):=hve;rw [E];clear E hve;have hw:=Fl.widenS_narrow hv hvn;refine cl [] [] (widenS_c v hv) (by go_simp) ?_;rintro r rows ⟨rfl,rfl⟩;go_simp
  exact ⟨Fl.widenS v,a2,⟨hw.2.1,.inl hw.2.2⟩,ha2,rfl,rfl⟩
 refine ifd (fun h=>?_) (fun h=>?_) <;> go_simp
 ·refine cl [] [1000] (next_c 1000 ver L a2 7 hL ha2 (by omega) (by omega)) (by go_simp) ?_
  rintro r rows ⟨k,a3,hk,ha3,rfl,rfl⟩;rcases (show k=0∨k=1∨k=2∨k=3∨k=4∨k=5∨k=6 by omega) with rfl | rfl | rfl | rfl | rfl | rfl | rfl
  all_goals go_simp
  ·exact ⟨9221120237041090560,a3,⟨by decide,.inr rfl⟩,ha3,rfl,rfl⟩
  ·exact ⟨9218868437227405312,a3,⟨by decide,.inl (by decide +kernel)⟩,ha3,rfl,rfl⟩
  ·exact ⟨18442240474082181120,a3,⟨by decide,.inl (by decide +kernel)⟩,ha3,rfl,rfl⟩
  ·exact ⟨9223372036854775808,a3,⟨by decide,.inl (by decide +kernel)⟩,ha3,rfl,rfl⟩
  ·exact ⟨0,a3,⟨by decide,.inl (by decide +kernel)⟩,ha3,rfl,rfl⟩
  ·exact ⟨1,a3,⟨by decide,.inl (by decide +kernel)⟩,ha3,rfl,rfl⟩
  ·exact ⟨4609434218613702656,a3,⟨by decide,.inl (by decide +kernel)⟩,ha3,rfl,rfl⟩
 ·refine gw ?_
  go_simp
  refine cl [] [1000] (next_c 1000 ver L a2 1073741824 hL ha2 (by omega) (by omega)) (by go_simp) ?_;rintro r rows ⟨k,a3,hk,ha3,rfl,rfl⟩;go_simp;go_bits
  obtain ⟨m,hm,hme⟩:=bits_lt 64 (A:=(n:Int) * 17179869184) (B:=(k:Int) * 16) (a:=n * 17179869184) (b:=k * 16) (by omega) (by omega) (by omega) (by omega) (by omega);have E:orI .u64 ((n:Int) * 17179869184) ((k:Int) * 16)=(m:Int):=hme;rw [E];clear E hme;refine cl [] [] (isnan_c m hm) (by go_simp) ?_;rintro r rows ⟨rfl,rfl⟩;go_simp
  refine ifk (fun h=>?_) (fun h=>?_) <;> go_simp
  ·exact ⟨Fl.nan,a3,⟨by decide,.inr rfl⟩,ha3,rfl,rfl⟩
  ·exact ⟨m,a3,⟨hm,.inl h⟩,ha3,rfl,rfl⟩
end
mutual
theorem It.wf_fits:∀ (x:It) (d:Nat),It.wf d x=true→x.fits
 | .mk k n b ks,d,h=>by
   unfold It.wf at h;rw [Bool.and_eq_true] at h;refine ⟨of_decide_eq_true h.1,?_⟩;have h:=h.2;cases ks with
   | nil=>trivial
   | cons y l=>
     repeat' split at h
     all_goals first
      | (rw [Bool.and_eq_true] at h;exact It.wfs_fits _ _ h.2)
      | (simp [List.isEmpty_cons] at h)
theorem It.wfs_fits:∀ (l:List It) (d:Nat),It.wfs d l=true→It.fitsL l
 | [],_,_=>trivial
 | x :: l,d,h=>by
   unfold It.wfs at h;rw [Bool.and_eq_true] at h;exact ⟨It.wf_fits x d h.1,It.wfs_fits l d h.2⟩
end
theorem It.fits_app:∀ {l:List It} {y:It},It.fitsL l→y.fits→It.fitsL (l ++ [y])
 | [],_,_,h=>⟨h,trivial⟩
 | x :: l,_,h,k=>⟨h.1,It.fits_app h.2 k⟩
theorem It.valid_fits {x:It} (h:x.valid=true):x.fits:=by
 unfold It.valid at h;rw [Bool.and_eq_true,Bool.and_eq_true] at h;exact It.wf_fits x 8 h.1.1
theorem flat_valid {k:Int} {n:Nat} {b:List UInt8} (h:It.wf 8 (.mk k n b [])=true) (hl:b.length≤4000):It.valid (.mk k n b [])=true:=by
 unfold It.valid;have h1:=It.enc_le k n b [];rw [h,show It.nodes (.mk k n b [])=1 from rfl,decide_eq_true (show (1:Nat)≤256 by omega),decide_eq_true]
 ·rfl
 ·simp [It.encs] at h1;omega
def ItmC (ver:Nat) (L:List Int) (r:SV) (rows:List Row):Prop:=∃ x,r=itS x∧(x.valid=true∧∃ a',a'≤L.length∧rows=[DK ver L a'])
def ItmD (d:Nat):Prop:=∀ (s ver:Nat) (L:List Int) (a:Nat),L.length≤9223372036854775807→a≤L.length→AC Tryd.prog XU 15 [.ptr s ver 0,iv d] [DK ver L a] (ItmC ver L)
set_option maxHeartbeats 8000000 in
theorem ditem_step (d:Nat) (hd:d≤1000) (ih:0 < d→ItmD (d - 1)):ItmD d:=by
 intro s ver L a hL ha;have IH:=dh ih;clear ih;refine AC.wkE (D:=fun x rs=>x.valid=true∧∃ a',a'≤L.length∧rs=[DK ver L a']) ?_;refine AC.bodyW false Tryd.func15 rfl Tryd.call15 Tryd.ntmps15 (by simp) fun e nx=>?_
 go_simp
 refine sqc ?_;go_simp;refine sqc ?_;go_simp;refine cl [] [1000] (next_c 1000 ver L a 9 hL ha (by omega) (by omega)) (by go_simp) ?_;rintro r rows ⟨k,a1,hk,ha1,rfl,rfl⟩;go_simp
 refine ct (α:=Nat) (fun k=>Hid (k < 9∧(d=0→k < 4∨7≤k))) (fun k=>⟨[(0,.ptr 1000 ver 0),(1,iv d),(4,.ptr 4 nx 0),(5,iv k)],[(1000,DK ver L a1),(4,⟨nx,31,4,[iv 0,uv 0,.v (.slice none 0 0),.v (.slice none 0 0)]⟩)],nx + 1,[],104⟩) [] (gw ?_) ?_
 ·go_simp
  refine gdd (fun h=>?_) (fun h=>?_) <;> go_simp
  ·refine gdd (fun h2=>?_) (fun h2=>?_) <;> go_simp
   ·refine ifd (fun h3=>?_) (fun h3=>?_) <;> go_simp
    ·exact ⟨0,dh (by omega),rfl⟩
    ·exact ⟨k,dh (by omega),rfl⟩
   ·exact ⟨k,dh (by omega),rfl⟩
  ·exact ⟨k,dh (by omega),rfl⟩
 ·rintro k hk
  replace hk:Hid (k < 9∧(d=0→k < 4∨7≤k)):=hk
  obtain ⟨hk9,hd0⟩:=hk.out;rcases (show k=0∨k=1∨k=2∨k=3∨k=6∨k=7∨k=8∨k=4∨k=5 by omega) with rfl | rfl | rfl | rfl | rfl | rfl | rfl | h45
  all_goals clear hk hk9
  ·refine sqc ?_;go_simp
   refine sqc ?_;go_simp;refine cl [] [1000] (num_c 1000 ver L a1 hL ha1) (by go_simp) ?_;rintro r rows ⟨m,a2,hm,ha2,rfl,rfl⟩;go_simp
   exact ⟨.mk 0 m [] [],itN.flat 0 m,flat_valid (by unfold It.wf;simp [hm]) (by simp),a2,ha2,rfl⟩
  ·refine sqc ?_;go_simp
   refine sqc ?_;go_simp;refine cl [] [1000] (num_c 1000 ver L a1 hL ha1) (by go_simp) ?_;rintro r rows ⟨m,a2,hm,ha2,rfl,rfl⟩;go_simp
   exact ⟨.mk 1 m [] [],itN.flat 1 m,flat_valid (by unfold It.wf;simp [hm]) (by simp),a2,ha2,rfl⟩
  ·refine sqc ?_;go_simp
   refine sqc ?_;go_simp;refine cl [] [1000] (bytes_c 1000 ver L a1 30 hL ha1 (by omega)) (by go_simp) ?_;rintro r rows ⟨l,a2,hl,ha2,rfl,rfl⟩;go_simp
   refine cl [] [] (rbytes_c l (by omega)) (by go_simp) ?_;rintro r rows ⟨rfl,rfl⟩;go_simp
   exact ⟨.mk 2 0 l [],⟨_,_,rfl,.inl rfl,.inl rfl⟩,flat_valid (by unfold It.wf;simp) (by omega),a2,ha2,rfl⟩
  ·refine sqc ?_;go_simp
   refine sqc ?_;go_simp;refine cl [] [1000] (dtext_c 1000 ver L a1 8 hL ha1 (by omega)) (by go_simp) ?_;rintro r rows ⟨ps,a2,hl,ha2,rfl,rfl⟩;have hpl:=text_len ps;have HVT:=dh (valid_text ps);have HL:(ps.flatMap piece).length≤30:=by omega
   generalize ps.flatMap piece=l at *;go_simp
   refine cl [] [] (rtext_c l (by omega)) (by go_simp) ?_;rintro r rows ⟨rfl,rfl⟩;go_simp
   exact ⟨.mk 3 0 l [],⟨_,_,rfl,.inl rfl,.inl rfl⟩,flat_valid (by unfold It.wf;simp [HVT.out]) (by omega),a2,ha2,rfl⟩
  ·have hd1:1≤d:=by omega
   clear hd0;refine sqc ?_;go_simp;refine sqc ?_;go_simp;refine cl [] [1000] (num_c 1000 ver L a1 hL ha1) (by go_simp) ?_;rintro r rows ⟨m,a2,hm,ha2,rfl,rfl⟩;go_simp;go_bits
   rw [show (d:Int) - 1=((d - 1:Nat):Int) by omega];refine cl [] [1000] (IH.out hd1 1000 ver L a2 hL ha2) (by go_simp) ?_;rintro r rows ⟨y,rfl,hyv,a3,ha3,rfl⟩;have hyf:=It.valid_fits hyv;go_simp
   refine cl (C:=fun r rows=>∃ z,r=itS z∧WhC (.mk 6 m [] [y]) z∧rows=[]) [49] [] (by simp [arg,cv,frzH,go_sem];exact AC.itn (dwhole_c _ (rvalid_c _ ⟨hm,hyf,trivial⟩)) ⟨_,_,rfl,.inr ⟨rfl,rfl,rfl⟩,.inl (by simp only [It.kids,itL_cons,itL_nil,List.append_nil,List.length_singleton];cases y;rfl)⟩) (by go_simp) ?_;rintro r rows ⟨z,rfl,hz,rfl⟩;go_simp
   refine ⟨by cases (fl0 (bsl z.bytes) && fl0 (isl z.kids)) <;> simp,?_⟩
   refine ⟨z,⟨_,_,rfl,.inl rfl,.inl rfl⟩,?_,a3,ha3,rfl⟩;rcases hz with ⟨rfl,h⟩ | rfl
   ·exact h
   ·decide +kernel
  ·refine sqc ?_;go_simp
   refine sqc ?_;go_simp;refine cl [] [1000] (next_c 1000 ver L a1 8 hL ha1 (by omega) (by omega)) (by go_simp) ?_;rintro r rows ⟨q,a2,hq,ha2,rfl,rfl⟩;rcases (show q=0∨q=1∨q=2∨q=3∨q=4∨q=5∨q=6∨q=7 by omega) with rfl | rfl | rfl | rfl | rfl | rfl | rfl | rfl
   all_goals go_simp
   ·exact ⟨.mk 7 20 [] [],itN.flat 7 20,by decide +kernel,a2,ha2,rfl⟩
   ·exact ⟨.mk 7 21 [] [],itN.flat 7 21,by decide +kernel,a2,ha2,rfl⟩
   ·exact ⟨.mk 7 22 [] [],itN.flat 7 22,by decide +kernel,a2,ha2,rfl⟩
   ·exact ⟨.mk 7 23 [] [],itN.flat 7 23,by decide +kernel,a2,ha2,rfl⟩
   ·exact ⟨.mk 7 0 [] [],itN.flat 7 0,by decide +kernel,a2,ha2,rfl⟩
   ·exact ⟨.mk 7 19 [] [],itN.flat 7 19,by decide +kernel,a2,ha2,rfl⟩
   ·exact ⟨.mk 7 32 [] [],itN.flat 7 32,by decide +kernel,a2,ha2,rfl⟩
   ·exact ⟨.mk 7 255 [] [],itN.flat 7 255,by decide +kernel,a2,ha2,rfl⟩
  ·refine sqc ?_;go_simp
   refine sqc ?_;go_simp;refine cl [] [1000] (float93_c 1000 ver L a1 hL ha1) (by go_simp) ?_;rintro r rows ⟨m,a2,hm,ha2,rfl,rfl⟩;go_simp
   exact ⟨.mk 8 m [] [],itN.flat 8 m,flt_valid hm.1 hm.2,a2,ha2,rfl⟩
  ·refine sqc ?_;go_simp
   have hd1:1≤d:=by omega
   have hk1:4≤k∧k≤5:=by omega
   have z0:¬ k=0:=by omega
   have y0:¬ (k:Int)=0:=by omega
   have z1:¬ k=1:=by omega
   have y1:¬ (k:Int)=1:=by omega
   have z2:¬ k=2:=by omega
   have y2:¬ (k:Int)=2:=by omega
   have z3:¬ k=3:=by omega
   have y3:¬ (k:Int)=3:=by omega
   have z6:¬ k=6:=by omega
   have y6:¬ (k:Int)=6:=by omega
   have z7:¬ k=7:=by omega
   have y7:¬ (k:Int)=7:=by omega
   have z8:¬ k=8:=by omega
   have y8:¬ (k:Int)=8:=by omega
   have H45:=dh h45;clear h45 hd0;refine sqc ?_;go_simp;clear z0 z1 z2 z3 z6 z7 z8 y0 y1 y2 y3 y6 y7 y8;refine sqc ?_;go_simp;refine cl [] [1000] (next_c 1000 ver L a1 4 hL ha1 (by omega) (by omega)) (by go_simp) ?_;rintro r rows ⟨n,a2,hn,ha2,rfl,rfl⟩;go_simp
   refine lp (α:=Nat × Nat × List It × Nat × Nat) (fun x=>x.2.2.2.2≤L.length∧x.2.2.1.length + 2 * x.2.2.2.1≤6∧It.fitsL x.2.2.1) (fun x=>⟨[(0,.ptr 1000 ver 0),(1,iv d),(4,.ptr 4 nx 0),(5,iv k),(6,.own 900 x.2.1 x.2.2.1.length 4),(7,iv x.2.2.2.1)],[(1000,DK ver L x.2.2.2.2),(4,⟨nx,31,4,[iv 0,uv 0,.v (.slice none 0 0),.v (.slice none 0 0)]⟩),(900,⟨x.2.1,31,4,itL x.2.2.1⟩)],x.1,[],104⟩) (fun x=>x.2.2.2.1) [(6,900,31,4)] [] (nx + 2,nx + 1,[],n,a2) ?_ ?_
   ·go_simp
    exact ⟨by omega,trivial⟩
   ·rintro ⟨u,v,l,n,a⟩ ⟨ha',hl',hf'⟩
    replace ha':a≤L.length:=ha'
    replace hl':l.length + 2 * n≤6:=hl'
    replace hf':It.fitsL l:=hf'
    dsimp only
    refine gw ?_;go_simp
    refine ifd (fun h=>?_) (fun h=>?_) <;> go_simp
    ·go_bits
     rw [show (d:Int) - 1=((d - 1:Nat):Int) by omega];refine cl [] [1000] (IH.out hd1 1000 ver L a hL ha') (by go_simp) ?_;rintro r rows ⟨y,rfl,hyv,a3,ha3,rfl⟩;have hyf:=It.valid_fits hyv;go_simp
     refine ⟨by rw [show Tryd.t31.bytes=64 from rfl];omega,?_⟩;refine ifd (fun h5=>?_) (fun h5=>?_) <;> go_simp
     ·go_bits
      rw [show (d:Int) - 1=((d - 1:Nat):Int) by omega];refine cl [] [1000] (IH.out hd1 1000 ver L a3 hL ha3) (by go_simp) ?_;rintro r rows ⟨z,rfl,hzv,a4,ha4,rfl⟩;have hzf:=It.valid_fits hzv;go_simp
      exact ⟨by rw [show Tryd.t31.bytes=64 from rfl];omega,u + 1 + 1 + 1 + 1,_,l ++ [y] ++ [z],n - 1,a4,⟨ha4,by simp;omega,It.fits_app (It.fits_app hf' hyf) hzf⟩,by omega,by omega,⟨⟨rfl,by simp⟩,by go_bits;omega⟩,rfl,rfl,by simp⟩
     ·exact ⟨u + 1 + 1,_,l ++ [y],n - 1,a3,⟨ha3,by simp;omega,It.fits_app hf' hyf⟩,by omega,by omega,⟨⟨rfl,by simp⟩,by go_bits;omega⟩,rfl,rfl,rfl⟩
    ·refine sqc ?_;go_simp
     have Z:=H45.out;have ht:(itL l).take (l.length * 4)=itL l:=List.take_of_length_le (by rw [itL_len];exact Nat.le_refl _);refine ifd (fun h4=>?_) (fun h4=>?_) <;> go_simp
     ·refine cl (C:=fun r rows=>∃ z,r=itS z∧WhC (.mk 4 0 [] l) z∧rows=[]) [900] [] (by simp [arg,cv,frzH,go_sem,ht];exact AC.itn (dwhole_c _ (rvalid_c _ ⟨by decide,hf'⟩)) ⟨_,_,rfl,.inr ⟨rfl,rfl,rfl⟩,.inl rfl⟩) (by go_simp) ?_
      rintro r rows ⟨z,rfl,hz,rfl⟩;go_simp
      refine ⟨by cases (fl0 (bsl z.bytes) && fl0 (isl z.kids)) <;> simp,?_⟩
      refine ⟨z,⟨_,_,rfl,.inl rfl,.inl rfl⟩,?_,a,ha',rfl⟩;rcases hz with ⟨rfl,h⟩ | rfl
      ·exact h
      ·decide +kernel
     ·refine sqc ?_;go_simp
      refine cl (C:=fun r rows=>BuC r∧rows=[]) [900] [] (by simp [arg,cv,frzH,go_sem,ht];exact rbuild_c l hf' (by omega)) (by go_simp) ?_;rintro r rows ⟨⟨x,ne,rfl,hx⟩,rfl⟩;go_simp
      refine ⟨by cases (fl0 (bsl x.bytes) && fl0 (isl x.kids)) <;> simp,?_⟩
      refine sqc ?_;go_simp;refine ifn (fun h=>?_) (fun h=>?_) <;> go_simp
      ·exact ⟨by cases (fl0 (bsl x.bytes) && fl0 (isl x.kids)) <;> simp,.mk 5 0 [] [],itN.flat 5 0,by decide +kernel,a,ha',rfl⟩
      ·refine gw ?_;go_simp
       exact ⟨by cases (fl0 (bsl x.bytes) && fl0 (isl x.kids)) <;> simp,x,⟨_,_,rfl,.inl rfl,.inl rfl⟩,hx h,a,ha',rfl⟩
theorem ditem_any:∀ d,d≤1000→ItmD d
 | 0,h=>ditem_step 0 h fun h=>absurd h (Nat.lt_irrefl _)
 | d + 1,h=>ditem_step (d + 1) h fun _=>ditem_any d (by omega)
end Go.Proofs.YtelefkkkccilaaaDoor
