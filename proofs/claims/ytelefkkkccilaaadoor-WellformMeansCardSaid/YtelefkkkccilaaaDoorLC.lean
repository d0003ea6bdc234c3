/- Floats: the model's conversions, and the program's float. The head of an item: major. The program's add: the encoding of an item, appended. The walk of add. The walk of add, at every well formed item. Lists of items in rows of one's own. What a copy of an item leaves, and how its elements are put together. unicode/utf8.Valid: it answers Lib.validD of the bytes. -/
import Derived.Test.YtelefkkkccilaaaDoorLB
import Derived.Laws.FloatArith
import Derived.Laws.Externs
import Derived.Laws.Cover2
import Derived.Test.YtelefkkkccilaaaDoorLA
import Derived.Shelf.Unicode.DecodeSlow
import Derived.Lib.ValidAsc
import Derived.Lib.ValidLaws
import Derived.Lib.EndianBits
import Derived.Laws.BitsAllLaws
import Derived.Deep.LoopGhost
set_option linter.unusedVariables false
set_option linter.unusedSimpArgs false
namespace Go.Proofs.YtelefkkkccilaaaDoor
open Go.RowKit
set_option maxRecDepth 100000
theorem x157 {n:Nat} {N:Int} (hN:N=n) (W:World):(callFunc 89 #[.int .u64 N]).run Tryd.prog W=.ok (.value (.float .f64 n)) W:=by
 rw [run_callFunc_extern (P:=Tryd.prog) (f:=89) (fn:=Tryd.f89) Tryd.func89 (by kernel_rfl) (by kernel_rfl) (by kernel_rfl) (e:=Extern.MathFloatBits.float64frombits) (by kernel_rfl)];subst hN
 rfl
theorem x158 {n:Nat} {N:Int} (hN:N=n) (W:World):(callFunc 90 #[.float .f64 n]).run Tryd.prog W=.ok (.value (.int .u64 N)) W:=by
 rw [run_callFunc_extern (P:=Tryd.prog) (f:=90) (fn:=Tryd.f90) Tryd.func90 (by kernel_rfl) (by kernel_rfl) (by kernel_rfl) (e:=Extern.MathFloatBits.float64bits) (by kernel_rfl)];subst hN
 rfl
theorem x160 {n:Nat} {N:Int} (hN:N=n) (W:World):(callFunc 92 #[.float .f32 n]).run Tryd.prog W=.ok (.value (.int .u32 N)) W:=by
 rw [run_callFunc_extern (P:=Tryd.prog) (f:=92) (fn:=Tryd.f92) Tryd.func92 (by kernel_rfl) (by kernel_rfl) (by kernel_rfl) (e:=Extern.MathFloatBits.float32bits) (by kernel_rfl)];subst hN
 rfl
theorem x164 {n:Nat} {N:Int} (hN:N=n) (W:World):(callFunc 96 #[.int .u32 N]).run Tryd.prog W=.ok (.value (.float .f32 n)) W:=by
 rw [run_callFunc_extern (P:=Tryd.prog) (f:=96) (fn:=Tryd.f96) Tryd.func96 (by kernel_rfl) (by kernel_rfl) (by kernel_rfl) (e:=Extern.MathFloatBits.float32frombits) (by kernel_rfl)];subst hN
 rfl
theorem order_nan {n:Nat} (hn:n < 18446744073709551616) (h:Fl.isNaN n=true):Ieee.double.order n n=.none:=by
 obtain ⟨b,f,e⟩:=Fl.read_nan hn h;unfold Ieee.Format.order;rw [e];rfl
theorem order_self {n:Nat} (hn:n < 18446744073709551616) (h:Fl.isNaN n=false):Ieee.double.order n n=some .eq:=by
 have e:=Fl.read_not hn h;unfold Ieee.Format.order;cases hd:Ieee.double.read n with
 | nan b f=>rw [hd] at e;cases e
 | infinity s=>simp [Ieee.Datum.order]
 | number s m i=>simp [Ieee.Datum.order]
theorem conv_num {n:Nat} (h:(Ieee.double.read n).isNaN=false) (W:World):∃ g W',(convert 146 148 (.float .f64 n)).run Tryd.prog W=.ok (.float .f32 g) W'∧(W'=W∨W'=W.drew)∧(g=Ieee.single.write (Ieee.double.read n)∧W'=W∨(∃ s m e,Ieee.double.read n=.number s m e)∧(Ieee.single.read (Ieee.single.write (Ieee.double.read n))).isInfinity=true∧g < 4294967296):=by
 have hs:Tryd.prog.underlying 146=some (.float .f64):=Tryd.underlying146;have hd:Tryd.prog.underlying 148=some (.float .f32):=Tryd.underlying148;cases hr:Ieee.double.read n with
 | nan b f=>rw [hr] at h;cases h
 | infinity s=>
   refine ⟨_,W,?_,.inl rfl,.inl ⟨rfl,rfl⟩⟩;have hr':FloatKind.f64.decode n=.infinity s:=hr;simp [convert,run_underlying hs,run_underlying hd,Conv.floatToFloat,hr']
   rfl
 | number s m e=>
   have hr':FloatKind.f64.decode n=.number s m e:=hr;by_cases hi:(FloatKind.f32.decode (FloatKind.f32.encode (.number s m e))).isInfinity=true
   ·refine ⟨(Question.floatToFloat n).cut (W.tape W.drawn (Question.floatToFloat n)),W.drew,?_,.inr rfl,.inr ⟨⟨s,m,e,rfl⟩,hi,?_⟩⟩
    ·simp [convert,run_underlying hs,run_underlying hd,Conv.floatToFloat,hr',hi,run_choose_drew,Question.forced]
    ·show _ % 2 ^ 32 < _
     omega
   ·refine ⟨_,W,?_,.inl rfl,.inl ⟨rfl,rfl⟩⟩
    simp only [Bool.not_eq_true] at hi;simp [convert,run_underlying hs,run_underlying hd,Conv.floatToFloat,hr',hi]
    rfl
theorem conv_to {n:Nat} (hn:n < 18446744073709551616) (h:Fl.isNaN n=false) (W:World):
 ∃ g W',(convert 146 148 (.float .f64 n)).run Tryd.prog W=.ok (.float .f32 g) W'∧(W'=W∨W'=W.drew)∧g < 4294967296∧∀ s,Fl.narrowS n=some s→g=s∧W'=W:=by
 obtain ⟨g,W',h1,h2,h3⟩:=conv_num (Fl.read_not hn h) W;refine ⟨g,W',h1,h2,?_,?_⟩
 ·rcases h3 with ⟨rfl,_⟩ | ⟨_,_,h3⟩
  ·exact Ieee.Format.write_lt _ _
  ·exact h3
 ·intro s hs
  have e1:=Fl.single_of_double hn hs;rcases h3 with ⟨rfl,rfl⟩ | ⟨⟨sg,m,e,hr⟩,hi,_⟩
  ·exact ⟨e1,rfl⟩
  ·exfalso
   rw [e1] at hi;obtain ⟨b1,b2,b3⟩:=Fl.narrowS_widen hn hs;have b4:=Fl.double_of_single b2 b3;rw [b1] at b4;cases hsr:Ieee.single.read s with
   | nan _ _=>rw [hsr] at hi;cases hi
   | number _ _ _=>rw [hsr] at hi;cases hi
   | infinity t=>
     rw [hsr] at b4;have b5:Ieee.double.read (Ieee.double.write (.infinity t))=.infinity t:=by cases t <;> rfl
     rw [b4,hr] at b5;cases b5
theorem nan64_cut (t g:Nat):(Question.nanConv .f64 g).cut t < 18446744073709551616∧Fl.isNaN ((Question.nanConv .f64 g).cut t)=true:=by
 show (t % 2) * 2 ^ 63 + 0x7ff0000000000000 + 1 + (t / 2) % (2 ^ 52 - 1) < 18446744073709551616∧Fl.isNaN ((t % 2) * 2 ^ 63 + 0x7ff0000000000000 + 1 + (t / 2) % (2 ^ 52 - 1))=true
 have h1:t % 2 < 2:=by omega
 have h2:(t / 2) % (2 ^ 52 - 1) < 4503599627370495:=Nat.mod_lt _ (by decide);generalize t % 2=a at *;generalize (t / 2) % (2 ^ 52 - 1)=b at *;refine ⟨by omega,?_⟩;unfold Fl.isNaN;have e1:(a * 2 ^ 63 + 0x7ff0000000000000 + 1 + b) / 4503599627370496 % 2048=2047:=by omega
 have e2:(a * 2 ^ 63 + 0x7ff0000000000000 + 1 + b) % 4503599627370496=b + 1:=by clear e1;omega
 rw [e1,e2];simp
theorem read_notS {s:Nat} (hs:s < 4294967296) (h:Fl.nanS s=false):(Ieee.single.read s).isNaN=false:=by
 unfold Fl.nanS at h;have hN:s=(s / 2147483648) * 2147483648 + (s / 8388608 % 256) * 8388608 + s % 8388608:=by omega
 rw [hN,Fl.readS _ _ _ (by omega) (by omega) (by omega)]
 split
 ·rfl
 split
 ·rfl
 split
 ·rfl
 ·exfalso
  rename_i a b c
  have:s / 8388608 % 256=255:=by clear hN h;omega
  rw [this] at h;simp at h;exact c h
theorem conv_back {g:Nat} (hg:g < 4294967296) (W:World):
 ∃ q W',(convert 148 146 (.float .f32 g)).run Tryd.prog W=.ok (.float .f64 q) W'∧(W'=W∨W'=W.drew)∧q < 18446744073709551616∧(Fl.nanS g=false→q=Fl.widenS g∧W'=W)∧(Fl.nanS g=true→Fl.isNaN q=true):=by
 have hs:Tryd.prog.underlying 148=some (.float .f32):=Tryd.underlying148;have hd:Tryd.prog.underlying 146=some (.float .f64):=Tryd.underlying146;cases hN:Fl.nanS g with
 | true=>
   obtain ⟨b,f,hr⟩:=Fl.read_nanS hg hN;have hr':FloatKind.f32.decode g=.nan b f:=hr;obtain ⟨c1,c2⟩:=nan64_cut (W.tape W.drawn (Question.nanConv .f64 g)) g;refine ⟨(Question.nanConv .f64 g).cut (W.tape W.drawn (Question.nanConv .f64 g)),W.drew,?_,.inr rfl,c1,(fun h=>by cases h),fun _=>c2⟩;simp [convert,run_underlying hs,run_underlying hd,Conv.floatToFloat,hr',run_choose_drew,Question.forced]
 | false=>
   obtain ⟨b1,b2,b3⟩:=Fl.widenS_narrow hg hN;have b4:=Fl.double_of_single hg hN;refine ⟨Fl.widenS g,W,?_,.inl rfl,b2,(fun _=>⟨rfl,rfl⟩),(fun h=>by cases h)⟩;cases hr:Ieee.single.read g with
   | nan b f=>
     have:=read_notS hg hN;rw [hr] at this;cases this
   | infinity s=>
     have hr':FloatKind.f32.decode g=.infinity s:=hr;rw [hr] at b4;rw [← b4];simp [convert,run_underlying hs,run_underlying hd,Conv.floatToFloat,hr']
     rfl
   | number s m e=>
     have hr':FloatKind.f32.decode g=.number s m e:=hr;rw [hr] at b4;have hi:(FloatKind.f64.decode (FloatKind.f64.encode (.number s m e))).isInfinity=false:=by
      show (Ieee.double.read (Ieee.double.write (.number s m e))).isInfinity=false
      rw [b4];cases hd2:Ieee.double.read (Fl.widenS g) with
      | number _ _ _=>rfl
      | nan _ _=>rfl
      | infinity t=>
        have e1:=Fl.single_of_double b2 b1;rw [hd2] at e1;have e2:Ieee.single.read (Ieee.single.write (.infinity t))=.infinity t:=by cases t <;> rfl
        rw [e1,hr] at e2;cases e2
     rw [← b4];simp [convert,run_underlying hs,run_underlying hd,Conv.floatToFloat,hr',hi]
     rfl
theorem half_some {n s:Nat} {N:Int} (hN:N=n) (hn:n < 4294967296) (h:Fl.halfP n=some s) (S:Int) (hS:S=s) (w:World):Calls Tryd.prog 93 #[.int .u32 N] w fun e w'=>e=.returned (.tuple #[.int .u16 S,.bool true])∧w=w':=by
 subst hS;exact (half_any n N hN hn w).mono fun e w' h'=>(h ▸ h').some
theorem half_none {n:Nat} {N:Int} (hN:N=n) (hn:n < 4294967296) (h:Fl.halfP n=.none) (w:World):Calls Tryd.prog 93 #[.int .u32 N] w fun e w'=>∃ v:Int,e=.returned (.tuple #[.int .u16 v,.bool false])∧w=w':=
 (half_any n N hN hn w).mono fun e w' h'=>(h ▸ h').none
theorem same_size {W W':World} (h:W'=W∨W'=W.drew):W'.heap.size=W.heap.size∧Below W.heap.size W W':=by
 rcases h with rfl | rfl
 ·exact ⟨rfl,Below.refl _ _⟩
 ·exact ⟨rfl,(Below.refl _ _).drew⟩
theorem FB.drawn {l:List UInt8} {w w1:World} {e:Ending} {w':World} (h:FB l w1 e w') (hs:w1.heap.size=w.heap.size) (hb:Below w.heap.size w w1):FB l w e w':=by
 obtain ⟨v,rfl,h1,h2⟩:=h;rw [hs] at h1 h2;exact ⟨v,rfl,h1,hb.trans h2⟩
set_option maxHeartbeats 4000000 in
theorem float_any (n:Nat) (N:Int) (hN:N=n) (hn:n < 18446744073709551616) (w:World):Calls Tryd.prog 63 #[.int .u64 N] w (FB (It.flt n) w):=by
 have h0:(0:Int)≤N:=by omega
 have X1:=fun W=>x157 hN W
 cases hnan:Fl.isNaN n with
 | true=>
   have C1:=order_nan hn hnan;have C2:(FloatKind.f64.format.order n n !=some Ordering.eq)=true:=by
    show (Ieee.double.order n n !=some Ordering.eq)=true
    rw [C1];rfl
   rw [It.flt_nan hnan];clear hN hn hnan C1;go_enter Tryd.func63,Tryd.ntmps63
   go_wp2_with (simp only [X1])
   go_ret
   exact FB.lits rfl rfl (by simp)
 | false=>
   have C1:=order_self hn hnan;have C2:(FloatKind.f64.format.order n n !=some Ordering.eq)=false:=by
    show (Ieee.double.order n n !=some Ordering.eq)=false
    rw [C1];rfl
   obtain ⟨g,w1,hr1,hw1,hg,hgs⟩:=conv_to hn hnan w;obtain ⟨q,w2,hr2,hw2,hq,hq1,hq2⟩:=conv_back hg w1;obtain ⟨S1,B1⟩:=same_size hw1;obtain ⟨S2,B2⟩:=same_size hw2;have HB:=dh (B1.trans (B2.mono (Nat.le_of_eq S1.symm)));have HS:=dh (S2.trans S1);obtain ⟨Q,hQ⟩:∃ Q:Int,Q=q:=⟨_,rfl⟩;have X2:=fun W=>x158 hQ W
   have q0:0≤Q:=by omega
   cases hS:Fl.narrowS n with
   | none=>
     have hne:(Q !=N)=true:=by
      have:q≠n:=by
       intro e;cases hng:Fl.nanS g with
       | true=>have:=hq2 hng;rw [e,hnan] at this;cases this
       | false=>
         obtain ⟨e1,_⟩:=hq1 hng;obtain ⟨b1,_⟩:=Fl.widenS_narrow hg hng;rw [← e1,e,hS] at b1;cases b1
      simp;omega
     have HF:=dh (It.flt_double hnan (Fl.narrow_none hS hnan) hS);have CW:=fun W=>wide_any n N hN W
     clear hN hn hnan C1 hgs hq hq1 hq2 hQ hw1 hw2 S1 S2 B1 B2 hS hg;have P0:=al w2 (.cells #[.int .u8 251] 5);have O1:OwnB (w2.alloc (.cells #[.int .u8 251] 5)) w2.heap.size (.slice (some ⟨w2.heap.size,0,none⟩) 1 1) [251]:=by
      refine own_lits [251] _ (by simp) ?_ _ (Nat.le_refl _);rw [aw];rfl
     go_enter Tryd.func63,Tryd.ntmps63
     go_wp2_with (first | simp only [X1] | simp only [X2] | simp only [hr1] | simp only [hr2])
     generalize w2.alloc (.cells #[.int .u8 251] 5)=w3 at *;have HP0:=dh P0;have HO1:=dh O1;clear P0 O1;refine (CW w3).mono ?_;rintro e w4 h4;obtain ⟨a,c,rfl,O2,R2,_,_,B4⟩:=h4.open;obtain ⟨a',c',w5,hrun,O5,G5,_⟩:=app_bytes w4 w2.heap.size _ _ (HO1.out.pure B4) a _ c _ _ R2 (by simp [It.be_length]) (by have:=B4.size;have:=HP0.out.size;omega);have B5:=bg (HP0.out.trans (B4.mono HP0.out.size)) (by have:=B4.size;have:=HP0.out.size;omega) (HO1.out.pure B4) G5;have HO5:=dh O5;have HB5:=dh B5;clear O2 R2 B4 h4 O5 G5 B5;go_wp2_with (at_builtin;refine wj rfl _ _ 23 rfl rfl rfl hrun ?_)
     go_ret
     rw [HF.out];exact FB.drawn ⟨_,rfl,HO5.out,HB5.out⟩ HS.out HB.out
   | some s=>
     obtain ⟨e1,e2⟩:=hgs s hS;obtain ⟨b1,b2,b3⟩:=Fl.narrowS_widen hn hS;have hqn:q=n:=by
      rw [e1] at hq1;rw [(hq1 b3).1,b1]
     have hne:(Q !=N)=false:=by simp;omega
     obtain ⟨V,hV⟩:∃ V:Int,V=g:=⟨_,rfl⟩;have X3:=fun W=>x160 hV W
     have v0:0≤V:=by omega
     have v1:V < 4294967296:=by omega
     have hh:=Fl.half_narrow hn hS;cases hH:Fl.narrowH n with
     | some h=>
       obtain ⟨d1,d2,_⟩:=Fl.narrowH_widen hn hH;obtain ⟨U,hU⟩:∃ U:Int,U=h:=⟨_,rfl⟩;have X4:=fun W=>half_some hV hg (by rw [e1,hh,hH]) U hU W
       have u0:0≤U:=by omega
       have u1:U < 65536:=by omega
       have HU:=dh hU;rw [It.flt_half hnan hH,be2];clear hN hn hnan C1 hgs hq hq1 hq2 hQ hw1 hw2 S1 S2 B1 B2 hS hg e1 e2 b1 b2 b3 hqn hV hh hH d1 d2 hU;go_enter Tryd.func63,Tryd.ntmps63
       go_wp2_with (first | simp only [X1] | simp only [X2] | simp only [X3] | simp only [hr1] | simp only [hr2] | (go_at_call 93;refine (X4 _).mono ?_;rintro e w' ⟨rfl,rfl⟩))
       go_ret
       refine FB.drawn (FB.lits ?_ rfl (by simp)) HS.out HB.out;have hU:=HU.out;rw [bv_eq (byte_of hU),bv_eq (byte_div_lt hU 256 256 rfl (by omega))];rfl
     | none=>
       have X4:=fun W=>half_none hV hg (by rw [e1,hh,hH]) W
       have HV:Hid (V=(s:Int)):=dh (by rw [hV,e1]);rw [It.flt_single hnan hH hS,be4];clear hN hn hnan C1 hgs hq hq1 hq2 hQ hw1 hw2 S1 S2 B1 B2 hS hg e1 e2 b1 b2 b3 hqn hV hh hH;go_enter Tryd.func63,Tryd.ntmps63
       go_wp2_with (first | simp only [X1] | simp only [X2] | simp only [X3] | simp only [hr1] | simp only [hr2] | (go_at_call 93;refine (X4 _).mono ?_;rintro e w' ⟨v,rfl,rfl⟩))
       go_ret
       refine FB.drawn (FB.lits ?_ rfl (by simp)) HS.out HB.out;have hV:=HV.out;rw [bv_eq (byte_of hV),bv_eq (byte_div hV 256 256 rfl),bv_eq (byte_div hV 65536 65536 rfl),bv_eq (byte_div_lt hV 16777216 16777216 rfl (by omega))];rfl
def MJ (k:Nat) (c:Int) (w:World) (e:Ending) (w':World):Prop:=e=.returned (.tuple #[.int .u8 (k:Int),.int .u64 c])∧Below w.heap.size w w'
theorem below_box (w:World) (o:Obj) (n:Nat):Below w.heap.size w ((w.alloc o).drewN n):=bd (al w o) n
set_option maxHeartbeats 4000000 in
theorem major_num (k:Nat) (K N:Int) (hK:K=k) (hk:k=0∨k=1∨k=6∨k=7) (ab ai:Option Addr) (nb cb ni ci:Nat) (w:World):Calls Tryd.prog 65 #[.agg #[.int .i64 K,.int .u64 N,.slice ab nb cb,.slice ai ni ci]] w (MJ k N w):=by
 rcases hk with rfl | rfl | rfl | rfl <;> subst hK
 all_goals
  go_enter Tryd.func65,Tryd.ntmps65
  go_wp2_with fail
  go_quiet (fail)
  go_wp2_with fail
  go_ret2
  exact ⟨rfl,below_box _ _ _⟩
set_option maxHeartbeats 4000000 in
theorem major_str (k:Nat) (K N:Int) (hK:K=k) (hk:k=2∨k=3) (ab ai:Option Addr) (nb cb ni ci:Nat) (hn:nb≤9223372036854775807) (w:World):Calls Tryd.prog 65 #[.agg #[.int .i64 K,.int .u64 N,.slice ab nb cb,.slice ai ni ci]] w (MJ k nb w):=by
 obtain ⟨B,hB⟩:∃ B:Int,B=nb:=⟨_,rfl⟩;have hw:IntKind.u64.wrap (nb:Int)=nb:=wrap_u64 (by omega) (by omega);clear hn hB;rcases hk with rfl | rfl <;> subst hK
 all_goals
  go_enter Tryd.func65,Tryd.ntmps65
  go_wp2_with fail
  go_quiet (fail)
  go_wp2_with fail
  go_ret2
  exact ⟨by first | rfl | rw [hw],below_box _ _ _⟩
set_option maxHeartbeats 4000000 in
theorem major_arr (N:Int) (ab ai:Option Addr) (nb cb ni ci:Nat) (hn:ni≤9223372036854775807) (w:World):Calls Tryd.prog 65 #[.agg #[.int .i64 4,.int .u64 N,.slice ab nb cb,.slice ai ni ci]] w (MJ 4 ni w):=by
 have hw:IntKind.u64.wrap (ni:Int)=ni:=wrap_u64 (by omega) (by omega);clear hn;go_enter Tryd.func65,Tryd.ntmps65
 go_wp2_with fail
 go_quiet (fail)
 go_wp2_with fail
 go_ret2
 exact ⟨by first | rfl | rw [hw],below_box _ _ _⟩
set_option maxHeartbeats 4000000 in
theorem major_map (N:Int) (ab ai:Option Addr) (nb cb ni ci:Nat) (hn:ni≤9223372036854775807) (w:World):Calls Tryd.prog 65 #[.agg #[.int .i64 5,.int .u64 N,.slice ab nb cb,.slice ai ni ci]] w (MJ 5 ((ni / 2:Nat):Int) w):=by
 have hq:(ni:Int).tdiv 2=((ni / 2:Nat):Int):=by rw [Int.tdiv_eq_ediv_of_nonneg (by omega)];omega
 have hw0:IntKind.i64.wrap ((ni / 2:Nat):Int)=((ni / 2:Nat):Int):=IntWalk.i64_in _ (by omega);have hw:IntKind.u64.wrap ((ni / 2:Nat):Int)=((ni / 2:Nat):Int):=wrap_u64 (by omega) (by omega);have hq2:(ni:Int) / 2=((ni / 2:Nat):Int):=by omega
 generalize ni / 2=h at *;clear hn;go_enter Tryd.func65,Tryd.ntmps65
 go_wp2_with fail
 go_quiet (fail)
 go_wp2_with fail
 go_ret2
 exact ⟨by first | rfl | rw [hw],below_box _ _ _⟩
def AD (l:List UInt8) (base:Nat) (w:World) (e:Ending) (w':World):Prop:=∃ v,e=.returned v∧OwnB w' base v l∧Below base w w'
theorem wf_kinds {d:Nat} {k:Int} {n:Nat} {b:List UInt8} {ks:List It} (h:It.wf d (.mk k n b ks)=true):n < 18446744073709551616∧
 ((k=0∨k=1)∧b=[]∧ks=[]∨(k=2∨k=3)∧n=0∧ks=[]∧(k=3→Lib.validD b=true)∨k=7∧b=[]∧ks=[]∧(n < 24∨32≤n∧n < 256)∨k=8∧b=[]∧ks=[]∧(Fl.isNaN n=false∨n=Fl.nan)∨
  (k=4∨k=5∨k=6)∧b=[]∧0 < d∧(k=6→ks.length=1)∧(k≠6→n=0)∧(k=5→ks.length % 2=0∧It.asc .none ks=true)∧It.wfs (d - 1) ks=true):=by
 unfold It.wf at h;rw [Bool.and_eq_true,decide_eq_true_eq] at h;obtain ⟨hn,h⟩:=h;refine ⟨hn,?_⟩
 split at h
 ·rename_i h1;simp at h;exact .inl ⟨h1,h.1,h.2⟩
 split at h
 ·rename_i h1;subst h1;simp at h;exact .inr (.inl ⟨.inl rfl,h.1,h.2,fun h=>by omega⟩)
 split at h
 ·rename_i h1;subst h1;simp at h;exact .inr (.inl ⟨.inr rfl,h.1.1,h.1.2,fun _=>h.2⟩)
 split at h
 ·rename_i h1;simp at h;exact .inr (.inr (.inl ⟨h1,h.1.1,h.1.2,h.2⟩))
 split at h
 ·rename_i h1;simp at h;exact .inr (.inr (.inr (.inl ⟨h1,h.1.1,h.1.2,h.2⟩)))
 split at h
 ·rename_i h1
  simp only [Bool.and_eq_true,List.isEmpty_iff,decide_eq_true_eq] at h;obtain ⟨⟨⟨⟨h2,h3⟩,h4⟩,h5⟩,h6⟩:=h;refine .inr (.inr (.inr (.inr ⟨h1,h2,h3,fun h=>?_,fun h=>?_,fun h=>?_,h6⟩)))
  ·rw [if_pos h] at h4;simpa using h4
  ·rw [if_neg h] at h4;simpa using h4
  ·rw [if_pos h] at h5;simpa using h5
 ·cases h
theorem major_wf {d:Nat} {x:It} (hw:It.wf d x=true) (h8:x.kind≠8) (h7:x.kind=7→x.num < 24) {ok:Nat→Prop} {w:World} {A:Ad} (hI:IR ok w x A):
 ∃ (m c:Nat) (C:Int),C=c∧m < 8∧It.enc x=It.head m c ++ (x.bytes ++ It.encs x.kids)∧∀ W,Calls Tryd.prog 65 #[.agg #[.int .i64 x.kind,.int .u64 (x.num:Int),.slice A.ab A.nb A.cb,.slice A.ai A.ni A.ci]] W (MJ m C W):=by
 have hnb:=hI.nb;have hni:=hI.ni;cases x with
 | mk k n b ks=>
   simp only [It.kind,It.num,It.bytes,It.kids] at *;obtain ⟨hn,h⟩:=wf_kinds hw;rcases h with ⟨h1,rfl,rfl⟩ | ⟨h1,rfl,rfl,_⟩ | ⟨rfl,rfl,rfl,_⟩ | ⟨h1,_⟩ | ⟨h1,rfl,hd,g1,g2,g3,g4⟩
   ·refine ⟨k.toNat,n,n,rfl,by omega,?_,fun W=>major_num k.toNat k n (by omega) (by omega) _ _ _ _ _ _ W⟩
    unfold It.enc;rw [if_pos h1];simp [It.encs]
   ·refine ⟨k.toNat,b.length,A.nb,by omega,by omega,?_,fun W=>major_str k.toNat k _ (by omega) (by omega) _ _ _ _ _ _ hnb.2 W⟩
    unfold It.enc;rw [if_neg (by omega),if_pos h1];simp [It.encs]
   ·refine ⟨7,n,n,rfl,by omega,?_,fun W=>major_num 7 7 n rfl (by omega) _ _ _ _ _ _ W⟩
    rw [It.enc7,if_pos (h7 rfl)];unfold It.head;rw [if_pos (h7 rfl)];simp [It.encs]
   ·exact absurd h1 h8
   ·rcases h1 with rfl | rfl | rfl
    ·refine ⟨4,ks.length,A.ni,by omega,by omega,?_,fun W=>major_arr _ _ _ _ _ _ _ hni.2 W⟩
     simp [It.enc]
    ·refine ⟨5,ks.length / 2,((A.ni / 2:Nat):Int),by rw [hni.1],by omega,?_,fun W=>major_map _ _ _ _ _ _ _ hni.2 W⟩
     simp [It.enc]
    ·refine ⟨6,n,n,rfl,by omega,?_,fun W=>major_num 6 6 n rfl (by omega) _ _ _ _ _ _ W⟩
     simp [It.enc]
theorem wfs_get:∀ {d:Nat} {l:List It} (_:It.wfs d l=true) (j:Nat) (h:j < l.length),It.wf d l[j]=true
 | d,[],_,j,h=>by simp at h
 | d,k :: ks,hw,j,h=>by
   simp only [It.wfs,Bool.and_eq_true] at hw;cases j with
   | zero=>exact hw.1
   | succ j=>exact wfs_get hw.2 j (by simpa using h)
theorem wf_kids {d:Nat} {x:It} (hw:It.wf d x=true) (j:Nat) (h:j < x.kids.length):0 < d∧It.wf (d - 1) x.kids[j]=true:=by
 cases x with
 | mk k n b ks=>
   simp only [It.kids] at *;obtain ⟨hn,h'⟩:=wf_kinds hw;rcases h' with ⟨h1,rfl,rfl⟩ | ⟨h1,rfl,rfl,_⟩ | ⟨rfl,rfl,rfl,_⟩ | ⟨h1,rfl,rfl,_⟩ | ⟨h1,rfl,hd,g1,g2,g3,g4⟩
   ·exact absurd h (Nat.not_lt_zero _)
   ·exact absurd h (Nat.not_lt_zero _)
   ·exact absurd h (Nat.not_lt_zero _)
   ·exact absurd h (Nat.not_lt_zero _)
   ·exact ⟨hd,wfs_get g4 j h⟩
theorem encs_take_succ {l:List It} {j:Nat} (h:j < l.length):It.encs (l.take (j + 1))=It.encs (l.take j) ++ It.enc l[j]:=by
 rw [List.take_succ_eq_append_getElem h,It.encs_append];simp [It.encs]
theorem encs_take_le (l:List It) (j:Nat):(It.encs (l.take j)).length≤(It.encs l).length:=by
 conv=>rhs;rw [← List.take_append_drop j l,It.encs_append,List.length_append]
 omega
theorem app_step {w w':World} {base:Nat} {v:Value} {l r:List UInt8} {a:Option Addr} {n c:Nat} {ok:Nat→Prop} (hO:OwnB w base v l) (hb:base≤w.heap.size) (hB:Below w.heap.size w w') (hr:BR ok w' a n r) (hl:l.length + r.length≤1000000000000):
 ∃ v' W,(Builtin.append_ #[23,23] 23 #[v,.slice a n c]).run Tryd.prog w'=.ok v' W∧OwnB W base v' (l ++ r)∧Below base w W:=by
 obtain ⟨a',c',W,h1,h2,h3,_⟩:=app_bytes w' base v l (hO.pure hB) a n c r ok hr (by have:=hr.1;omega) (by have:=hB.size;omega);exact ⟨_,W,h1,h2,bg (hB.mono hb) (by have:=hB.size;omega) (hO.pure hB) h3⟩
set_option maxHeartbeats 4000000 in
theorem add_short (d:Nat) (x:It) (A:Ad) (base:Nat) (w:World) (ok:Nat→Prop) (v:Value) (l:List UInt8) (hw:It.wf d x=true) (hs:x.kind=8∨x.kind=7∧24≤x.num) (hI:IR ok w x A) (hO:OwnB w base v l) (hl:l.length≤1000000000) (hb:base≤w.heap.size):
 Calls Tryd.prog 41 #[v,.agg #[.int .i64 x.kind,.int .u64 (x.num:Int),.slice A.ab A.nb A.cb,.slice A.ai A.ni A.ci]] w (AD (l ++ It.enc x) base w):=by
 have hn:=hI.num;have P0:=al w (.cells #[.int .i64 x.kind,.int .u64 (x.num:Int),.slice A.ab A.nb A.cb,.slice A.ai A.ni A.ci] 31);obtain ⟨av,cv,rfl⟩:=og hO;cases x with
 | mk k n b ks=>
   simp only [It.kind,It.num] at *;generalize hN':(n:Int)=N at *;have hN:N=n:=hN'.symm;clear hN';have n0:0≤N:=by omega
   rcases hs with rfl | ⟨rfl,h24⟩
   ·have C1:=fun W=>float_any n N hN hn W
    rw [It.enc8];have HO:=dh hO;have HB:=dh hb;have HP:=dh P0;clear hw hI hN hn hO P0 hb;go_enter Tryd.func41,Tryd.ntmps41
    go_wp2_with fail
    generalize w.alloc (.cells #[.int .i64 8,.int .u64 N,.slice A.ab A.nb A.cb,.slice A.ai A.ni A.ci] 31)=w1 at *;refine (C1 _).mono ?_;rintro e w2 h2;obtain ⟨a,c,rfl,_,R2,_,_,B2⟩:=h2.open;have fl:=It.flt_length n;obtain ⟨v',W,hrun,hO',hB'⟩:=app_step (c:=c) (HO.out.pure HP.out) (by have:=HB.out;have:=HP.out.size;omega) B2 R2 (by omega);have HR:=dh hrun;clear hrun;have HO':=dh hO';have HB':=dh ((HP.out.mono HB.out).trans hB');clear h2 R2 B2 hO' hB' fl;go_wp2_with (at_builtin;refine wj rfl _ _ 23 rfl rfl rfl HR.out ?_)
    go_ret
    exact ⟨_,rfl,HO'.out,HB'.out⟩
   ·have h24z:(24:Int)≤N:=by omega
    obtain ⟨hk0,hk⟩:=wf_kinds hw;have h256:N < 256:=by omega
    have e1:It.enc (It.mk 7 n b ks)=[248,UInt8.ofNat n]:=by rw [It.enc7,if_neg (by omega)]
    rw [e1];generalize hW1:w.alloc (.cells #[.int .i64 7,.int .u64 N,.slice A.ab A.nb A.cb,.slice A.ai A.ni A.ci] 31)=w1 at *;have A1:=al w1 (.cells #[.int .u8 248,.int .u8 N] 5);have O1:OwnB (w1.alloc (.cells #[.int .u8 248,.int .u8 N] 5)) 0 (.slice (some ⟨w1.heap.size,0,none⟩) 2 2) [248,UInt8.ofNat n]:=by
     refine own_lits [248,UInt8.ofNat n] w1.heap.size (by simp) ?_ 0 (Nat.zero_le _);rw [aw,bv_eq (byte_of_lt hN h256)];rfl
    have R1:BR (fun _=>True) (w1.alloc (.cells #[.int .u8 248,.int .u8 N] 5)) (some ⟨w1.heap.size,0,none⟩) 2 [248,UInt8.ofNat n]:=by
     obtain ⟨a,c,ea,R,_⟩:=O1.br;cases ea
     exact R.imp fun _ _ _=>trivial
    obtain ⟨v',W,hrun,hO',hB'⟩:=app_step (c:=2) (hO.pure P0) (by have:=P0.size;omega) A1 R1 (by simp;omega);have HO':=dh hO';have HB':=dh ((P0.mono hb).trans hB');have hz1:w1.heap.size=w.heap.size + 1:=by rw [← hW1];simp
    rw [hz1] at hrun;subst hW1;clear hz1;have HR:=dh hrun;clear hrun;clear hw hI hN hn hO P0 hb A1 O1 R1 hO' hB' hk hk0 e1;go_enter Tryd.func41,Tryd.ntmps41
    go_wp2_with (at_builtin;refine wj rfl _ _ 23 rfl rfl rfl HR.out ?_)
    go_ret
    exact ⟨_,rfl,HO'.out,HB'.out⟩
theorem app_box {w w':World} {base B:Nat} {o:Obj} {v:Value} {l r:List UInt8} {a:Option Addr} {n c:Nat} {ok:Nat→Prop} (hO:OwnB w' base v l) (hb:base≤w'.heap.size) (hB:Below base w w') (hr:BR ok w' a n r) (hl:l.length + r.length≤1000000000000) (hX:w'.heap[B]?=some o) (hne:v.ownBlock≠some B):
 ∃ v' W,(Builtin.append_ #[23,23] 23 #[v,.slice a n c]).run Tryd.prog w'=.ok v' W∧OwnB W base v' (l ++ r)∧Below base w W∧w'.heap.size≤W.heap.size∧W.heap[B]?=some o∧v'.ownBlock≠some B:=by
 obtain ⟨a',c',W,h1,h2,h3,h4⟩:=app_bytes w' base v l hO a n c r ok hr (by have:=hr.1;omega) hb;have hl:=lb hX;refine ⟨_,W,h1,h2,bg hB hb hO h3,h3.size,(h3.block B hl fun e=>hne e.symm).trans hX,fun e=>?_⟩;rcases h4 with h4 | h4
 ·exact hne (h4 ▸ e)
 ·rw [h4] at e;cases e;omega
theorem BR.belowB {base:Nat} {w w':World} {a:Option Addr} {n:Nat} {l:List UInt8} (h:BR (fun b=>b < base) w a n l) (k:Below base w w'):BR (fun b=>b < base) w' a n l:=h.keep fun b hb _=>⟨k.block b hb,hb⟩
theorem IR.belowB {base:Nat} {w w':World} {x:It} {A:Ad} (h:IR (fun b=>b < base) w x A) (k:Below base w w'):IR (fun b=>b < base) w' x A:=h.keep fun b hb _=>⟨k.block b hb,hb⟩
theorem TL.belowB {base:Nat} {w w':World} {l:List It} {a:Option Addr} {n:Nat} (h:TL (fun b=>b < base) w l a n) (k:Below base w w'):TL (fun b=>b < base) w' l a n:=h.keep fun b hb _=>⟨k.block b hb,hb⟩
theorem cf {w:World} {b:Nat} {x y z u:Value} {T:Nat} (h:w.heap[b]?=some (.cells #[x,y,z,u] T (0,0))):
 w.cell? ⟨b,0,none⟩=some x∧w.cell? ⟨b,1,none⟩=some y∧w.cell? ⟨b,2,none⟩=some z∧w.cell? ⟨b,3,none⟩=some u:=by
 simp [World.cell?,h]
theorem ck {w w':World} {b:Nat} {x y z u:Value} {T:Nat} (k:Below w.heap.size w w') (H:Hid (w.heap[b]?=some (.cells #[x,y,z,u] T (0,0)))):w'.cell? ⟨b,0,none⟩=some x∧w'.cell? ⟨b,1,none⟩=some y∧w'.cell? ⟨b,2,none⟩=some z∧w'.cell? ⟨b,3,none⟩=some u:=cf (kp k H).out
theorem en (w:World) (k n:Int) (ab:Option Addr) (nb cb:Nat) (ai:Option Addr) (ni ci:Nat):((w.alloc (oc k n ab nb cb ai ni ci)).cell? ⟨w.heap.size,0,none⟩=some (.int .i64 k)∧(w.alloc (oc k n ab nb cb ai ni ci)).cell? ⟨w.heap.size,1,none⟩=some (.int .u64 n)∧(w.alloc (oc k n ab nb cb ai ni ci)).cell? ⟨w.heap.size,2,none⟩=some (.slice ab nb cb)∧(w.alloc (oc k n ab nb cb ai ni ci)).cell? ⟨w.heap.size,3,none⟩=some (.slice ai ni ci))∧Hid (Below w.heap.size w (w.alloc (oc k n ab nb cb ai ni ci)))∧Hid ((w.alloc (oc k n ab nb cb ai ni ci)).heap[w.heap.size]?=some (oc k n ab nb cb ai ni ci)):=
 ⟨cf (aw w _),dh (al w _),dh (aw w _)⟩
def AddC (d:Nat):Prop:=∀ (x:It) (A:Ad) (base:Nat) (w:World) (v:Value) (l:List UInt8),It.wf d x=true→IR (fun b=>b < base) w x A→OwnB w base v l→l.length + (It.enc x).length≤1000000000→base≤w.heap.size→
 Calls Tryd.prog 41 #[v,.agg #[.int .i64 x.kind,.int .u64 (x.num:Int),.slice A.ab A.nb A.cb,.slice A.ai A.ni A.ci]] w (AD (l ++ It.enc x) base w)
set_option maxHeartbeats 4000000 in
theorem add_long (d:Nat) (ih:0 < d→AddC (d - 1)) (x:It) (A:Ad) (base:Nat) (w:World) (v:Value) (l:List UInt8) (hw:It.wf d x=true) (h8:x.kind≠8) (h7:x.kind=7→x.num < 24) (hI:IR (fun b=>b < base) w x A) (hO:OwnB w base v l) (hl:l.length + (It.enc x).length≤1000000000) (hb:base≤w.heap.size):
 Calls Tryd.prog 41 #[v,.agg #[.int .i64 x.kind,.int .u64 (x.num:Int),.slice A.ab A.nb A.cb,.slice A.ai A.ni A.ci]] w (AD (l ++ It.enc x) base w):=by
 obtain ⟨m,c,C,hC,hm,he,hmaj⟩:=major_wf hw h8 h7 hI;have hkids:=fun j h=>wf_kids hw j h
 have hn:=hI.num;have hib:=hI.br;have hit:=hI.tl;have hcaps:=hI.caps;rw [he] at hl ⊢;rw [List.length_append,List.length_append] at hl;clear hw hI he;generalize x.kind=k at *;generalize hN':(x.num:Int)=N at *;have n0:(0:Int)≤N:=by omega
 have h7b:(k==7)=false∨k=7∧N < 24:=by
  by_cases e:k=7
  ·exact .inr ⟨e,by have:=h7 e;omega⟩
  ·exact .inl (by simpa using e)
 clear hn hN' h7;generalize x.bytes=bs at *;generalize x.kids=ks at *;clear x;have b8:(k==8)=false:=by simpa using h8
 obtain ⟨ab,nb,cb,ai,ni,ci⟩:=A;simp only at *;have P0:=al w (.cells #[.int .i64 k,.int .u64 N,.slice ab nb cb,.slice ai ni ci] 31);have N0:=aw w (.cells #[.int .i64 k,.int .u64 N,.slice ab nb cb,.slice ai ni ci] 31);obtain ⟨av,cv,rfl⟩:=og hO;have HO:=dh hO;have HB:=dh hb;have HP:=dh P0;have HIB:=dh hib;have HIT:=dh hit;have HL:=dh hl;have HM:=dh hmaj;have HD:=fun W=>head_any m c C hC m rfl hm W
 have HK:=dh hkids;have HIH:=dh ih;have HNI:Hid (ni=ks.length∧ni≤9223372036854775807):=dh ⟨hit.1,hit.2.1⟩;clear hO hb P0 hib hit hl hmaj hC hm hkids ih h8 hcaps;have HN0:=dh N0;clear N0;rcases h7b with h7b | ⟨rfl,h7b⟩
 all_goals
  go_enter Tryd.func41,Tryd.ntmps41
  go_wp2_with fail
  first
   | generalize w.alloc (.cells #[.int .i64 k,.int .u64 N,.slice ab nb cb,.slice ai ni ci] 31)=w1 at *
   | generalize w.alloc (.cells #[.int .i64 7,.int .u64 N,.slice ab nb cb,.slice ai ni ci] 31)=w1 at *
  refine (HM.out w1).mono ?_;rintro e w2 ⟨rfl,B2⟩;have HB2:=dh (pt HP.out B2);have HN2:=dh (Below.keep B2 HN0.out (lb HN0.out));clear B2;go_wp2_with fail
  refine (HD w2).mono ?_;rintro e w3 h3;obtain ⟨a3,c3,rfl,z1,R3,z2,z3,B3⟩:=h3.open;clear z1 z2 z3;have HN3:=Below.keep B3 HN2.out (lb HN2.out);have HB3:=pt HB2.out B3;obtain ⟨v4,W4,hrun,hO4,hB4,hs4,hN4,hne4⟩:=app_box (w:=w) (base:=base) (c:=c3) (HO.out.pure HB3) (by have:=HB.out;have:=HB3.size;omega) (HB3.mono HB.out) R3 (by have:=HL.out;omega) HN3 (fun e=>by have:=(olt HO.out e).1;omega);have HR:=dh hrun;obtain ⟨v5,W5,hrun5,hO5,hB5,hs5,hN5,z4⟩:=app_box (w:=w) (base:=base) (c:=cb) hO4 (by have:=HB.out;have:=HB3.size;omega) hB4 (HIB.out.belowB hB4) (by rw [List.length_append];have:=HL.out;omega) hN4 hne4;clear z4;have HR5:=dh hrun5;have HO5:=dh hO5;have HB5:=dh hB5;have HS5:Hid (base≤W5.heap.size):=dh (by have:=HB.out;have:=HB3.size;omega);have q2:=(cf hN4).2.2.1;have q3:=(cf hN5).2.2.2;clear h3 R3 B3 HN3 HB3 hrun hO4 hB4 hs4 hN4 hne4 hrun5 hO5 hB5 hs5 hN5;go_wp2_with (first | (at_builtin;refine wj rfl _ _ 23 rfl rfl rfl HR.out ?_;clear HR) | (at_builtin;refine wj rfl _ _ 23 rfl rfl rfl HR5.out ?_;clear HR5))
  clear q2 q3;go_loopw [0,45] (fun v i W=>∃ j:Nat,j≤ni∧i=.int .i64 j∧OwnB W base v (l ++ It.head m c ++ bs ++ It.encs (ks.take j))∧Below base w W∧base≤W.heap.size) (fun _ i _=>ni - (intOf i).toNat)
  case atStart=>exact ⟨0,by omega,rfl,by simpa [It.encs] using HO5.out,HB5.out,HS5.out⟩
  case round=>
   obtain ⟨j,hj,rfl,hO,hBw,hsz⟩:=hrel;have hnb:ni≤9223372036854775807:=HNI.out.2;by_cases hjn:j < ni
   ·have hjk:j < ks.length:=by have:=HNI.out;omega
    obtain ⟨b',o',A',rfl,hb',⟨c0,c1,c2,c3⟩,hI'⟩:=(HIT.out.belowB hBw).2.2 j hjk;obtain ⟨hd,hwk⟩:=HK.out j hjk;have PA:=al wr (.cells #[.int .i64 ks[j].kind,.int .u64 (ks[j].num:Int),.slice A'.ab A'.nb A'.cb,.slice A'.ai A'.ni A'.ci] 31);have e1:=encs_take_succ hjk;have e2:=encs_take_le ks (j + 1);have e3:(It.encs (ks.take (j + 1))).length=(It.encs (ks.take j)).length + (It.enc ks[j]).length:=by rw [e1,List.length_append]
    have CC:=HIH.out hd ks[j] A' base (wr.alloc (.cells #[.int .i64 ks[j].kind,.int .u64 (ks[j].num:Int),.slice A'.ab A'.nb A'.cb,.slice A'.ai A'.ni A'.ci] 31)) _ _ hwk (hI'.below PA) (hO.pure PA) (by rw [List.length_append,List.length_append,List.length_append];have:=HL.out;omega) (by have:=PA.size;omega);have HCC:=dh CC;have HE1:=dh e1;have HBW:=dh (hBw.trans (PA.mono hsz));have HSZ:=dh (Nat.le_trans hsz PA.size);have hlt:(j:Int) < (ni:Int):=by omega
    clear hO hBw hI' hwk hd PA e1 e2 e3 CC;generalize ks[j]=y at *;go_wp2_with fail
    refine HCC.out.mono ?_;rintro e w6 ⟨v6,rfl,O6,B6⟩;have HO6:=dh O6;have HB6:=dh (HBW.out.trans B6);have HS6:Hid (base≤w6.heap.size):=dh (by have:=HSZ.out;have:=B6.size;omega);clear O6 B6 c0 c1 c2 c3;go_wp2_with fail
    go_roundw
    case rel=>exact ⟨j + 1,by omega,by go_num,by rw [HE1.out,← List.append_assoc];exact HO6.out,HB6.out,HS6.out⟩
    case measure=>simp [intOf];omega
   ·obtain rfl:j=ni:=by omega
    have HO7:=dh hO;have HB7:=dh hBw;clear hO hBw hsz;go_wp2_with fail
    go_ret
    refine ⟨_,rfl,?_,HB7.out⟩;have h1:=HO7.out;rw [List.take_of_length_le (by have:=HNI.out;omega)] at h1;simpa [List.append_assoc] using h1
theorem add_any:∀ d,AddC d
 | 0=>fun x A base w v l hw hI hO hl hb=>by
   by_cases h8:x.kind=8∨x.kind=7∧24≤x.num
   ·exact add_short 0 x A base w _ v l hw h8 hI hO (by omega) hb
   ·exact add_long 0 (fun h=>by omega) x A base w v l hw (fun h=>h8 (.inl h)) (fun h=>by have:¬ 24≤x.num:=fun h'=>h8 (.inr ⟨h,h'⟩);omega) hI hO hl hb
 | d + 1=>fun x A base w v l hw hI hO hl hb=>by
   by_cases h8:x.kind=8∨x.kind=7∧24≤x.num
   ·exact add_short (d + 1) x A base w _ v l hw h8 hI hO (by omega) hb
   ·exact add_long (d + 1) (fun _=>add_any d) x A base w v l hw (fun h=>h8 (.inl h)) (fun h=>by have:¬ 24≤x.num:=fun h'=>h8 (.inr ⟨h,h'⟩);omega) hI hO hl hb
def cells4 (e:It × Ad):List Value:=[.int .i64 e.1.kind,.int .u64 (e.1.num:Int),.slice e.2.ab e.2.nb e.2.cb,.slice e.2.ai e.2.ni e.2.ci]
def okQ (Q:Nat→Prop) (v:Value) (b:Nat):Prop:=Q b∧v.ownBlock≠some b
structure OutI (W:World) (base:Nat) (Q:Nat→Prop) (v:Value) (es:List (It × Ad)):Prop where
 row:W.ownsRow base 31 4 v es.length (es.flatMap cells4)
 each:∀ e ∈ es,IR (okQ Q v) W e.1 e.2
theorem OutI.nil (W:World) (base:Nat) (Q:Nat→Prop):OutI W base Q (.slice none 0 0) []:=⟨⟨rfl,.inl ⟨rfl,rfl⟩⟩,fun e h=>by simp at h⟩
theorem OutI.keep {W W':World} {base:Nat} {Q:Nat→Prop} {v:Value} {es:List (It × Ad)} (h:OutI W base Q v es) (hr:∀ g,v.ownBlock=some g→W'.heap[g]?=W.heap[g]?) (hk:∀ b,Q b→b < W.heap.size→W'.heap[b]?=W.heap[b]?):OutI W' base Q v es:=
 ⟨own_keep h.row hr,fun e he=>(h.each e he).keep fun b hb hl=>⟨hk b hb.1 hl,hb⟩⟩
theorem OutI.pure {W W':World} {base:Nat} {Q:Nat→Prop} {v:Value} {es:List (It × Ad)} (h:OutI W base Q v es) (hB:Below W.heap.size W W'):OutI W' base Q v es:=
 h.keep (fun g hg=>hB.block g (olt h.row hg).1) fun b _ hl=>hB.block b hl
theorem OutI.but {W W':World} {base X:Nat} {Q:Nat→Prop} {v:Value} {es:List (It × Ad)} (h:OutI W base Q v es) (hB:But X W W') (hQ:∀ b,Q b→b≠X) (hX:v.ownBlock≠some X):OutI W' base Q v es:=
 h.keep (fun g hg=>hB.block g (olt h.row hg).1 (fun e=>hX (e ▸ hg))) fun b hb hl=>hB.block b hl (hQ b hb)
theorem OutI.imp {W:World} {base:Nat} {Q Q':Nat→Prop} {v:Value} {es:List (It × Ad)} (h:OutI W base Q v es) (hQ:∀ b,Q b→b < W.heap.size→Q' b):OutI W base Q' v es:=
 ⟨h.row,fun e he=>(h.each e he).imp fun b hb hl=>⟨hQ b hb.1 hl,hb.2⟩⟩
theorem OutI.lower {W:World} {base base':Nat} {Q:Nat→Prop} {v:Value} {es:List (It × Ad)} (h:OutI W base Q v es) (hb:base'≤base):OutI W base' Q v es:=by
 refine ⟨⟨h.row.1,?_⟩,h.each⟩;rcases h.row.2 with h | ⟨g,cap,cur,e1,e2,r⟩
 ·exact .inl h
 ·exact .inr ⟨g,cap,cur,e1,Nat.le_trans hb e2,r⟩
theorem inf26:(Tryd.prog.info? 31).map (fun i=>(i.zero,i.size,i.bytes))=some (some (.agg #[.int .i64 0,.int .u64 0,.slice none 0 0,.slice none 0 0]),4,64):=by kernel_rfl
theorem flat4_len (es:List (It × Ad)):(es.flatMap cells4).length=es.length * 4:=by
 induction es with
 | nil=>rfl
 | cons e es ih=>simp only [List.flatMap_cons,List.length_append,ih,List.length_cons];simp [cells4];omega
theorem flat4_get:∀ (es:List (It × Ad)) (i:Nat) (h:i < es.length) (j:Nat),j < 4→(es.flatMap cells4)[i * 4 + j]?=(cells4 es[i])[j]?
 | [],i,h,_,_=>by simp at h
 | e :: es,i,h,j,hj=>by
   rw [List.flatMap_cons];cases i with
   | zero=>rw [List.getElem?_append_left (by simp [cells4];omega)];simp
   | succ i=>
     rw [List.getElem?_append_right (by simp [cells4];omega)];have:(i + 1) * 4 + j - (cells4 e).length=i * 4 + j:=by simp [cells4];omega
     rw [this,flat4_get es i (by simpa using h) j hj];simp
theorem flat4_one (es:List (It × Ad)):∀ u ∈ es.flatMap cells4,u.oneCell'=true:=fun u hu=>by
 obtain ⟨e,_,h⟩:=List.mem_flatMap.1 hu;simp [cells4] at h;rcases h with rfl | rfl | rfl | rfl <;> rfl
def SrcI (w:World) (a:Option Addr) (m:Nat) (es:List (It × Ad)):Prop:=m=es.length∧∀ j u,(es.flatMap cells4)[j]?=some u→∃ b o,a=some ⟨b,o,none⟩∧w.cell? ⟨b,o + j,none⟩=some u
theorem KR_src {ok:Nat→Prop} {w:World} {a:Option Addr}:∀ (l:List It) (i:Nat),KR ok w l a i→∃ es:List (It × Ad),es.map (·.1)=l∧(∀ j u,(es.flatMap cells4)[j]?=some u→∃ b o,a=some ⟨b,o,none⟩∧w.cell? ⟨b,o + (i * 4 + j),none⟩=some u)∧∀ e ∈ es,IR ok w e.1 e.2
 | [],_,_=>⟨[],rfl,fun j u h=>by simp at h,fun e h=>by simp at h⟩
 | k :: ks,i,h=>by
   unfold KR at h;obtain ⟨⟨b,o,A,rfl,hb,⟨c0,c1,c2,c3⟩,hI⟩,h⟩:=h;obtain ⟨es,e1,e2,e3⟩:=KR_src ks (i + 1) h;refine ⟨(k,A) :: es,by simp [e1],fun j u hu=>?_,fun e he=>?_⟩
   ·rw [List.flatMap_cons] at hu
    by_cases hj:j < 4
    ·rw [List.getElem?_append_left (by simpa [cells4] using hj)] at hu
     refine ⟨b,o,rfl,?_⟩;rw [← Nat.add_assoc];rcases (show j=0∨j=1∨j=2∨j=3 by omega) with rfl | rfl | rfl | rfl <;> simp [cells4] at hu <;> subst hu <;> assumption
    ·rw [List.getElem?_append_right (by simp [cells4];omega)] at hu
     obtain ⟨b',o',h1,h2⟩:=e2 _ u hu;refine ⟨b',o',h1,?_⟩;have:(i + 1) * 4 + (j - (cells4 (k,A)).length)=i * 4 + j:=by simp [cells4];omega
     rw [← this];exact h2
   ·rcases List.mem_cons.1 he with rfl | he
    ·exact hI
    ·exact e3 e he
theorem TL.src {ok:Nat→Prop} {w:World} {l:List It} {a:Option Addr} {n:Nat} (h:TL ok w l a n):∃ es:List (It × Ad),es.map (·.1)=l∧SrcI w a n es∧∀ e ∈ es,IR ok w e.1 e.2:=by
 have hk:=(KR_iff (ok:=ok) (w:=w) (a:=a) l 0).2 fun j hj=>by rw [Nat.zero_add];exact h.2.2 j hj
 obtain ⟨es,e1,e2,e3⟩:=KR_src l 0 hk;refine ⟨es,e1,⟨by rw [h.1,← e1,List.length_map],fun j u hu=>?_⟩,e3⟩;obtain ⟨b,o,h1,h2⟩:=e2 j u hu;exact ⟨b,o,h1,by simpa using h2⟩
theorem SrcI.keep {w w':World} {a:Option Addr} {m:Nat} {es:List (It × Ad)} (h:SrcI w a m es) (hk:∀ b o,a=some ⟨b,o,none⟩→b < w.heap.size→w'.heap[b]?=w.heap[b]?):SrcI w' a m es:=
 ⟨h.1,fun j u hu=>by
  obtain ⟨b,o,h1,h2⟩:=h.2 j u hu;exact ⟨b,o,h1,(cu (hk b o h1 (lg h2))).trans h2⟩⟩
theorem SrcI.one {w:World} {b:Nat} {e:It × Ad} {T:Nat} (h:w.heap[b]?=some (.cells #[.int .i64 e.1.kind,.int .u64 (e.1.num:Int),.slice e.2.ab e.2.nb e.2.cb,.slice e.2.ai e.2.ni e.2.ci] T (0,0))):SrcI w (some ⟨b,0,none⟩) 1 [e]:=by
 refine ⟨rfl,fun j u hu=>⟨b,0,rfl,?_⟩⟩;rw [Nat.zero_add,cr h];simpa [cells4] using hu
theorem SrcI.two {w:World} {b:Nat} {e f:It × Ad} {T:Nat} (h:w.heap[b]?=some (.cells #[.int .i64 e.1.kind,.int .u64 (e.1.num:Int),.slice e.2.ab e.2.nb e.2.cb,.slice e.2.ai e.2.ni e.2.ci,.int .i64 f.1.kind,.int .u64 (f.1.num:Int),.slice f.2.ab f.2.nb f.2.cb,.slice f.2.ai f.2.ni f.2.ci] T (0,0))):SrcI w (some ⟨b,0,none⟩) 2 [e,f]:=by
 refine ⟨rfl,fun j u hu=>⟨b,0,rfl,?_⟩⟩;rw [Nat.zero_add,cr h];simpa [cells4] using hu
theorem OutI.app {W:World} {base:Nat} {Q:Nat→Prop} {v:Value} {es news:List (It × Ad)} (h:OutI W base Q v es) {a:Option Addr} {m c:Nat} (hs:SrcI W a m news) (hI:∀ e ∈ news,IR (okQ Q v) W e.1 e.2) (hsz:es.length + m≤1000000) (hb:base≤W.heap.size):
 ∃ v' W',(Builtin.append_ #[29,29] 29 #[v,.slice a m c]).run Tryd.prog W=.ok v' W'∧OutI W' base Q v' (es ++ news)∧W.grownBy W' v.ownBlock∧(v'.ownBlock=v.ownBlock∨v'.ownBlock=some W.heap.size):=by
 obtain ⟨i0,hi,hz0,hz1,hz2⟩:=info_parts inf26;obtain ⟨hm,hc⟩:=hs;cases a with
 | none=>
   have hn:news=[]:=by
    cases news with
    | nil=>rfl
    | cons x r=>obtain ⟨b,o,h,_⟩:=hc 0 (.int .i64 x.1.kind) (by simp [cells4]);cases h
   subst hn;simp at hm;subst hm;refine ⟨v,W,?_,by simpa using h,⟨rfl,rfl,rfl,Nat.le_refl _,fun _ _ _=>rfl⟩,.inl rfl⟩;have ht:=Tryd.underlying29;rcases h.row.2 with ⟨rfl,he⟩ | ⟨g,cap,cur,rfl,_,_,hnc,_⟩
   ·simp [Builtin.append_,run_underlying ht,sizeOf,typeInfo,hi,Builtin.lenOf,Builtin.firstCells]
   ·simp [Builtin.append_,run_underlying ht,sizeOf,typeInfo,hi,Builtin.lenOf,Builtin.firstCells,hnc,storeCells]
 | some ad=>
   obtain ⟨v',W',h2,h3,h4,_,h5⟩:=run_append_own_at (P:=Tryd.prog) W base 29 29 31 i0 _ 4 64 Tryd.underlying29 hi hz0 hz1 hz2 rfl (by omega) v es.length _ h.row ad m c (news.flatMap cells4) (by rw [flat4_len,hm]) (fun j u hu=>by
    obtain ⟨b,o,h,hcell⟩:=hc j u hu;cases h
    have hadd:(⟨b,o,none⟩:Addr).add j=⟨b,o + j,none⟩:=by unfold Addr.add;split <;> simp_all
    rw [hadd];exact hcell) (flat4_one news) (by unfold maxLen;omega) (by omega) hb
   have hk:∀ b,okQ Q v b→b < W.heap.size→W'.heap[b]?=W.heap[b]?∧okQ Q v' b:=fun b hb hl=>⟨h4.block b hl (fun e=>hb.2 e.symm),hb.1,fun e=>by
    rcases h5 with h5 | h5
    ·exact hb.2 (h5 ▸ e)
    ·rw [h5] at e;cases e;omega⟩
   refine ⟨v',W',h2,⟨?_,fun e he=>?_⟩,h4,h5⟩
   ·rw [List.length_append,List.flatMap_append,← hm]
    exact h3
   ·rcases List.mem_append.1 he with he | he
    ·exact (h.each e he).keep hk
    ·exact (hI e he).keep hk
theorem OutI.cap {W:World} {base:Nat} {Q:Nat→Prop} {v:Value} {es:List (It × Ad)} (h:OutI W base Q v es):∃ a c,v=.slice a es.length c∧es.length≤c∧c≤9223372036854775807∧(es=[]∨∃ g,a=some ⟨g,0,none⟩∧base≤g∧v.ownBlock=some g)∧∀ j u,(es.flatMap cells4)[j]?=some u→∃ b o,a=some ⟨b,o,none⟩∧W.cell? ⟨b,o + j,none⟩=some u:=by
 rcases h.row.2 with ⟨rfl,he⟩ | ⟨g,cap,cur,rfl,hb,hh,hn,hc,_,ht⟩
 ·have:es=[]:=by
   have:=h.row.1;cases es with
   | nil=>rfl
   | cons e es=>simp at he
  subst this;exact ⟨none,0,rfl,by simp,by omega,.inl rfl,fun j u hu=>by simp at hu⟩
 ·refine ⟨_,cap,rfl,hn,by unfold maxLen at hc;omega,.inr ⟨g,rfl,hb,rfl⟩,fun j u hu=>⟨g,0,rfl,?_⟩⟩
  rw [Nat.zero_add,cr hh];rw [← ht,List.getElem?_take] at hu
  split at hu
  ·simpa using hu
  ·cases hu
theorem OutI.cells {W:World} {base:Nat} {Q:Nat→Prop} {v:Value} {es:List (It × Ad)} (h:OutI W base Q v es):∃ a c,v=.slice a es.length c∧es.length≤c∧c≤9223372036854775807∧(es=[]∨∃ g,a=some ⟨g,0,none⟩∧base≤g∧v.ownBlock=some g)∧SrcI W a es.length es:=by
 obtain ⟨a,c,h1,h2,h3,h4,h5⟩:=h.cap;exact ⟨a,c,h1,h2,h3,h4,rfl,h5⟩
theorem OutI.tl {W:World} {base:Nat} {Q:Nat→Prop} {v:Value} {es:List (It × Ad)} (h:OutI W base Q v es):∃ a c,v=.slice a es.length c∧TL (fun b=>base≤b∨Q b) W (es.map (·.1)) a es.length∧es.length≤c∧c≤9223372036854775807:=by
 obtain ⟨a,c,rfl,h2,h3,h4,h5⟩:=h.cap;refine ⟨a,c,rfl,⟨by simp,by omega,fun j hj=>?_⟩,h2,h3⟩;have hj':j < es.length:=by simpa using hj
 have g0:=flat4_get es j hj' 0 (by omega);have g1:=flat4_get es j hj' 1 (by omega);have g2:=flat4_get es j hj' 2 (by omega);have g3:=flat4_get es j hj' 3 (by omega);simp only [cells4,List.getElem?_cons_zero,List.getElem?_cons_succ] at g0 g1 g2 g3;rcases h4 with h4 | ⟨g,rfl,hg,_⟩
 ·subst h4;simp at hj'
 ·have hc:∀ j u,(es.flatMap cells4)[j]?=some u→W.cell? ⟨g,0 + j,none⟩=some u:=fun j u hu=>by
   obtain ⟨b,o,e1,e2⟩:=h5 j u hu;cases e1;exact e2
  refine ⟨g,0,es[j].2,rfl,.inl hg,?_,?_⟩
  ·rw [List.getElem_map]
   exact ⟨by have:=hc _ _ g0;simpa using this,by have:=hc _ _ g1;simpa [Nat.add_assoc] using this,by have:=hc _ _ g2;simpa [Nat.add_assoc] using this,by have:=hc _ _ g3;simpa [Nat.add_assoc] using this⟩
  ·rw [List.getElem_map]
   exact (h.each _ (List.getElem_mem hj')).imp fun b hb _=>.inr hb.1
def CPost (x:It) (w:World) (e:Ending) (w':World):Prop:=∃ vb vi es,e=.returned (.agg #[.int .i64 x.kind,.int .u64 (x.num:Int),vb,vi])∧OwnB w' w.heap.size vb x.bytes∧OutI w' w.heap.size (fun b=>w.heap.size≤b∧vb.ownBlock≠some b) vi es∧(∀ g,vb.ownBlock=some g→vi.ownBlock≠some g)∧es.map (·.1)=x.kids∧Below w.heap.size w w'
theorem mk_ir {W:World} {base:Nat} {Q:Nat→Prop} {k:Int} {n:Nat} {bs:List UInt8} {vb vi:Value} {es:List (It × Ad)} (hn:n < 18446744073709551616) (hb:OwnB W base vb bs) (hi:OutI W base Q vi es):∃ A:Ad,vb=.slice A.ab A.nb A.cb∧vi=.slice A.ai A.ni A.ci∧IR (fun b=>base≤b∨Q b) W (.mk k n bs (es.map (·.1))) A:=by
 obtain ⟨a,c,rfl,h1,h2,h3⟩:=hb.br;obtain ⟨a',c',rfl,h4,h5,h6⟩:=hi.tl;refine ⟨⟨a,bs.length,c,a',es.length,c'⟩,rfl,rfl,IR_iff.2 ⟨hn,⟨h1.imp fun b hb _=>.inl hb,h2,h3⟩,?_,h5,h6⟩⟩;exact h4
theorem CPost.ir {x:It} {w:World} {e:Ending} {w':World} (h:CPost x w e w') (hn:x.num < 18446744073709551616):∃ A:Ad,e=.returned (.agg #[.int .i64 x.kind,.int .u64 (x.num:Int),.slice A.ab A.nb A.cb,.slice A.ai A.ni A.ci])∧IR (fun b=>w.heap.size≤b) w' x A∧Below w.heap.size w w':=by
 obtain ⟨vb,vi,es,rfl,h1,h2,h3,h4,h5⟩:=h;obtain ⟨A,rfl,rfl,h6⟩:=mk_ir (k:=x.kind) hn h1 h2;rw [h4,It.eta] at h6;exact ⟨A,rfl,h6.imp fun b hb _=>by rcases hb with hb | hb;exact hb;exact hb.1,h5⟩
structure CL (w:World) (Y R:Nat) (vb:Value) (k N:Int) (bs:List UInt8) (W:World) (v:Value) (es:List (It × Ad)):Prop where
 out:OutI W w.heap.size (fun b=>w.heap.size≤b∧b≠Y∧b≠R∧vb.ownBlock≠some b) v es
 own:OwnB W w.heap.size vb bs
 sep:∀ g,vb.ownBlock=some g→v.ownBlock≠some g
 sY:v.ownBlock≠some Y
 bY:vb.ownBlock≠some Y
 sR:v.ownBlock≠some R
 bR:vb.ownBlock≠some R
 blk:W.heap[Y]?=some (.cells #[.int .i64 k,.int .u64 N,vb,.slice none 0 0] 31 (0,0))
 res:W.heap[R]?=some (.cells #[.int .i64 0,.int .u64 0,.slice none 0 0,.slice none 0 0] 31 (0,0))
 bel:Below w.heap.size w W
 hY:w.heap.size≤Y
 hR:w.heap.size≤R
 YR:Y≠R
theorem CL.pure {w:World} {Y R:Nat} {vb:Value} {k N:Int} {bs:List UInt8} {W W':World} {v:Value} {es:List (It × Ad)} (h:CL w Y R vb k N bs W v es) (hB:Below W.heap.size W W'):CL w Y R vb k N bs W' v es:=
 ⟨h.out.pure hB,h.own.pure hB,h.sep,h.sY,h.bY,h.sR,h.bR,Below.keep hB h.blk (lb h.blk),Below.keep hB h.res (lb h.res),pt h.bel hB,h.hY,h.hR,h.YR⟩
theorem CL.push {w:World} {Y R:Nat} {vb:Value} {k N:Int} {bs:List UInt8} {W:World} {v:Value} {es:List (It × Ad)} (h:CL w Y R vb k N bs W v es) {W6:World} (hB:Below W.heap.size W W6) {y:It} {A:Ad} (hI:IR (fun b=>W.heap.size≤b) W6 y A) (T c:Nat) (hsz:es.length≤100000):
 ∃ v' W',(Builtin.append_ #[29,29] 29 #[v,.slice (some ⟨W6.heap.size,0,none⟩) 1 c]).run Tryd.prog (W6.alloc (.cells #[.int .i64 y.kind,.int .u64 (y.num:Int),.slice A.ab A.nb A.cb,.slice A.ai A.ni A.ci] T))=.ok v' W'∧CL w Y R vb k N bs W' v' (es ++ [(y,A)]):=by
 have hP:=al W6 (.cells #[.int .i64 y.kind,.int .u64 (y.num:Int),.slice A.ab A.nb A.cb,.slice A.ai A.ni A.ci] T);have hN:=aw W6 (.cells #[.int .i64 y.kind,.int .u64 (y.num:Int),.slice A.ab A.nb A.cb,.slice A.ai A.ni A.ci] T);have hY6:=lb h.blk;have hR6:=lb h.res;have h7:=h.pure (pt hB hP);have hI7:=hI.below hP;generalize W6.alloc (.cells #[.int .i64 y.kind,.int .u64 (y.num:Int),.slice A.ab A.nb A.cb,.slice A.ai A.ni A.ci] T)=W7 at *;obtain ⟨v',W',hrun,h8,h9,h10⟩:=h7.out.app (news:=[(y,A)]) (c:=c) (SrcI.one hN) (fun e he=>by
  simp only [List.mem_singleton] at he;subst he;refine hI7.imp fun b hb _=>⟨⟨Nat.le_trans h.bel.size hb,by omega,by omega,fun e=>?_⟩,fun e=>?_⟩
  ·have:=olt h.own e;omega
  ·have:=olt h.out.row e;omega) (by omega) h7.bel.size
 have hs7:W.heap.size≤W7.heap.size:=Nat.le_trans hB.size hP.size;have hw7:=h7.bel.size;refine ⟨v',W',hrun,⟨h8,?_,fun g hg=>?_,?_,h.bY,?_,h.bR,?_,?_,bg h7.bel hw7 h7.out.row h9,h.hY,h.hR,h.YR⟩⟩
 ·exact own_keep h7.own fun g hg=>h9.block g (olt h7.own hg).1 (fun e=>h7.sep g hg e.symm)
 ·rcases h10 with h10 | h10
  ·rw [h10];exact h.sep g hg
  ·rw [h10];intro e;cases e;have:=olt h7.own hg;omega
 ·rcases h10 with h10 | h10
  ·rw [h10];exact h.sY
  ·rw [h10];intro e;cases e;omega
 ·rcases h10 with h10 | h10
  ·rw [h10];exact h.sR
  ·rw [h10];intro e;cases e;omega
 ·exact (h9.block Y (lb h7.blk) fun e=>h7.sY e.symm).trans h7.blk
 ·exact (h9.block R (lb h7.res) fun e=>h7.sR e.symm).trans h7.res
theorem CL.stop {w:World} {Y R:Nat} {vb:Value} {n:Nat} {k:Int} {bs:List UInt8} {W W':World} {v:Value} {es:List (It × Ad)} (h:CL w Y R vb k (n:Int) bs W v es) (hs:W.heap.size≤W'.heap.size) (hq:W'.os=W.os∧W'.tape=W.tape∧W'.output=W.output) (hk:∀ b,b < W.heap.size→b≠Y→b≠R→W'.heap[b]?=W.heap[b]?) {x:It} (hx:x=.mk k n bs (es.map (·.1))):CPost x w (.returned (.agg #[.int .i64 k,.int .u64 (n:Int),vb,v])) W':=by
 subst hx;refine ⟨vb,v,es,rfl,?_,?_,h.sep,rfl,?_⟩
 ·exact own_keep h.own fun g hg=>hk g (olt h.own hg).1 (fun e=>h.bY (e ▸ hg)) fun e=>h.bR (e ▸ hg)
 ·exact (h.out.keep (fun g hg=>hk g (olt h.out.row hg).1 (fun e=>h.sY (e ▸ hg)) fun e=>h.sR (e ▸ hg)) fun b hb hl=>hk b hl hb.2.1 hb.2.2.1).imp fun b hb _=>⟨hb.1,hb.2.2.2⟩
 ·exact ⟨hq.1.trans h.bel.os,hq.2.1.trans h.bel.tape,hq.2.2.trans h.bel.output,Nat.le_trans h.bel.size hs,fun b hb=>(hk b (Nat.lt_of_lt_of_le hb h.bel.size) (by have:=h.hY;omega) (by have:=h.hR;omega)).trans (h.bel.block b hb)⟩
theorem app_nil {w:World} {a:Option Addr} {n c:Nat} {r:List UInt8} {ok:Nat→Prop} (hr:BR ok w a n r) (hl:r.length≤1000000000):∃ v' W',(Builtin.append_ #[23,23] 23 #[.slice none 0 0,.slice a n c]).run Tryd.prog w=.ok v' W'∧OwnB W' w.heap.size v' r∧Below w.heap.size w W':=by
 obtain ⟨v',W',h1,h2,h3⟩:=app_step (c:=c) (OwnB.nil w w.heap.size) (Nat.le_refl _) (Below.refl _ _) hr (by simp;omega);exact ⟨v',W',h1,by simpa using h2,h3⟩
theorem CL.begin {w w1 W:World} {Y:Nat} {vb:Value} {k N:Int} {bs:List UInt8} (hP:Below w.heap.size w w1) (hR:w1.heap[w.heap.size + 1]?=some (.cells #[.int .i64 0,.int .u64 0,.slice none 0 0,.slice none 0 0] 31 (0,0))) (hs:w1.heap.size=w.heap.size + 2) (hB:Below w1.heap.size w1 W) (hO:OwnB W w1.heap.size vb bs)
 (hY:W.heap[Y]?=some (.cells #[.int .i64 k,.int .u64 N,vb,.slice none 0 0] 31 (0,0))) (hY1:w1.heap.size≤Y) (hYb:vb.ownBlock≠some Y):CL w Y (w.heap.size + 1) vb k N bs W (.slice none 0 0) []:=
 ⟨OutI.nil _ _ _,hO.lower (by omega),(fun g _ e=>by cases e),(fun e=>by cases e),hYb,(fun e=>by cases e),(fun e=>by have:=olt hO e;omega),hY,Below.keep hB hR (by omega),pt hP hB,by omega,by omega,by omega⟩
theorem ff {w:World} {b:Nat} {x y z u:Value} {T:Nat} (h:w.heap[b]?=some (.cells #[x,y,z,u] T (0,0))):
 w.frozen? ⟨b,0,none⟩=false∧w.frozen? ⟨b,1,none⟩=false∧w.frozen? ⟨b,2,none⟩=false∧w.frozen? ⟨b,3,none⟩=false:=by
 simp [World.frozen?,h]
theorem put4 {W:World} {b:Nat} {a0 a1 a2 a3:Value} {T:Nat} (h:W.heap[b]?=some (.cells #[a0,a1,a2,a3] T (0,0))) (b0 b1 b2 b3:Value):((((W.setCell ⟨b,0,none⟩ b0).setCell ⟨b,1,none⟩ b1).setCell ⟨b,2,none⟩ b2).setCell ⟨b,3,none⟩ b3).heap[b]?=some (.cells #[b0,b1,b2,b3] T (0,0)):=by
 have h0:=sar h 0 b0;have h1:=sar h0 1 b1;have h2:=sar h1 2 b2;have h3:=sar h2 3 b3;rw [h3];simp
theorem pk {W:World} {b:Nat} (b0 b1 b2 b3:Value):((((W.setCell ⟨b,0,none⟩ b0).setCell ⟨b,1,none⟩ b1).setCell ⟨b,2,none⟩ b2).setCell ⟨b,3,none⟩ b3).heap.size=W.heap.size∧∀ k,k≠b→((((W.setCell ⟨b,0,none⟩ b0).setCell ⟨b,1,none⟩ b1).setCell ⟨b,2,none⟩ b2).setCell ⟨b,3,none⟩ b3).heap[k]?=W.heap[k]?:=by
 refine ⟨by simp [World.setCell],fun k hk=>?_⟩;have h:k≠b:=hk;rw [Below.heap_setCell _ _ _ _ h,Below.heap_setCell _ _ _ _ h,Below.heap_setCell _ _ _ _ h,Below.heap_setCell _ _ _ _ h]
theorem put4_below {n:Nat} {u W:World} {b:Nat} (h:Below n u W) (hb:n≤b) (b0 b1 b2 b3:Value):Below n u ((((W.setCell ⟨b,0,none⟩ b0).setCell ⟨b,1,none⟩ b1).setCell ⟨b,2,none⟩ b2).setCell ⟨b,3,none⟩ b3):=
 (((h.setCell (p:=⟨b,0,none⟩) hb b0).setCell (p:=⟨b,1,none⟩) hb b1).setCell (p:=⟨b,2,none⟩) hb b2).setCell (p:=⟨b,3,none⟩) hb b3
theorem pq {W:World} {b:Nat} {a0 a1 a2 a3:Value} {T:Nat} (h:W.heap[b]?=some (.cells #[a0,a1,a2,a3] T (0,0))) (b0 b1 b2 b3:Value):∃ W',(((W.setCell ⟨b,0,none⟩ b0).setCell ⟨b,1,none⟩ b1).setCell ⟨b,2,none⟩ b2).setCell ⟨b,3,none⟩ b3=W'∧W'.heap[b]?=some (.cells #[b0,b1,b2,b3] T (0,0))∧(W'.heap.size=W.heap.size∧∀ k,k≠b→W'.heap[k]?=W.heap[k]?)∧∀ (n:Nat) (u:World),Below n u W→n≤b→Below n u W':=
 ⟨_,rfl,put4 h ..,pk ..,fun _ _ h1 h2=>put4_below h1 h2 ..⟩
theorem pm {W:World} {b:Nat} (b0 b1 b2 b3:Value):((((W.setCell ⟨b,0,none⟩ b0).setCell ⟨b,1,none⟩ b1).setCell ⟨b,2,none⟩ b2).setCell ⟨b,3,none⟩ b3).os=W.os∧((((W.setCell ⟨b,0,none⟩ b0).setCell ⟨b,1,none⟩ b1).setCell ⟨b,2,none⟩ b2).setCell ⟨b,3,none⟩ b3).tape=W.tape∧((((W.setCell ⟨b,0,none⟩ b0).setCell ⟨b,1,none⟩ b1).setCell ⟨b,2,none⟩ b2).setCell ⟨b,3,none⟩ b3).output=W.output:=⟨rfl,rfl,rfl⟩
theorem and7:∀ X:Fin 256,bits .and .u8 ((X.val:Nat):Int) 7=((X.val % 8:Nat):Int):=by decide
def At (w:World) (b o:Nat) (t:ByteArray):Prop:=∀ i,i < t.size→w.cell? ⟨b,o + i,none⟩=some (.int .u8 ((t.get! i).toNat:Int))
theorem At.below {w w':World} {b o:Nat} {t:ByteArray} (h:At w b o t) (k:Below w.heap.size w w'):At w' b o t:=fun i hi=>(k.cell (p:=⟨b,o + i,none⟩) (lg (h i hi))).trans (h i hi)
theorem ext_get {t:ByteArray} {k i:Nat} (h:k + i < t.size):(t.extract k t.size).get! i=t.get! (k + i):=by
 rw [← Lib.getD_get!',← Lib.getD_get!',Lib.ext_list];simp [List.getElem?_drop]
theorem At.ext {w:World} {b o:Nat} {t:ByteArray} (h:At w b o t) (k:Nat):At w b (o + k) (t.extract k t.size):=fun i hi=>by
 rw [Lib.ext_size] at hi;rw [ext_get (by omega),Nat.add_assoc];exact h (k + i) (by omega)
def SB (w:World) (v:Value) (t:ByteArray):Prop:=∃ a,v=.slice a t.size t.size∧(0 < t.size→∃ b o,a=some ⟨b,o,none⟩∧At w b o t)
theorem SB.of {w:World} {b o:Nat} {t:ByteArray} (h:At w b o t) (n:Nat) (hn:n=t.size):SB w (.slice (some ⟨b,o,none⟩) n n) t:=by subst hn;exact ⟨_,rfl,fun _=>⟨b,o,rfl,h⟩⟩
theorem SB.empty {w:World} {a:Option Addr} {t:ByteArray} (h:t.size=0) (n:Nat) (hn:n=0):SB w (.slice a n n) t:=by subst hn;exact ⟨a,by rw [h],fun h'=>by omega⟩
set_option maxHeartbeats 8000000 in
theorem word_any (t:ByteArray) (b o n c:Nat) (w:World) (h:At w b o t) (hs:8≤t.size) (hn:n=t.size):
 Calls Tryd.prog 87 #[.slice (some ⟨b,o,none⟩) n c] w fun e w'=>e=.returned (.int .u64 (Lib.leNat [t.get! 0,t.get! 1,t.get! 2,t.get! 3,t.get! 4,t.get! 5,t.get! 6,t.get! 7]))∧∃ q,w'=w.drewN q:=by
 have hs0:=h 0 (by omega);have hs1:=h 1 (by omega);have hs2:=h 2 (by omega);have hs3:=h 3 (by omega);have hs4:=h 4 (by omega);have hs5:=h 5 (by omega);have hs6:=h 6 (by omega);have hs7:=h 7 (by omega);have hsz:=dh hs;clear h;generalize t.get! 0=x0 at *;have h0:x0.toNat < 256:=x0.toNat_lt;generalize t.get! 1=x1 at *;have h1:x1.toNat < 256:=x1.toNat_lt;generalize t.get! 2=x2 at *;have h2:x2.toNat < 256:=x2.toNat_lt;generalize t.get! 3=x3 at *;have h3:x3.toNat < 256:=x3.toNat_lt;generalize t.get! 4=x4 at *;have h4:x4.toNat < 256:=x4.toNat_lt;generalize t.get! 5=x5 at *;have h5:x5.toNat < 256:=x5.toNat_lt;generalize t.get! 6=x6 at *;have h6:x6.toNat < 256:=x6.toNat_lt;generalize t.get! 7=x7 at *;have h7:x7.toNat < 256:=x7.toNat_lt;have hv:((Lib.leNat [x0,x1,x2,x3,x4,x5,x6,x7]:Nat):Int)=(x0.toNat:Int) + (x1.toNat:Int) * 256 + (x2.toNat:Int) * 65536 + (x3.toNat:Int) * 16777216 + (x4.toNat:Int) * 4294967296 + (x5.toNat:Int) * 1099511627776 + (x6.toNat:Int) * 281474976710656 + (x7.toNat:Int) * 72057594037927936:=by
  simp only [Lib.leNat]
  push_cast
  omega
 have HV:=dh hv;have HH:=dh (And.intro h0 (And.intro h1 (And.intro h2 (And.intro h3 (And.intro h4 (And.intro h5 (And.intro h6 h7)))))));clear hv h0 h1 h2 h3 h4 h5 h6 h7 hs;have q0:(0:Int) < (n:Int):=by have:=hsz.out;omega
 have q1:(1:Int) < (n:Int):=by have:=hsz.out;omega
 have q2:(2:Int) < (n:Int):=by have:=hsz.out;omega
 have q3:(3:Int) < (n:Int):=by have:=hsz.out;omega
 have q4:(4:Int) < (n:Int):=by have:=hsz.out;omega
 have q5:(5:Int) < (n:Int):=by have:=hsz.out;omega
 have q6:(6:Int) < (n:Int):=by have:=hsz.out;omega
 have q7:(7:Int) < (n:Int):=by have:=hsz.out;omega
 clear hn;simp only [Nat.add_zero] at hs0;go_enter Tryd.func87,Tryd.ntmps87
 go_wp2_with fail
 go_quiet (fail)
 go_wp2_with fail
 go_ret
 refine ⟨?_,_,rfl⟩;obtain ⟨h0,h1,h2,h3,h4,h5,h6,h7⟩:=HH.out;simp (disch:=omega) only [u64_wrap_id,u64_or8,u64_or16,u64_or24,u64_or32,u64_or40,u64_or48,u64_or56];rw [HV.out]
 rfl
end Go.Proofs.YtelefkkkccilaaaDoor
