/- Joined texts. -/
import Derived.Test.YtelefkkkccilaaaDoorJB
import Derived.Test.YtelefkkkccilaaaDoorChecked
import Derived.Test.YtelefkkkccilaaaDoorLA
import Derived.Test.YtelefkkkccilaaaDoorLB
import Derived.Test.YtelefkkkccilaaaDoorLD
import Derived.Laws.BitsAllLaws
set_option linter.unusedVariables false
set_option linter.unusedSimpArgs false
namespace Go.Proofs.YtelefkkkccilaaaDoor
namespace Am
theorem agL_v {g:Cx} {w:World}:∀ {l vs:List Value},agL g w (l.map .v) vs→vs=l
 | [],[],_=>rfl
 | x :: l,v :: vs,h=>by
   have h1:v=x:=h.1;rw [h1,agL_v h.2]
 | [],_ :: _,h=>h.elim
 | _ :: _,[],h=>h.elim
theorem AC.pure {P:Program} {X:Ev} {f:FuncId} {v:Value} {r:SV} (vals:List Value) (hgo:∀ vals w,(callFunc f vals).run P w=.ok (.enter f vals) w) (hc:∀ w,Calls P f vals.toArray w fun en w'=>en=.returned v∧w=w') (hr:∀ g w,holds g w (ren 0 0 r) v) (hn:∀ u,ren 0 u r=ren 0 0 r):AC P X f (vals.map .v) [] fun r' rows=>r'=r∧rows=[]:=
 ⟨fun g w vs nx hE hz hA hb ha hrow hap=>by
  rw [agL_v ha];refine .inl ⟨hgo _ _,(hc w).mono ?_⟩;rintro en w' ⟨rfl,rfl⟩;exact ⟨v,r,[],g,rfl,⟨rfl,rfl⟩,by rw [hn];exact hr g w,.refl g,fun b hb=>.inl hb,.inl rfl,fun i r q h=>by simp at h,fun q hq=>by simp [rnR] at hq,fun u hu=>.inl hu,Nat.le_refl _,fun _ _ _=>rfl,⟨rfl,rfl,rfl⟩,hE⟩⟩
theorem AC.pureE {P:Program} {X:Ev} {f:FuncId} {C:SV→List Row→Prop} (vals:List Value) (hgo:∀ vals w,(callFunc f vals).run P w=.ok (.enter f vals) w) (hc:∀ w,Calls P f vals.toArray w fun en w'=>w=w'∧∃ v r,en=.returned v∧C r []∧∀ g w u,holds g w (ren 0 u r) v):AC P X f (vals.map .v) [] C:=
 ⟨fun g w vs nx hE hz hA hb ha hrow hap=>by
  rw [agL_v ha];refine .inl ⟨hgo _ _,(hc w).mono ?_⟩;rintro en w' ⟨rfl,v,r,rfl,h1,h2⟩;exact ⟨v,r,[],g,rfl,h1,h2 _ _ _,.refl g,fun b hb=>.inl hb,.inl rfl,fun i r q h=>by simp at h,fun q hq=>by simp [rnR] at hq,fun u hu=>.inl hu,Nat.le_refl _,fun _ _ _=>rfl,⟨rfl,rfl,rfl⟩,hE⟩⟩
theorem AC.ext {P:Program} {X:Ev} {f:FuncId} {v:Value} (vals:List Value) (hx:∀ w,(callFunc f vals.toArray).run P w=.ok (.value v) w):AC P X f (vals.map .v) [] fun r rows=>r=.v v∧rows=[]:=
 ⟨fun g w vs nx hE hz hA hb ha hrow hap=>by
  rw [agL_v ha];exact .inr ⟨v,w,hx w,v,.v v,[],g,rfl,⟨rfl,rfl⟩,rfl,.refl g,fun b hb=>.inl hb,.inl rfl,fun i r q h=>by simp at h,fun q hq=>by simp [rnR] at hq,fun u hu=>.inl hu,Nat.le_refl _,fun _ _ _=>rfl,⟨rfl,rfl,rfl⟩,hE⟩⟩
theorem AC.pure1 {P:Program} {X:Ev} {f:FuncId} {v:Value} (vals:List Value) (hgo:∀ vals w,(callFunc f vals).run P w=.ok (.enter f vals) w) (hc:∀ w,Calls P f vals.toArray w fun en w'=>en=.returned v∧w=w'):AC P X f (vals.map .v) [] fun r' rows=>r'=.v v∧rows=[]:=
 AC.pure vals hgo hc (fun _ _=>rfl) fun _=>rfl
end Am
end Go.Proofs.YtelefkkkccilaaaDoor
namespace Go.Proofs.YtelefkkkccilaaaDoor
open Am
set_option maxRecDepth 100000
theorem by1 (k:Nat) (z:Int) (hz:z=k) (h:k < 256):[y8 z]=bys [UInt8.ofNat k]:=by
 subst hz;have:(UInt8.ofNat k).toNat=k:=by simp [UInt8.toNat_ofNat'];omega
 simp [bys,this]
theorem byS (n i:Nat) (h:i≤8):[y8 ((n:Int).fdiv (2 ^ min (8 * i) 64) % 256)]=bys [UInt8.ofNat (n / 256 ^ i)]:=by
 have e1:min (8 * i) 64=8 * i:=by omega
 have e2:((n:Int).fdiv (2 ^ (8 * i)) % 256)=((n / 256 ^ i % 256:Nat):Int):=by
  rw [Int.fdiv_eq_ediv_of_nonneg _ (by exact Int.pow_nonneg (by omega)),Nat.pow_mul' 2 8 i |> fun _=>show (2:Int) ^ (8 * i)=((256 ^ i:Nat):Int) by rw [Int.pow_mul];norm_cast]
  norm_cast
 rw [e1,e2,by1 (n / 256 ^ i % 256) _ rfl (Nat.mod_lt _ (by omega))];congr 2
 exact UInt8.toNat_inj.1 (by simp [UInt8.toNat_ofNat'])
theorem head_c (X:Ev) (m n:Nat) (hm:m < 8) (hn:n < 18446744073709551616):AC Tryd.prog X 61 [iv m,uv n] [] fun r rows=>r=.own 2000 0 (It.head m n).length 1∧rows=[⟨0,5,1,bys (It.head m n)⟩]:=by
 refine AC.bodyW true Tryd.func61 rfl Tryd.call61 Tryd.ntmps61 (by simp) fun e nx=>?_
 go_simp
 refine sqc ?_;go_simp;refine sqc ?_;go_simp;go_bits;refine sqc ?_;go_simp;refine ct (α:=Nat × Nat × Nat × UInt8) (fun y=>24≤n∧y.2.2.1≤8∧It.head m n=y.2.2.2 :: It.be y.2.2.1 n) (fun y=>⟨[(0,iv m),(1,uv n),(5,.own 12 y.2.1 1 1),(6,iv y.2.2.1)],[(12,⟨y.2.1,5,1,bys [y.2.2.2]⟩)],y.1,[],66⟩) [] (gw ?_) ?_
 ·go_simp
  refine ifd (fun h=>?_) (fun h=>?_) <;> go_simp
  ·go_bits
   simp only [It.head,if_pos (show n < 24 by omega)];exact ⟨rfl,by1 (m * 32 + n) _ (by omega) (by omega)⟩
  repeat' (refine ifd (fun h=>?_) (fun h=>?_) <;> go_simp)
  all_goals try go_bits
  ·exact ⟨_,nx,1,UInt8.ofNat (m * 32 + 24),⟨by omega,by omega,by simp only [It.head,if_neg (show ¬ n < 24 by omega),if_pos (show n < 256 by omega)]⟩,Nat.le_refl _,⟨rfl,rfl⟩,rfl,by1 _ _ (by omega) (by omega)⟩
  ·exact ⟨_,nx,2,UInt8.ofNat (m * 32 + 25),⟨by omega,by omega,by simp only [It.head,if_neg (show ¬ n < 24 by omega),if_neg (show ¬ n < 256 by omega),if_pos (show n < 65536 by omega)]⟩,Nat.le_refl _,⟨rfl,rfl⟩,rfl,by1 _ _ (by omega) (by omega)⟩
  ·exact ⟨_,nx,4,UInt8.ofNat (m * 32 + 26),⟨by omega,by omega,by simp only [It.head,if_neg (show ¬ n < 24 by omega),if_neg (show ¬ n < 256 by omega),if_neg (show ¬ n < 65536 by omega),if_pos (show n < 4294967296 by omega)]⟩,Nat.le_refl _,⟨rfl,rfl⟩,rfl,by1 _ _ (by omega) (by omega)⟩
  ·exact ⟨_,nx,8,UInt8.ofNat (m * 32 + 27),⟨by omega,by omega,by simp only [It.head,if_neg (show ¬ n < 24 by omega),if_neg (show ¬ n < 256 by omega),if_neg (show ¬ n < 65536 by omega),if_neg (show ¬ n < 4294967296 by omega)]⟩,Nat.le_refl _,⟨rfl,rfl⟩,rfl,by1 _ _ (by omega) (by omega)⟩
 ·rintro ⟨ux,ver,k,c⟩ ⟨h0,h1,h2⟩
  have h1:k≤8:=h1;refine sqc ?_;go_simp;go_bits
  refine lp (α:=Nat × Nat × Nat × List UInt8) (fun x=>x.2.2.1≤k∧x.2.2.2 ++ It.be x.2.2.1 n=c :: It.be k n) (fun x=>⟨[(1,uv n),(5,.own 12 x.2.1 x.2.2.2.length 1),(7,iv ((x.2.2.1:Int) - 1))],[(12,⟨x.2.1,5,1,bys x.2.2.2⟩)],x.1,[],66⟩) (fun x=>x.2.2.1) [] [] (ux,ver,k,[c]) ?_ ?_
  ·go_simp
  ·rintro ⟨ux,ver,j,l⟩ ⟨hj,hl⟩
   have hj:j≤k:=hj;refine gw ?_;go_simp
   refine ifd (fun h=>?_) (fun h=>?_) <;> go_simp
   ·go_bits
    have hll:l.length≤9:=by
     have:=congrArg List.length hl;simp only [List.length_append,List.length_cons,It.be_length] at this;omega
    refine ⟨⟨by rw [show Tryd.t5.bytes=1 from rfl];omega,by omega⟩,_,_,j - 1,l ++ [UInt8.ofNat (n / 256 ^ (j - 1))],⟨by omega,?_⟩,by omega,Nat.le_refl _,⟨⟨rfl,by simp⟩,by omega⟩,rfl,?_⟩
    ·obtain ⟨i,rfl⟩:∃ i,j=i + 1:=⟨j - 1,by omega⟩
     rw [← hl];simp [It.be]
    ·rw [byS n (j - 1) (by omega),bys_app]
   ·refine gw ?_
    go_simp
    obtain rfl:j=0:=by omega
    have hl:l ++ []=c :: It.be k n:=hl;rw [List.append_nil] at hl;rw [hl];exact ⟨rfl,rfl⟩
section
variable {X:Ev}
theorem isnan_c (n:Nat) (hn:n < 18446744073709551616):AC Tryd.prog X 57 [uv n] [] fun r rows=>r=bov (Fl.isNaN n)∧rows=[]:=
 AC.pure1 [.int .u64 n] Tryd.call57 fun w=>isnan_any n n rfl hn w
def NarC (o:Option Nat) (r:SV) (rows:List Row):Prop:=∃ v:Int,r=.tup [uv v,bov o.isSome]∧(∀ s,o=some s→v=s)∧rows=[]
theorem nar_c {vals:List Value} {o:Option Nat} (h:∀ w,Calls Tryd.prog 88 vals.toArray w (NP o w)):AC Tryd.prog X 88 (vals.map .v) [] (NarC o):=
 AC.pureE vals Tryd.call88 fun w=>(h w).mono fun en w' ⟨v,b,h1,h2,h3,h4⟩=>⟨h4,_,.tup [uv v,bov o.isSome],h1,⟨v,rfl,h3,rfl⟩,fun _ _ _=>⟨[.int .u64 v,.bool b],rfl,rfl,by rw [h2];rfl,trivial⟩⟩
theorem y8w (s d:Nat) (hd:0 < d):IntKind.u8.wrap ((s:Int).fdiv d)=((UInt8.ofNat (s / d)).toNat:Int):=by
 have:(s:Int).fdiv d=((s / d:Nat):Int):=by rw [Int.fdiv_eq_ediv_of_nonneg _ (by omega)];norm_cast
 rw [this,IntKind.wrap_u8,UInt8.toNat_ofNat']
 norm_cast
theorem y8w0 (s:Nat):IntKind.u8.wrap (s:Int)=((UInt8.ofNat s).toNat:Int):=by
 rw [IntKind.wrap_u8,UInt8.toNat_ofNat']
 norm_cast
theorem float_c (n:Nat) (hn:n < 18446744073709551616):AC Tryd.prog X 62 [uv n] [] fun r rows=>r=.own 2000 0 (It.flt n).length 1∧rows=[⟨0,5,1,bys (It.flt n)⟩]:=by
 refine AC.bodyW true Tryd.func62 rfl Tryd.call62 Tryd.ntmps62 (by simp) fun e nx=>gw ?_
 go_simp
 refine cl [] [] (isnan_c n hn) (by go_simp) ?_;rintro r rows ⟨rfl,rfl⟩;go_simp
 refine ifk (fun h=>?_) (fun h=>?_) <;> go_simp
 ·simp only [It.flt,h,if_true]
  exact ⟨rfl,rfl⟩
 refine cl [] [] (nar_c (vals:=[.int .u64 n,.int .i64 5,.int .i64 10]) fun w=>narH_any n n rfl hn w) (by go_simp) ?_;rintro r rows ⟨v,rfl,hv,rfl⟩;go_simp
 refine ifk (fun h1=>?_) (fun h1=>?_) <;> go_simp
 ·obtain ⟨s,hs⟩:=Option.isSome_iff_exists.1 h1
  obtain rfl:=hv s hs;simp only [It.flt,h,hs];exact ⟨rfl,by rw [show (256:Int)=((256:Nat):Int) from rfl,y8w s 256 (by omega),y8w0];simp [bys,It.be,-UInt8.toNat_ofNat']⟩
 refine cl [] [] (nar_c (vals:=[.int .u64 n,.int .i64 8,.int .i64 23]) fun w=>narS_any n n rfl hn w) (by go_simp) ?_;rintro r rows ⟨u,rfl,hu,rfl⟩;go_simp
 refine ifk (fun h2=>?_) (fun h2=>?_) <;> go_simp
 ·obtain ⟨s,hs⟩:=Option.isSome_iff_exists.1 h2
  obtain rfl:=hu s hs;simp only [It.flt,h,hs,Option.isSome_eq_false_iff.1 h1 |> Option.isNone_iff_eq_none.1];exact ⟨rfl,by rw [show (16777216:Int)=((16777216:Nat):Int) from rfl,show (65536:Int)=((65536:Nat):Int) from rfl,show (256:Int)=((256:Nat):Int) from rfl,y8w s _ (by omega),y8w s _ (by omega),y8w s _ (by omega),y8w0];simp [bys,It.be,-UInt8.toNat_ofNat']⟩
 have h0:=h;refine lp (α:=Nat × Nat × Nat × List UInt8) (fun x=>x.2.2.1≤8∧x.2.2.2 ++ It.be x.2.2.1 n=251 :: It.be 8 n) (fun x=>⟨[(0,uv n),(7,.own 42 x.2.1 x.2.2.2.length 1),(8,iv ((x.2.2.1:Int) - 1))],[(42,⟨x.2.1,5,1,bys x.2.2.2⟩)],x.1,[],57⟩) (fun x=>x.2.2.1) [] [] (nx + 1,nx,8,[251]) ?_ ?_
 ·go_simp
  exact (by1 251 251 rfl (by omega))
 ·rintro ⟨ux,ver,j,l⟩ ⟨hj,hl⟩
  have hj:j≤8:=hj;refine gw ?_;go_simp
  refine ifd (fun h=>?_) (fun h=>?_) <;> go_simp
  ·go_bits
   have hll:l.length≤9:=by
    have:=congrArg List.length hl;simp only [List.length_append,List.length_cons,It.be_length] at this;omega
   refine ⟨⟨by rw [show Tryd.t5.bytes=1 from rfl];omega,by omega⟩,_,_,j - 1,l ++ [UInt8.ofNat (n / 256 ^ (j - 1))],⟨by omega,?_⟩,by omega,Nat.le_refl _,⟨⟨rfl,by simp⟩,by omega⟩,rfl,?_⟩
   ·obtain ⟨i,rfl⟩:∃ i,j=i + 1:=⟨j - 1,by omega⟩
    rw [← hl];simp [It.be]
   ·rw [byS n (j - 1) (by omega),bys_app]
  ·go_simp
   obtain rfl:j=0:=by omega
   have hl:l ++ []=251 :: It.be 8 n:=hl;rw [List.append_nil] at hl;simp only [It.flt,h0,Option.isSome_eq_false_iff.1 h1 |> Option.isNone_iff_eq_none.1,Option.isSome_eq_false_iff.1 h2 |> Option.isNone_iff_eq_none.1];rw [hl];exact ⟨rfl,rfl⟩
end
end Go.Proofs.YtelefkkkccilaaaDoor
namespace Go.Proofs.YtelefkkkccilaaaDoor
namespace Am
mutual
def itC:It→List SV
 | .mk k n b ks=>[iv k,uv n,bsl b,.sl ks.length 4 (itL ks)]
def itL:List It→List SV
 | []=>[]
 | x :: xs=>itC x ++ itL xs
end
abbrev isl (l:List It):SV:=.sl l.length 4 (itL l)
abbrev itc (x:It):List SV:=[iv x.kind,uv x.num,bsl x.bytes,isl x.kids]
abbrev itS (x:It):SV:=.agg (itc x)
section
variable (k:Int) (n:Nat) (b:List UInt8) (ks:List It)
@[go_sem] theorem kind_mk:It.kind (.mk k n b ks)=k:=rfl
@[go_sem] theorem num_mk:It.num (.mk k n b ks)=n:=rfl
@[go_sem] theorem bytes_mk:It.bytes (.mk k n b ks)=b:=rfl
@[go_sem] theorem kids_mk:It.kids (.mk k n b ks)=ks:=rfl
end
theorem itC_eq (x:It):itC x=itc x:=by cases x;rfl
section
variable (l m:List It) (x:It) (n i:Nat)
@[go_sem] theorem itL_nil:itL []=[]:=rfl
theorem itL_cons:itL (x :: l)=itc x ++ itL l:=by show itC x ++ itL l=_;rw [itC_eq]
@[go_sem] theorem itL_len:(itL l).length=l.length * 4:=by
 induction l with
 | nil=>rfl
 | cons x l ih=>rw [itL_cons,List.length_append,ih];simp;omega
@[go_sem] theorem itL_app:itL l ++ itc x=itL (l ++ [x]):=by
 induction l with
 | nil=>simp [itL_cons,itL_nil]
 | cons y l ih=>rw [List.cons_append,itL_cons,itL_cons,List.append_assoc,ih]
@[go_sem] theorem itL_flat:(itL l).all flat=true:=by
 induction l with
 | nil=>rfl
 | cons y l ih=>rw [itL_cons,List.all_append,ih];rfl
@[go_sem] theorem itL_cv (H):(itL l).map (cv H (n + 1))=itL l:=by
 induction l with
 | nil=>rfl
 | cons y l ih=>rw [itL_cons,List.map_append,ih];rfl
theorem itL_drop (h:i < l.length):(itL l).drop (i * 4)=itc l[i] ++ itL (l.drop (i + 1)):=by
 induction l generalizing i with
 | nil=>simp at h
 | cons y l ih=>
   rw [itL_cons];cases i with
   | zero=>simp [itL_cons]
   | succ i=>
     have e:(i + 1) * 4=(itc y).length + i * 4:=by simp;omega
     rw [e,List.drop_append,List.drop_eq_nil_of_le (by simp),List.nil_append];simpa using ih i (by simpa using h)
@[go_sem] theorem itL_sub (h:i < l.length):sub (itL l) i 4=itc l[i]:=by
 unfold sub;rw [itL_drop l i h]
 rfl
end
end Am
end Go.Proofs.YtelefkkkccilaaaDoor
namespace Go.Proofs.YtelefkkkccilaaaDoor
open Am
set_option maxRecDepth 100000
mutual
def It.fits:It→Prop
 | .mk _ n _ ks=>n < 18446744073709551616∧It.fitsL ks
def It.fitsL:List It→Prop
 | []=>True
 | x :: xs=>It.fits x∧It.fitsL xs
end
theorem It.nodes_in:∀ {l:List It} {y:It},y ∈ l→y.nodes≤It.nodesL l
 | x :: l,y,h=>by
   simp only [It.nodesL];rcases List.mem_cons.1 h with rfl | h
   ·omega
   ·have:=It.nodes_in h;omega
theorem It.fits_in:∀ {l:List It} {y:It},It.fitsL l→y ∈ l→y.fits
 | x :: l,y,hf,h=>by
   rcases List.mem_cons.1 h with rfl | h
   ·exact hf.1
   ·exact It.fits_in hf.2 h
theorem hmx:Tryd.prog.follows .mixedOrders=true:=by kernel_rfl
section
variable {X:Ev}
abbrev OutB (l:List UInt8) (r:SV) (rows:List Row):Prop:=r=.own 2000 0 l.length 1∧rows=[⟨0,5,1,bys l⟩]
theorem raw_c (d:Nat):∀ x:It,x.nodes≤d→x.fits→x.enc.length≤1000000000→AC Tryd.prog X 40 [itS x] [] (OutB x.enc):=by
 induction d with
 | zero=>intro x h;cases x;simp [It.nodes] at h
 | succ d ih=>
   rintro ⟨k,n,b,ks⟩ hd hf hl;have hn:n < 18446744073709551616:=hf.1;have hE:=It.enc.eq_1 k n b ks;have hb:k=2∨k=3→b.length≤1000000000:=fun h=>by
    rw [hE,if_neg (by omega),if_pos h,List.length_append] at hl;omega
   have e0:k=0∨k=1→It.enc (.mk k n b ks)=It.head k.toNat n:=fun h=>by rw [hE,if_pos h]
   have e2:k=2∨k=3→It.enc (.mk k n b ks)=It.head k.toNat b.length ++ b:=fun h=>by rw [hE,if_neg (by omega),if_pos h]
   have e4:k=4→It.enc (.mk k n b ks)=It.head 4 ks.length ++ It.encs ks:=fun h=>by rw [hE,if_neg (by omega),if_neg (by omega),if_pos h]
   have hks:k=4∨k=5→ks.length≤1000000000:=fun h=>by
    have:=It.length_le_encs ks;rw [hE,if_neg (by omega),if_neg (by omega)] at hl;rcases h with rfl | rfl <;> simp at hl <;> omega
   have e5:k=5→It.enc (.mk k n b ks)=It.head 5 (ks.length / 2) ++ It.encs ks:=fun h=>by rw [hE,if_neg (by omega),if_neg (by omega),if_neg (by omega),if_pos h]
   have e6:k=6→It.enc (.mk k n b ks)=It.head 6 n ++ It.encs ks:=fun h=>by rw [hE,if_neg (by omega),if_neg (by omega),if_neg (by omega),if_neg (by omega),if_pos h]
   have e7:k=7→It.enc (.mk k n b ks)=if n < 24 then [UInt8.ofNat (224 + n)] else [248,UInt8.ofNat n]:=fun h=>by rw [hE,if_neg (by omega),if_neg (by omega),if_neg (by omega),if_neg (by omega),if_neg (by omega),if_pos h]
   have e8:¬ k=0∧¬ k=1∧¬ k=2∧¬ k=3∧¬ k=4∧¬ k=5∧¬ k=6∧¬ k=7→It.enc (.mk k n b ks)=It.flt n:=fun h=>by rw [hE,if_neg (by omega),if_neg (by omega),if_neg (by omega),if_neg (by omega),if_neg (by omega),if_neg (by omega)]
   generalize It.enc (.mk k n b ks)=E at *;clear hE;refine AC.bodyW true Tryd.func40 rfl Tryd.call40 Tryd.ntmps40 (by simp) fun e nx=>?_
   go_simp
   refine sqc ?_;go_simp;refine sqc ?_;go_simp;refine ct (α:=Nat × Nat × List UInt8) (fun y=>E=y.2.2 ++ It.encs ks) (fun y=>⟨[(1,.ptr 1 nx 0),(3,.own 900 y.2.1 y.2.2.length 1)],[(1,⟨nx,31,4,[iv k,uv n,bsl b,isl ks]⟩),(900,⟨y.2.1,5,1,bys y.2.2⟩)],y.1,[],79⟩) [(3,900,5,1)] (gw ?_) ?_
   ·go_simp
    refine ifd (fun h0=>?_) (fun h0=>?_) <;> go_simp
    ·refine cl [] [] (head_c X 0 n (by omega) hn) (by go_simp) ?_
     rintro r rows ⟨rfl,rfl⟩;go_simp
     subst h0;exact ⟨rfl,rfl⟩
    refine ifd (fun h1=>?_) (fun h1=>?_) <;> go_simp
    ·refine cl [] [] (head_c X 1 n (by omega) hn) (by go_simp) ?_
     rintro r rows ⟨rfl,rfl⟩;go_simp
     subst h1;exact ⟨rfl,rfl⟩
    refine ifd (fun h2=>?_) (fun h2=>?_) <;> go_simp
    ·subst h2
     refine rgp [0,1,2,3,4,5,7,8,6,9,10] hmx (by kernel_rfl) ?_;have hb:=hb (.inl rfl);rw [e2 (.inl rfl),show Int.toNat 2=2 from rfl,List.length_append] at hl;go_simp
     go_bits
     refine cl [] [] (head_c X 2 b.length (by omega) (by omega)) (by go_simp) ?_;rintro r rows ⟨rfl,rfl⟩;go_simp
     exact ⟨by rw [show Tryd.t5.bytes=1 from rfl];omega,by kernel_rfl,by simp,rfl⟩
    refine ifd (fun h3=>?_) (fun h3=>?_) <;> go_simp
    ·subst h3
     refine rgp [0,1,2,3,4,5,7,8,6,9,10] hmx (by kernel_rfl) ?_;have hb:=hb (.inr rfl);rw [e2 (.inr rfl),show Int.toNat 3=3 from rfl,List.length_append] at hl;go_simp
     go_bits
     refine cl [] [] (head_c X 3 b.length (by omega) (by omega)) (by go_simp) ?_;rintro r rows ⟨rfl,rfl⟩;go_simp
     exact ⟨by rw [show Tryd.t5.bytes=1 from rfl];omega,by kernel_rfl,by simp,rfl⟩
    refine ifd (fun h4=>?_) (fun h4=>?_) <;> go_simp
    ·subst h4
     have:=hks (.inl rfl)
     go_bits;refine cl [] [] (head_c X 4 (ks.length) (by omega) (by omega)) (by go_simp) ?_
     rintro r rows ⟨rfl,rfl⟩;go_simp
     exact ⟨_,Nat.le_refl _⟩
    refine ifd (fun h5=>?_) (fun h5=>?_) <;> go_simp
    ·subst h5
     have:=hks (.inr rfl)
     go_bits
     rw [show ((ks.length:Int) / 2)=((ks.length / 2:Nat):Int) by omega];refine cl [] [] (head_c X 5 (ks.length / 2) (by omega) (by omega)) (by go_simp) ?_;rintro r rows ⟨rfl,rfl⟩;go_simp
     exact ⟨_,Nat.le_refl _⟩
    refine ifd (fun h6=>?_) (fun h6=>?_) <;> go_simp
    ·subst h6
     refine cl [] [] (head_c X 6 (n) (by omega) (by omega)) (by go_simp) ?_;rintro r rows ⟨rfl,rfl⟩;go_simp
     exact ⟨_,Nat.le_refl _⟩
    refine ifd (fun h7=>?_) (fun h7=>?_) <;> go_simp
    ·subst h7
     refine ifd (fun h=>?_) (fun h=>?_) <;> go_simp
     ·go_bits
      rw [if_pos (by omega)];exact ⟨rfl,by have:=by1 (224 + n) (224 + n) (by omega) (by omega);simpa using this⟩
     ·rw [if_neg (by omega),y8w0]
      exact ⟨rfl,rfl⟩
    ·refine cl [] [] (float_c n hn) (by go_simp) ?_
     rintro r rows ⟨rfl,rfl⟩;go_simp
     exact ⟨rfl,rfl⟩
   ·rintro ⟨ux,ver,l⟩ hEl
    have hEl:E=l ++ It.encs ks:=hEl;refine sqc ?_;go_simp
    refine lp (α:=Nat × Nat × Nat × List UInt8) (fun x=>x.2.2.1≤ks.length∧x.2.2.2 ++ It.encs (ks.drop x.2.2.1)=l ++ It.encs ks) (fun x=>⟨[(69,iv x.2.2.1),(68,iv ks.length),(67,isl ks),(3,.own 900 x.2.1 x.2.2.2.length 1)],[(900,⟨x.2.1,5,1,bys x.2.2.2⟩)],x.1,[],79⟩) (fun x=>ks.length - x.2.2.1) [] [] (ux,ver,0,l) ?_ ?_
    ·go_simp
    ·rintro ⟨ux,ver,j,q⟩ ⟨hj,hq⟩
     have hj:j≤ks.length:=hj;refine gw ?_;go_simp
     refine ifd (fun h=>?_) (fun h=>?_) <;> go_simp
     ·have hjl:j < ks.length:=by omega
      have hel:(It.enc ks[j]).length≤(It.encs ks).length:=It.enc_mem (List.getElem_mem hjl);rw [hEl,List.length_append] at hl;go_simp
      refine cl [] [] (ih ks[j] (by have:=It.nodes_in (List.getElem_mem hjl);simp only [It.nodes] at hd;omega) (It.fits_in hf.2 (List.getElem_mem hjl)) (by omega)) (by go_simp) ?_;rintro r rows ⟨rfl,rfl⟩;go_simp
      have hq:q ++ It.encs (ks.drop j)=l ++ It.encs ks:=hq;have hql:=congrArg List.length hq;simp only [List.length_append] at hql;have hkl:=It.length_le_encs ks;refine ⟨⟨by rw [show Tryd.t5.bytes=1 from rfl];omega,by omega⟩,_,_,j + 1,q ++ It.enc ks[j],⟨by omega,?_⟩,by omega,Nat.le_refl _,⟨(Go.IntWalk.i64_in _ (by omega)).trans (by omega),rfl,by simp⟩,rfl,rfl⟩;rw [← hq,List.drop_eq_getElem_cons hjl,List.append_assoc]
      rfl
     ·refine gw ?_
      go_simp
      obtain rfl:j=ks.length:=by omega
      have hq:q ++ It.encs (ks.drop ks.length)=l ++ It.encs ks:=hq;rw [List.drop_length,show It.encs []=[] from rfl,List.append_nil] at hq;rw [← hq];exact ⟨rfl,rfl⟩
end
end Go.Proofs.YtelefkkkccilaaaDoor
namespace Go.Proofs.YtelefkkkccilaaaDoor
def shortP (n:Nat):Nat:=if n < 24 then 1 else if n < 256 then 2 else if n < 65536 then 3 else if n < 4294967296 then 5 else 9
def hdP (b:List UInt8) (p it ck:Nat):Except Nat (Nat × Nat × Nat × Nat × Nat):=
 if it=256 then .error 8
 else if p=b.length then .error 2
 else if 27 < (b.getD p 0).toNat % 32∧((b.getD p 0).toNat % 32 < 31∨(b.getD p 0).toNat / 32 < 2∨5 < (b.getD p 0).toNat / 32) then .error 3
 else if ck < 8∧((b.getD p 0).toNat / 32≠ck∨(b.getD p 0).toNat % 32=31) then .error 4
 else if (b.getD p 0).toNat % 32=31 then .ok ((b.getD p 0).toNat / 32,31,0,1,p + 1)
 else if (b.getD p 0).toNat % 32 < 24 then .ok ((b.getD p 0).toNat / 32,(b.getD p 0).toNat % 32,(b.getD p 0).toNat % 32,1,p + 1)
 else if b.length - (p + 1) < 2 ^ ((b.getD p 0).toNat % 32 - 24) then .error 2
 else if (b.getD p 0).toNat / 32=7∧(b.getD p 0).toNat % 32=24∧It.unbe ((b.drop (p + 1)).take (2 ^ ((b.getD p 0).toNat % 32 - 24))) < 32 then .error 4
 else .ok ((b.getD p 0).toNat / 32,(b.getD p 0).toNat % 32,It.unbe ((b.drop (p + 1)).take (2 ^ ((b.getD p 0).toNat % 32 - 24))),1 + 2 ^ ((b.getD p 0).toNat % 32 - 24),p + 1 + 2 ^ ((b.getD p 0).toNat % 32 - 24))
inductive Gt where
 | mk (mj lw at' en n:Nat) (sub:List Gt)
namespace Gt
def mj:Gt→Nat | mk a _ _ _ _ _=>a
def lw:Gt→Nat | mk _ a _ _ _ _=>a
def beg:Gt→Nat | mk _ _ a _ _ _=>a
def en:Gt→Nat | mk _ _ _ a _ _=>a
def n:Gt→Nat | mk _ _ _ _ a _=>a
def sub:Gt→List Gt | mk _ _ _ _ _ l=>l
theorem eta (t:Gt):mk t.mj t.lw t.beg t.en t.n t.sub=t:=by cases t;rfl
end Gt
def cntP (mj n:Nat):Nat:=if mj=6 then 1 else if mj=5 then 2 * n else n
mutual
def gi (b:List UInt8):Nat→Nat→Nat→Nat→Nat→Except Nat (Gt × Nat × Nat)
 | 0,_,_,_,_=>.error 8
 | g + 1,lv,p,it,ck=>match hdP b p it ck with
   | .error e=>.error e
   | .ok (mj,lw,n,_,q)=>
     if mj=2∨mj=3 then
      if lw=31 then
       match gl b g lv q (it + 1) none mj with
       | .error e=>.error e
       | .ok (l,r,i)=>.ok (.mk mj lw p r 0 l,r,i)
      else if n≤b.length - q then .ok (.mk mj lw p (q + n) n [],q + n,it + 1) else .error 2
     else if mj < 2∨mj=7 then .ok (.mk mj lw p q n [],q,it + 1)
     else if 8≤lv then .error 8
     else match gl b g (lv + 1) q (it + 1) (if lw=31 then none else some (cntP mj n)) 8 with
      | .error e=>.error e
      | .ok (l,r,i)=>if lw=31∧mj=5∧l.length % 2=1 then .error 4 else .ok (.mk mj lw p r n l,r,i)
def gl (b:List UInt8):Nat→Nat→Nat→Nat→Option Nat→Nat→Except Nat (List Gt × Nat × Nat)
 | 0,_,_,_,_,_=>.error 8
 | g + 1,lv,p,it,c,ck=>
   if c=some 0 then .ok ([],p,it)
   else if c=none∧b[p]?=some 255 then .ok ([],p + 1,it)
   else match gi b g lv p it ck with
    | .error e=>.error e
    | .ok (t,q,i)=>match gl b g lv q i (c.map (· - 1)) ck with
      | .error e=>.error e
      | .ok (l,r,j)=>.ok (t :: l,r,j)
end
def preG (acc:List Gt):Except Nat (List Gt × Nat × Nat)→Except Nat (List Gt × Nat × Nat)
 | .error e=>.error e
 | .ok (l,r,i)=>.ok (acc ++ l,r,i)
theorem preG_nil (R:Except Nat (List Gt × Nat × Nat)):preG [] R=R:=by cases R <;> rfl
theorem hdP_ok {b:List UInt8} {p it ck mj lw n z q:Nat} (h:hdP b p it ck=.ok (mj,lw,n,z,q)):it≠256∧p≠b.length∧mj < 8∧lw < 32∧n < 18446744073709551616∧p < q∧(p < b.length→q≤b.length)∧(lw < 28∨lw=31)∧(ck < 8→mj=ck∧lw≠31)∧(lw=31→2≤mj∧mj≤5)∧z=(if lw < 24∨lw=31 then 1 else 1 + 2 ^ (lw - 24))∧(lw=31→n=0)∧(lw < 24→n=lw):=by
 unfold hdP at h;have h8:(b.getD p 0).toNat < 256:=(b.getD p 0).toNat_lt;generalize (b.getD p 0).toNat=c at h h8
 split at h;· cases h
 split at h;· cases h
 split at h;· cases h
 split at h;· cases h
 rename_i h1 h2 h3 h4
 split at h
 ·injection h with h;simp only [Prod.mk.injEq] at h;obtain ⟨rfl,rfl,rfl,rfl,rfl⟩:=h
  rename_i h5
  refine ⟨h1,h2,by omega,by omega,by omega,by omega,fun _=>by omega,.inr rfl,fun hc=>by omega,fun _=>by omega,rfl,fun _=>rfl,fun h=>by omega⟩
 split at h
 ·injection h with h;simp only [Prod.mk.injEq] at h;obtain ⟨rfl,rfl,rfl,rfl,rfl⟩:=h
  refine ⟨h1,h2,by omega,by omega,by omega,by omega,fun _=>by omega,.inl (by omega),fun hc=>by omega,fun _=>by omega,by rw [if_pos (by omega)],fun _=>by omega,fun _=>rfl⟩
 split at h;· cases h
 split at h;· cases h
 injection h with h;simp only [Prod.mk.injEq] at h;obtain ⟨rfl,rfl,rfl,rfl,rfl⟩:=h
 rename_i h5 h6 h7 h8'
 have hk:c % 32 - 24≤3:=by omega
 have hp2:2 ^ (c % 32 - 24)≤8:=by
  have:=Nat.pow_le_pow_right (n:=2) (by omega) hk;omega
 have hu:It.unbe ((b.drop (p + 1)).take (2 ^ (c % 32 - 24))) < 18446744073709551616:=by
  have h:=It.unbe_lt ((b.drop (p + 1)).take (2 ^ (c % 32 - 24)));have hl:((b.drop (p + 1)).take (2 ^ (c % 32 - 24))).length≤8:=by rw [List.length_take];omega
  have:=Nat.pow_le_pow_right (n:=256) (by omega) hl;omega
 have hp1:0 < 2 ^ (c % 32 - 24):=Nat.pow_pos (by omega);exact ⟨h1,h2,by omega,by omega,hu,by omega,fun _=>by omega,.inl (by omega),fun hc=>by omega,fun _=>by omega,by rw [if_neg (by omega)],fun _=>by omega,fun _=>by omega⟩
theorem hdP_num {b:List UInt8} {p it ck mj lw n z q:Nat} (h:hdP b p it ck=.ok (mj,lw,n,z,q)) (h24:24≤lw) (h31:lw≠31):n < 256 ^ 2 ^ (lw - 24):=by
 unfold hdP at h;generalize (b.getD p 0).toNat=c at h
 split at h;· cases h
 split at h;· cases h
 split at h;· cases h
 split at h;· cases h
 split at h
 ·injection h with h;simp only [Prod.mk.injEq] at h;omega
 split at h
 ·injection h with h;simp only [Prod.mk.injEq] at h;omega
 split at h;· cases h
 split at h;· cases h
 injection h with h;simp only [Prod.mk.injEq] at h;obtain ⟨rfl,rfl,rfl,rfl,rfl⟩:=h
 refine Nat.lt_of_lt_of_le (It.unbe_lt _) (Nat.pow_le_pow_right (by omega) ?_);rw [List.length_take];exact Nat.min_le_left ..
theorem hdP_err {b:List UInt8} {p it ck e:Nat} (h:hdP b p it ck=.error e):e≠0:=by
 unfold hdP at h
 repeat' (split at h)
 all_goals first | (injection h with h;omega) | cases h
mutual
theorem gi_err {b:List UInt8}:∀ {g lv p it ck e:Nat},gi b g lv p it ck=.error e→e≠0
 | 0,_,_,_,_,_,h=>by rw [gi] at h;injection h with h;omega
 | g + 1,lv,p,it,ck,e,h=>by
   rw [gi] at h;cases hh:hdP b p it ck with
   | error e'=>rw [hh] at h;injection h with h;subst h;exact hdP_err hh
   | ok x=>
     obtain ⟨mj,lw,n,z,r⟩:=x;rw [hh] at h;simp only at h
     split at h
     ·split at h
      ·cases hg:gl b g lv r (it + 1) none mj with
       | error e'=>rw [hg] at h;injection h with h;subst h;exact gl_err hg
       | ok y=>rw [hg] at h;cases h
      ·split at h
       ·cases h
       ·injection h with h;omega
     ·split at h
      ·cases h
      ·split at h
       ·injection h with h;omega
       ·cases hg:gl b g (lv + 1) r (it + 1) (if lw=31 then none else some (cntP mj n)) 8 with
        | error e'=>rw [hg] at h;injection h with h;subst h;exact gl_err hg
        | ok y=>
          rw [hg] at h;simp only at h
          split at h
          ·injection h with h;omega
          ·cases h
theorem gl_err {b:List UInt8}:∀ {g lv p it:Nat} {c:Option Nat} {ck e:Nat},gl b g lv p it c ck=.error e→e≠0
 | 0,_,_,_,_,_,_,h=>by rw [gl] at h;injection h with h;omega
 | g + 1,lv,p,it,c,ck,e,h=>by
   rw [gl] at h
   split at h
   ·cases h
   ·split at h
    ·cases h
    ·cases hg:gi b g lv p it ck with
     | error e'=>rw [hg] at h;injection h with h;subst h;exact gi_err hg
     | ok x=>
       obtain ⟨t,r,j⟩:=x;rw [hg] at h;simp only at h;cases hl:gl b g lv r j (c.map (· - 1)) ck with
       | error e'=>rw [hl] at h;injection h with h;subst h;exact gl_err hl
       | ok y=>rw [hl] at h;cases h
end
mutual
theorem gi_bd {b:List UInt8}:∀ {g lv p it ck:Nat} {t:Gt} {q i:Nat},gi b g lv p it ck=.ok (t,q,i)→it≤256→p≤b.length→it < i∧i≤256∧p < q∧q≤b.length
 | 0,_,_,_,_,_,_,_,h,_,_=>by simp [gi] at h
 | g + 1,lv,p,it,ck,t,q,i,h,hi,hp=>by
   rw [gi] at h;cases hh:hdP b p it ck with
   | error e=>rw [hh] at h;cases h
   | ok x=>
     obtain ⟨mj,lw,n,z,r⟩:=x;obtain ⟨h1,h2,_,_,_,h6,h7,_⟩:=hdP_ok hh;have h7:=h7 (by omega);rw [hh] at h;simp only at h
     split at h
     ·split at h
      ·cases hg:gl b g lv r (it + 1) none mj with
       | error e=>rw [hg] at h;cases h
       | ok y=>
         obtain ⟨l,u,j⟩:=y;have:=gl_bd hg (by omega) h7;rw [hg] at h;injection h with h;simp only [Prod.mk.injEq] at h
         omega
      ·split at h
       ·injection h with h;simp only [Prod.mk.injEq] at h;omega
       ·cases h
     ·split at h
      ·injection h with h;simp only [Prod.mk.injEq] at h;omega
      ·split at h
       ·cases h
       ·cases hg:gl b g (lv + 1) r (it + 1) (if lw=31 then none else some (cntP mj n)) 8 with
        | error e=>rw [hg] at h;cases h
        | ok y=>
          obtain ⟨l,u,j⟩:=y;have:=gl_bd hg (by omega) h7;rw [hg] at h;simp only at h
          split at h
          ·cases h
          ·injection h with h;simp only [Prod.mk.injEq] at h
           omega
theorem gl_bd {b:List UInt8}:∀ {g lv p it:Nat} {c:Option Nat} {ck:Nat} {l:List Gt} {q i:Nat},gl b g lv p it c ck=.ok (l,q,i)→it≤256→p≤b.length→it + l.length≤i∧i≤256∧p≤q∧q≤b.length
 | 0,_,_,_,_,_,_,_,_,h,_,_=>by simp [gl] at h
 | g + 1,lv,p,it,c,ck,l,q,i,h,hi,hp=>by
   rw [gl] at h
   split at h
   ·injection h with h;simp only [Prod.mk.injEq] at h;obtain ⟨rfl,rfl,rfl⟩:=h;simp;omega
   ·split at h
    ·rename_i hb
     have:=(List.getElem?_eq_some_iff.1 hb.2).1;injection h with h;simp only [Prod.mk.injEq] at h;obtain ⟨rfl,rfl,rfl⟩:=h;simp;omega
    ·cases hg:gi b g lv p it ck with
     | error e=>rw [hg] at h;cases h
     | ok x=>
       obtain ⟨t,r,j⟩:=x;have h1:=gi_bd hg hi hp;rw [hg] at h;simp only at h;cases hl:gl b g lv r j (c.map (· - 1)) ck with
       | error e=>rw [hl] at h;cases h
       | ok y=>
         obtain ⟨m,u,k⟩:=y;have h2:=gl_bd hl (by omega) (by omega);rw [hl] at h;injection h with h;simp only [Prod.mk.injEq] at h;obtain ⟨rfl,rfl,rfl⟩:=h
         simp only [List.length_cons];omega
end
theorem gl_many {b:List UInt8}:∀ {g lv p it c d ck:Nat},256 - it < c→256 - it < d→it≤256→p≤b.length→gl b g lv p it (some c) ck=gl b g lv p it (some d) ck
 | 0,_,_,_,_,_,_,_,_,_,_=>by simp [gl]
 | g + 1,lv,p,it,c,d,ck,hc,hd,hi,hp=>by
   have h0:∀ k:Nat,256 - it < k→¬ (some k=some 0):=fun k hk h=>by injection h;omega
   have h1:∀ k:Nat,¬ (some k=none∧b[p]?=some 255):=fun k h=>by cases h.1
   rw [gl,gl,if_neg (h0 c hc),if_neg (h0 d hd),if_neg (h1 c),if_neg (h1 d)];cases hg:gi b g lv p it ck with
   | error e=>rfl
   | ok x=>
     obtain ⟨t,r,j⟩:=x;have h1:=gi_bd hg hi hp;simp only [Option.map_some];rw [gl_many (g:=g) (c:=c - 1) (d:=d - 1) (by omega) (by omega) (by omega) (by omega)]
def brk (b:List UInt8) (p:Nat):Bool:=b[p]?==some 255
theorem brk_iff {b:List UInt8} {p:Nat}:brk b p=true↔b[p]?=some 255:=by unfold brk;simp
theorem brk_end {b:List UInt8} {p:Nat} (h:b.length≤p):brk b p=false:=by unfold brk;rw [List.getElem?_eq_none h];rfl
theorem brk_at {b:List UInt8} {p:Nat} (h:p < b.length):brk b p=decide (b[p].toNat=255):=by
 unfold brk;rw [List.getElem?_eq_getElem h];by_cases hc:b[p]=255
 ·rw [hc];rfl
 ·have h2:b[p].toNat≠255:=fun h2=>hc (UInt8.toNat_inj.1 h2)
  rw [decide_eq_false h2];simpa using hc
theorem gl_brk {b:List UInt8} {g lv p it ck:Nat} (h:brk b p=true):gl b (g + 1) lv p it none ck=.ok ([],p + 1,it):=by
 rw [gl,if_neg (by simp),if_pos ⟨rfl,brk_iff.1 h⟩]
theorem gl_zero {b:List UInt8} {g lv p it ck:Nat}:gl b (g + 1) lv p it (some 0) ck=.ok ([],p,it):=by rw [gl,if_pos rfl]
theorem gl_step {b:List UInt8} {g lv p it ck:Nat} {c:Option Nat} (h0:c≠some 0) (h:c=none→brk b p=false):gl b (g + 1) lv p it c ck=match gi b g lv p it ck with
 | .error e=>.error e
 | .ok (t,q,i)=>match gl b g lv q i (c.map (· - 1)) ck with
   | .error e=>.error e
   | .ok (l,r,j)=>.ok (t :: l,r,j):=by
 rw [gl,if_neg h0,if_neg fun hc=>by have:=h hc.1;rw [brk_iff.2 hc.2] at this;cases this]
theorem gl_chunk {b:List UInt8} {g lv p it mj:Nat} (hm:mj=2∨mj=3) (h:brk b p=false):gl b (g + 2) lv p it none mj=match hdP b p it mj with
 | .error e=>.error e
 | .ok (_,lw,n,_,q)=>if n≤b.length - q then (match gl b (g + 1) lv (q + n) (it + 1) none mj with
   | .error e=>.error e
   | .ok (l,r,j)=>.ok (.mk mj lw p (q + n) n [] :: l,r,j)) else .error 2:=by
 rw [gl_step (by simp) (fun _=>h),gi];cases hh:hdP b p it mj with
 | error e=>rfl
 | ok x=>
   obtain ⟨mj',lw,n,z,q⟩:=x;obtain ⟨_,_,_,_,_,_,_,_,h9,_⟩:=hdP_ok hh;obtain ⟨rfl,hl⟩:=h9 (by omega);simp only [if_pos hm,if_neg hl]
   split
   ·rename_i e hn
    split at hn
    ·cases hn
    ·rename_i hc;rw [if_neg hc];cases hn;rfl
   ·rename_i t r i hn
    split at hn
    ·rename_i hc
     rw [if_pos hc];cases hn
     rfl
    ·cases hn
theorem preG_pre (acc:List Gt) (t:Gt) (R:Except Nat (List Gt × Nat × Nat)):preG acc (match R with | .error e=>.error e | .ok (l,r,j)=>.ok (t :: l,r,j))=preG (acc ++ [t]) R:=by
 cases R with
 | error e=>rfl
 | ok x=>obtain ⟨l,r,j⟩:=x;simp [preG]
def zsP (lw:Nat):Nat:=if lw < 24∨lw=31 then 1 else 1 + 2 ^ (lw - 24)
def valP (lw n:Nat):Nat:=if lw=25 then (if Fl.nanH n then Fl.nan else Fl.widenH n) else if lw=26 then (if Fl.nanS n then Fl.nan else Fl.widenS n) else if Fl.isNaN n then Fl.nan else n
def loose7 (lw n:Nat):Bool:=decide (25≤lw) && ((lw==25 && valP 25 n==Fl.nan && n !=32256) || (It.flt (valP lw n)).length !=zsP lw)
mutual
def Gt.loose:Gt→Bool
 | .mk mj lw _ _ n sub=>lw==31 || (decide (mj < 7) && zsP lw !=shortP n) || (mj==7 && loose7 lw n) || Gt.looses sub
def Gt.looses:List Gt→Bool
 | []=>false
 | t :: l=>t.loose || Gt.looses l
end
def Gt.str (b:List UInt8) (t:Gt):List UInt8:=(b.drop (t.en - t.n)).take t.n
mutual
def Gt.bad (b:List UInt8):Gt→Bool
 | .mk mj lw _ en n sub=>(mj==3 && lw !=31 && !Lib.validD ((b.drop (en - n)).take n)) || Gt.bads b sub
def Gt.bads (b:List UInt8):List Gt→Bool
 | []=>false
 | t :: l=>t.bad b || Gt.bads b l
end
def Gt.strs (b:List UInt8) (l:List Gt):List UInt8:=l.flatMap (Gt.str b)
mutual
def Gt.it (b:List UInt8):Gt→It
 | .mk mj lw _ en n sub=>if mj=2∨mj=3 then .mk mj 0 (if lw=31 then Gt.strs b sub else (b.drop (en - n)).take n) []
   else if mj < 2 then .mk mj n [] [] else if mj=7 then (if 25≤lw then .mk 8 (valP lw n) [] [] else .mk 7 n [] []) else .mk mj (if mj=6 then n else 0) [] (Gt.its b sub)
def Gt.its (b:List UInt8):List Gt→List It
 | []=>[]
 | t :: l=>Gt.it b t :: Gt.its b l
end
theorem Gt.its_app (b:List UInt8):∀ l m:List Gt,Gt.its b (l ++ m)=Gt.its b l ++ Gt.its b m
 | [],_=>rfl
 | t :: l,m=>by simp [Gt.its,Gt.its_app b l m]
theorem Gt.its_len (b:List UInt8):∀ l:List Gt,(Gt.its b l).length=l.length
 | []=>rfl
 | t :: l=>by simp [Gt.its,Gt.its_len b l]
theorem Gt.strs_snoc (b:List UInt8) (l:List Gt) (t:Gt):Gt.strs b (l ++ [t])=Gt.strs b l ++ t.str b:=by simp [Gt.strs]
theorem Gt.looses_app:∀ l m:List Gt,Gt.looses (l ++ m)=(Gt.looses l || Gt.looses m)
 | [],_=>by simp [Gt.looses]
 | t :: l,m=>by simp [Gt.looses,Gt.looses_app l m,Bool.or_assoc]
theorem Gt.bads_app (b:List UInt8):∀ l m:List Gt,Gt.bads b (l ++ m)=(Gt.bads b l || Gt.bads b m)
 | [],_=>by simp [Gt.bads]
 | t :: l,m=>by simp [Gt.bads,Gt.bads_app b l m,Bool.or_assoc]
theorem Gt.looses1 (t:Gt):Gt.looses [t]=t.loose:=by simp [Gt.looses]
theorem Gt.bads1 (b:List UInt8) (t:Gt):Gt.bads b [t]=t.bad b:=by simp [Gt.bads]
theorem Gt.loose_flat {mj lw a e n:Nat} (h31:lw≠31) (h7:mj≠7):Gt.loose (.mk mj lw a e n [])=(decide (mj < 7) && !decide (zsP lw=shortP n)):=by
 have h1:(lw==31)=false:=by simpa using h31
 have h2:(mj==7)=false:=by simpa using h7
 have h3:(zsP lw !=shortP n)= !decide (zsP lw=shortP n):=by by_cases h:zsP lw=shortP n <;> simp [h]
 simp only [Gt.loose,h1,h2,h3,Gt.looses,Bool.false_or,Bool.or_false,Bool.false_and]
theorem Gt.bad_flat {b:List UInt8} {mj lw a e n:Nat} (h31:lw≠31):Gt.bad b (.mk mj lw a e n [])=(mj==3 && !Lib.validD ((b.drop (e - n)).take n)):=by
 have h1:(lw !=31)=true:=by simpa using h31
 simp only [Gt.bad,h1,Gt.bads,Bool.and_true,Bool.or_false]
end Go.Proofs.YtelefkkkccilaaaDoor
namespace Go.Proofs.YtelefkkkccilaaaDoor
open Am Go.RowKit
set_option maxRecDepth 100000
theorem cell_lt {w:World} {b o:Nat} {v:Value} (h:w.cell? ⟨b,o,none⟩=some v):b < w.heap.size:=by
 unfold World.cell? at h;rcases Nat.lt_or_ge b w.heap.size with h1 | h1
 ·exact h1
 ·simp [Array.getElem?_eq_none h1] at h
def XU:Ev:=⟨Env,fun b=>b=0∨b=1,fun w w' _ h k=>⟨fun c hc=>(cell_eq (k 0 (.inl rfl)) _).trans (h.1 c hc),fun i hi=>⟨(cell_eq (k 1 (.inr rfl)) _).trans (h.2 i hi).1,(cell_eq (k 1 (.inr rfl)) _).trans (h.2 i hi).2⟩⟩,fun w b h hb=>by
 rcases hb with rfl | rfl
 ·exact cell_lt (h.1 0 (by omega))
 ·exact cell_lt (h.2 0 (by omega)).1⟩
theorem bro_of {g:Cx} {w:World} {l:List UInt8} {v:Value} (h:holds g w (bsl l) v) (hl:l.length≤9223372036854775807):∃ a c,v=.slice a l.length c∧(l.length≤c∧c≤9223372036854775807)∧BR g.Z w a l.length l:=by
 obtain ⟨a,c,e,hn,_,hc⟩:=h;refine ⟨a,c,e,hn,rfl,hl,fun i hi=>?_⟩;rcases hc with hc | ⟨b,o,ea,hz,hat⟩
 ·rw [bys_len] at hc;omega
 ·refine ⟨b,o,ea,hz,?_⟩
  obtain ⟨vs,h1,h2⟩:=hat.vals;obtain ⟨x,h3,h4⟩:=h2 i (by rw [bys_len];exact hi);obtain ⟨y,h5,h6⟩:=h1.get i (.v (.int .u8 (l[i].toNat:Int))) (by simp [bys,hi]);rw [h3] at h5;cases h5;rw [h4,show x=.int .u8 (l[i].toNat:Int) from h6]
theorem AC.below {P:Program} {X:Ev} {f:FuncId} {v:Value} {args:List SV} (hgo:∀ vals w,(callFunc f vals).run P w=.ok (.enter f vals) w) (hc:∀ g w vals,X.E w→agL g w args vals→Calls P f vals.toArray w fun e w'=>e=.returned v∧Below w.heap.size w w'):AC P X f args [] fun r rows=>r=.v v∧rows=[]:=
 ⟨fun g w vals nx hE hz hv hb ha hrow hap=>.inl ⟨hgo _ _,(hc g w vals hE ha).mono fun e w' ⟨he,hB⟩=>⟨v,.v v,[],g,he,⟨rfl,rfl⟩,rfl,.refl g,fun b hb=>.inl hb,.inl rfl,fun i r q h=>by simp at h,fun q hq=>by simp [rnR] at hq,fun u hu=>.inl hu,hB.size,fun b hb _=>hB.block b hb,⟨hB.os,hB.tape,hB.output⟩,X.st w w' hB.size hE fun b hb=>hB.block b (X.lt w b hE hb)⟩⟩⟩
theorem valid_c (l:List UInt8) (hl:l.length≤1000000000):AC Tryd.prog XU 55 [bsl l] [] fun r rows=>r=bov (Lib.validD l)∧rows=[]:=
 AC.below Tryd.call55 fun g w vals hE ha=>by
  match vals,ha with
  | [v],ha=>
    obtain ⟨a,c,rfl,hc,hB⟩:=bro_of ha.1 (by omega);exact valid_any hE hB hc.1 _ rfl
theorem clone_c (X:Ev) (l:List UInt8) (hl:l.length≤1000000000):AC Tryd.prog X 67 [bsl l] [] fun r rows=>r=bsl l∧rows=[]:=by
 refine AC.weak (C:=fun r rows=>(r=bsl l∨(l=[]∧r=.v (.slice none 0 0)))∧rows=[]) ?_ ?_
 ·refine AC.bodyW false Tryd.func67 rfl Tryd.call67 Tryd.ntmps67 (by simp) fun e nx=>gw ?_
  go_simp
  refine nls (by go_simp) rfl fun bb hb=>?_
  go_simp
  refine ifk (fun h=>?_) (fun h=>?_) <;> go_simp
  ·have:l.length=0:=by
    refine Classical.byContradiction fun hne=>?_
    rw [hb hne] at h;cases h
   exact List.length_eq_zero_iff.1 this
  ·rw [show Tryd.t5.bytes=1 from rfl];omega
 ·rintro r rows ⟨rfl | ⟨rfl,rfl⟩,rfl⟩
  ·exact ⟨_,⟨rfl,rfl⟩,fun _ _ _ _ h=>h⟩
  ·exact ⟨_,⟨rfl,rfl⟩,fun g w v nx h=>⟨none,0,h,by simp,rfl,.inl rfl⟩⟩
end Go.Proofs.YtelefkkkccilaaaDoor
namespace Go.Proofs.YtelefkkkccilaaaDoor
open Am
set_option maxRecDepth 100000
abbrev RR (v:Nat) (b:List UInt8) (p it:Nat) (lo bt:Bool):Row:=⟨v,54,5,[bsl b,iv p,iv it,bov lo,bov bt]⟩
theorem kk (lw:Nat) (h1:24≤lw) (h2:lw≤27):IntKind.i64.wrap (2 ^ min (IntKind.u8.wrap ((lw:Int) - 24)).toNat 64)=((2 ^ (lw - 24):Nat):Int):=by
 rcases (show lw=24∨lw=25∨lw=26∨lw=27 by omega) with rfl | rfl | rfl | rfl <;> rfl
theorem num8 (n c:Nat) (hn:n < 72057594037927936) (hc:c < 256):orI .u64 ((n:Int) * 256) (c:Int)=((n * 256 + c:Nat):Int):=by
 have h:=Go.u64_or_nat (n * 256) c (by omega) (by omega);have e:n * 256 ||| c=n * 256 + c:=by
  rw [Nat.mul_comm];exact (Nat.two_pow_add_eq_or_of_lt (i:=8) (by omega) n).symm
 rw [e] at h;rw [show (n:Int) * 256=((n * 256:Nat):Int) by omega];exact h
theorem unbe_l7 (l:List UInt8) (h:l.length≤7):It.unbe l < 72057594037927936:=
 Nat.lt_of_lt_of_le (It.unbe_lt l) (Nat.le_trans (Nat.pow_le_pow_right (by omega) h) (by decide))
theorem unbe_l8 (l:List UInt8) (h:l.length≤8):It.unbe l < 18446744073709551616:=
 Nat.lt_of_lt_of_le (It.unbe_lt l) (Nat.le_trans (Nat.pow_le_pow_right (by omega) h) (by decide))
theorem unbeS (l:List UInt8) (j:Nat) (h:j < l.length):It.unbe (l.take (j + 1))=It.unbe (l.take j) * 256 + l[j].toNat:=by
 rw [List.take_succ_eq_append_getElem h,It.unbe_append];simp [It.unbe]
section
variable {X:Ev}
theorem short_c (n:Nat) (hn:n < 18446744073709551616):AC Tryd.prog X 101 [uv n] [] fun r rows=>r=iv (shortP n)∧rows=[]:=by
 refine AC.body Tryd.func101 rfl Tryd.call101 Tryd.ntmps101 (by simp) fun e nx=>?_
 go_simp
 unfold shortP
 repeat' (refine ifd (fun h=>?_) (fun h=>?_) <;> go_simp)
 all_goals (repeat' split) <;> omega
def HdC (ver:Nat) (b:List UInt8) (p it ck:Nat) (lo bt:Bool) (r:SV) (rows:List Row):Prop:=match hdP b p it ck with
 | .error e=>r=.tup [.agg [y8 0,y8 0,uv 0,iv 0],iv e]∧∃ p' it' lo',rows=[RR ver b p' it' lo' bt]
 | .ok (mj,lw,n,z,p')=>r=.tup [.agg [y8 mj,y8 lw,uv n,iv z],iv 0]∧rows=[RR ver b p' (it + 1) (lo || lw=31 || (mj < 7 && z≠shortP n)) bt]
theorem HdC.err {ver:Nat} {b:List UInt8} {p it ck e:Nat} {lo bt:Bool} {p' it':Nat} {lo':Bool} (h:hdP b p it ck=.error e):HdC ver b p it ck lo bt (.tup [.agg [y8 0,y8 0,uv 0,iv 0],iv e]) [RR ver b p' it' lo' bt]:=by
 unfold HdC;rw [h];exact ⟨rfl,p',it',lo',rfl⟩
theorem shr5 (c:UInt8):((c.toNat:Int)).fdiv 32=((c.toNat / 32:Nat):Int):=by
 rw [Int.fdiv_eq_ediv_of_nonneg _ (by omega)];norm_cast
set_option maxHeartbeats 4000000 in
theorem hd_c (s ver:Nat) (b:List UInt8) (p it ck:Nat) (lo bt:Bool) (hb:b.length≤4096) (hp:p≤b.length) (hi:it≤256) (hc:ck≤8):AC Tryd.prog X 76 [.ptr s ver 0,y8 ck] [RR ver b p it lo bt] (HdC ver b p it ck lo bt):=by
 refine AC.bodyW false Tryd.func76 rfl Tryd.call76 Tryd.ntmps76 (by simp) fun e nx=>?_
 go_simp
 refine sqc ?_;go_simp;refine sqc ?_;go_simp;refine ifd (fun h0=>?_) (fun h0=>?_) <;> go_simp
 ·have hE:hdP b p it ck=.error 8:=by unfold hdP;rw [if_pos (by omega)]
  rw [← h0];exact HdC.err (p':=p) (it':=it) (lo':=lo) hE
 refine sqc ?_;go_simp;go_bits;refine sqc ?_;go_simp;refine rg hmx (by kernel_rfl) ?_;go_simp
 refine ifd (fun h1=>?_) (fun h1=>?_) <;> go_simp
 ·have hE:hdP b p it ck=.error 2:=by unfold hdP;rw [if_neg (by omega),if_pos (by omega)]
  rw [← h1];exact HdC.err (p':=p) (it':=it + 1) (lo':=lo) hE
 have hpl:p < b.length:=by omega
 have hD:b.getD p 0=b[p]:=by simp [List.getD_eq_getElem?_getD,hpl]
 have hP:=hdP.eq_1 b p it ck;rw [if_neg (show ¬ it=256 by omega),if_neg (show ¬ p=b.length by omega),hD] at hP;have hm8:b[p].toNat / 32 < 8:=by have:=b[p].toNat_lt;omega
 have hl32:b[p].toNat % 32 < 32:=by omega
 refine sqc ?_;go_simp;refine rg hmx (by kernel_rfl) ?_;go_simp
 refine ⟨by kernel_rfl,?_⟩;rw [and31 b[p].toNat b[p].toNat_lt];simp only [shr5];generalize b[p].toNat / 32=mj at *;generalize b[p].toNat % 32=lw at *;refine ct (α:=Unit) (fun _=>¬ (27 < lw∧(lw < 31∨mj < 2∨5 < mj))) (fun _=>⟨[(0,.ptr 1000 ver 0),(1,y8 ck),(4,.ptr 4 nx 0),(5,iv 0),(6,.ptr 6 (nx + 2) 0)],[(1000,RR ver b p (it + 1) lo bt),(4,⟨nx,125,4,[y8 0,y8 0,uv 0,iv 0]⟩),(6,⟨nx + 2,125,4,[y8 mj,y8 lw,uv 0,iv 1]⟩)],nx + 4,[],198⟩) [] (gw ?_) ?_
 ·go_simp
  have hC:(27 < lw∧(lw < 31∨mj < 2∨5 < mj))→HdC ver b p it ck lo bt (.tup [.agg [y8 0,y8 0,uv 0,iv 0],iv 3]) [RR ver b p (it + 1) lo bt]:=fun h=>HdC.err (e:=3) (by rw [hP,if_pos h])
  clear hP;refine gdd (fun h2=>?_) (fun h2=>?_) <;> go_simp
  ·refine gdd (fun h3=>?_) (fun h3=>?_) <;> go_simp
   ·exact hC ⟨by omega,by omega⟩
   refine gdd (fun h4=>?_) (fun h4=>?_) <;> go_simp
   ·exact hC ⟨by omega,by omega⟩
   refine ifd (fun h5=>?_) (fun h5=>?_) <;> go_simp
   ·exact hC ⟨by omega,by omega⟩
   ·intro;omega
  ·intro;omega
 ·rintro - hok
  have hok:¬ (27 < lw∧(lw < 31∨mj < 2∨5 < mj)):=hok;rw [if_neg hok] at hP;refine ct (α:=Unit) (fun _=>¬ (ck < 8∧(mj≠ck∨lw=31))) (fun _=>⟨[(0,.ptr 1000 ver 0),(4,.ptr 4 nx 0),(5,iv 0),(6,.ptr 6 (nx + 2) 0)],[(1000,RR ver b p (it + 1) lo bt),(4,⟨nx,125,4,[y8 0,y8 0,uv 0,iv 0]⟩),(6,⟨nx + 2,125,4,[y8 mj,y8 lw,uv 0,iv 1]⟩)],nx + 4,[],198⟩) [] (gw ?_) ?_
  ·have hC:(ck < 8∧(mj≠ck∨lw=31))→HdC ver b p it ck lo bt (.tup [.agg [y8 0,y8 0,uv 0,iv 0],iv 4]) [RR ver b p (it + 1) lo bt]:=fun h=>HdC.err (e:=4) (by rw [hP,if_pos h])
   clear hP hok;go_simp
   refine gdd (fun h2=>?_) (fun h2=>?_) <;> go_simp
   ·refine gdn (fun h3=>?_) (fun h3=>?_) <;> go_simp
    ·exact hC ⟨by omega,by omega⟩
    refine ifd (fun h4=>?_) (fun h4=>?_) <;> go_simp
    ·exact hC ⟨by omega,by omega⟩
    ·intro;omega
   ·intro;omega
  ·rintro - hok2
   have hok2:¬ (ck < 8∧(mj≠ck∨lw=31)):=hok2;rw [if_neg hok2] at hP;refine sqc ?_;go_simp;go_bits;refine sqc ?_;go_simp;have hO:lw=31→HdC ver b p it ck lo bt (.tup [.agg [y8 mj,y8 31,uv 0,iv 1],iv 0]) [RR ver b (p + 1) (it + 1) true bt]:=fun h=>by unfold HdC;rw [hP,if_pos h];exact ⟨rfl,by simp⟩
   have hP:=fun h=>hP.trans (if_neg h)
   refine ifd (fun h2=>?_) (fun h2=>?_) <;> go_simp
   ·have hl:lw=31:=by omega
    subst hl;exact cg (hO rfl) (by simp) (by simp)
   have hP:=hP (by omega);clear hO;refine sqc ?_;go_simp;go_bits;have hq:p + 1≤b.length:=by omega
   have HP:=Lib.hid hP;clear hP
   rename_i hP1 hP2 hP3
   clear hP1 hP2 hP3;refine ct (α:=Nat × Nat × Nat × Nat) (fun y=>y.1 < 18446744073709551616∧y.2.1≤9∧y.2.2.1≤b.length∧RowKit.Hid (hdP b p it ck=if mj=7∧lw=24∧y.1 < 32 then .error 4 else .ok (mj,lw,y.1,y.2.1,y.2.2.1))) (fun y=>⟨[(0,.ptr 1000 ver 0),(4,.ptr 4 nx 0),(5,iv 0),(6,.ptr 6 (nx + 2) 0)],[(1000,RR ver b y.2.2.1 (it + 1) lo bt),(4,⟨nx,125,4,[y8 0,y8 0,uv 0,iv 0]⟩),(6,⟨nx + 2,125,4,[y8 mj,y8 lw,uv y.1,iv y.2.1]⟩)],y.2.2.2,[],198⟩) [] ?_ ?_
   ·refine sqc ?_;go_simp
    refine gw ?_;go_simp;refine ifd (fun h3=>?_) (fun h3=>?_) <;> go_simp
    ·have hl7:lw≤27:=by omega
     rw [kk lw (by omega) hl7];have hk8:2 ^ (lw - 24)≤8∧0 < 2 ^ (lw - 24):=by
      have:=Nat.pow_le_pow_right (n:=2) (by omega) (show lw - 24≤3 by omega);exact ⟨by omega,Nat.pow_pos (by omega)⟩
     have hP:=HP.out;rw [if_neg (by omega)] at hP;have HP:=Lib.hid hP;clear hP;generalize 2 ^ (lw - 24)=k at *;refine rg hmx (by kernel_rfl) ?_;go_simp;go_bits
     refine ifd (fun h4=>?_) (fun h4=>?_) <;> go_simp
     ·exact HdC.err (e:=2) (by rw [HP.out,if_pos (by omega)])
     ·refine rg hmx (by kernel_rfl) ?_
      go_simp;go_bits
      have e1:p + 1 + k - (p + 1)=k:=by omega
      have e2:max ((p:Int) + 1 + k - (p + 1)) 0=k:=by omega
      rw [e1,e2];refine ⟨by omega,?_⟩;have hl:((b.drop (p + 1)).take k).length=k:=by rw [List.length_take,List.length_drop];omega
      generalize (b.drop (p + 1)).take k=l at *;refine lp (α:=Nat × Nat) (fun x=>x.2≤k) (fun x=>⟨[(0,.ptr 1000 ver 0),(4,.ptr 4 nx 0),(5,iv 0),(6,.ptr 6 (nx + 2) 0),(7,iv k),(143,.sl k 1 (bys l)),(144,iv k),(145,iv x.2)],[(1000,RR ver b (p + 1) (it + 1) lo bt),(4,⟨nx,125,4,[y8 0,y8 0,uv 0,iv 0]⟩),(6,⟨nx + 2,125,4,[y8 mj,y8 lw,uv (It.unbe (l.take x.2)),iv 1]⟩)],x.1,[],198⟩) (fun x=>k - x.2) [] [] (nx + 7,0) ?_ ?_
      ·go_simp
       rfl
      ·rintro ⟨u,j⟩ hj
       have hj:j≤k:=hj;refine gw ?_;go_simp
       refine ifd (fun h=>?_) (fun h=>?_) <;> go_simp
       ·have hjl:j < l.length:=by omega
        have hcj:l[j].toNat < 256:=l[j].toNat_lt;have hu:=unbe_l7 (l.take j) (by rw [List.length_take];omega);go_simp;go_bits
        refine ⟨_,j + 1,by omega,by omega,Nat.le_refl _,by omega,?_⟩;rw [unbeS l j hjl];exact num8 _ _ hu hcj
       ·obtain rfl:j=k:=by omega
        have hlk:l.take j=l:=List.take_of_length_le (by omega);have hu:=unbe_l8 l (by omega);have hP:=HP.out;rw [if_neg (by omega)] at hP;rw [hlk]
        go_bits
        exact ⟨It.unbe l,1 + j,p + 1 + j,⟨by omega,by omega,by omega,Lib.hid hP⟩,⟨_,Nat.le_refl _⟩,by omega,rfl,by omega⟩
    ·refine ⟨lw,1,p + 1,⟨by omega,by omega,hq,?_⟩,⟨_,Nat.le_refl _⟩,rfl,rfl,rfl⟩
     have hP:=HP.out;rw [if_pos (by omega)] at hP;exact Lib.hid (hP.trans (by rw [if_neg (by omega)]))
   ·rintro ⟨n,z,q,u⟩ ⟨hn,hz,hqb,hP⟩
    have hn:n < 18446744073709551616:=hn;have hz:z≤9:=hz;have hqb:q≤b.length:=hqb;have hP:RowKit.Hid (hdP b p it ck=if mj=7∧lw=24∧n < 32 then .error 4 else .ok (mj,lw,n,z,q)):=hP;clear HP;refine ct (α:=Unit) (fun _=>¬ (mj=7∧lw=24∧n < 32)) (fun _=>⟨[(0,.ptr 1000 ver 0),(4,.ptr 4 nx 0),(5,iv 0),(6,.ptr 6 (nx + 2) 0)],[(1000,RR ver b q (it + 1) lo bt),(4,⟨nx,125,4,[y8 0,y8 0,uv 0,iv 0]⟩),(6,⟨nx + 2,125,4,[y8 mj,y8 lw,uv n,iv z]⟩)],u,[],198⟩) [] (gw ?_) ?_
    ·have hC:(mj=7∧lw=24∧n < 32)→HdC ver b p it ck lo bt (.tup [.agg [y8 0,y8 0,uv 0,iv 0],iv 4]) [RR ver b q (it + 1) lo bt]:=fun h=>HdC.err (e:=4) (by rw [hP.out,if_pos h])
     go_simp
     refine gdd (fun h3=>?_) (fun h3=>?_) <;> go_simp
     ·refine gdd (fun h4=>?_) (fun h4=>?_) <;> go_simp
      ·refine ifd (fun h5=>?_) (fun h5=>?_) <;> go_simp
       ·exact hC ⟨by omega,by omega,by omega⟩
       ·intro;omega
      ·intro;omega
     ·intro;omega
    ·rintro - hok3
     have hG:HdC ver b p it ck lo bt (.tup [.agg [y8 mj,y8 lw,uv n,iv z],iv 0]) [RR ver b q (it + 1) (lo || lw=31 || (mj < 7 && z≠shortP n)) bt]:=by
      unfold HdC;rw [hP.out,if_neg hok3];exact ⟨rfl,rfl⟩
     clear hP hok3;refine sqc ?_;go_simp;refine rg hmx (by kernel_rfl) ?_;go_simp
     refine gdd (fun h6=>?_) (fun h6=>?_) <;> go_simp
     ·refine cl [] [] (short_c n hn) (by go_simp) ?_
      rintro r rows ⟨rfl,rfl⟩;go_simp
      refine ifn (fun h7=>?_) (fun h7=>?_) <;> go_simp
      ·refine gw ?_;go_simp
       exact cg hG rfl (by simp only [decide_eq_true (show mj < 7 by omega),decide_eq_true (show z≠shortP n by omega)];simp)
      ·refine gw ?_;go_simp
       exact cg hG (by rw [show (z:Int)=shortP n by omega]) (by simp only [decide_eq_false (show ¬ lw=31 by omega),decide_eq_false (show ¬ z≠shortP n by omega)];simp)
     ·refine gw ?_;go_simp
      exact cg hG rfl (by simp only [decide_eq_false (show ¬ lw=31 by omega),decide_eq_false (show ¬ mj < 7 by omega)];simp)
end
theorem stop_c (X:Ev) (s ver:Nat) (b:List UInt8) (p it:Nat) (lo bt:Bool) (hb:b.length≤4096) (hp:p≤b.length):AC Tryd.prog X 103 [.ptr s ver 0] [RR ver b p it lo bt] fun r rows=>r=bov (brk b p)∧rows=[RR ver b (if brk b p then p + 1 else p) it lo bt]:=by
 refine AC.bodyW false Tryd.func103 rfl Tryd.call103 Tryd.ntmps103 (by simp) fun e nx=>gw ?_
 go_simp
 refine rg hmx (by kernel_rfl) ?_;go_simp
 refine gdd (fun h1=>?_) (fun h1=>?_) <;> go_simp
 ·have hpl:p < b.length:=by omega
  have hB:brk b p=decide (b[p].toNat=255):=by
   unfold brk;rw [List.getElem?_eq_getElem hpl];by_cases h:b[p]=255
   ·rw [h];rfl
   ·have h2:b[p].toNat≠255:=fun h2=>h (UInt8.toNat_inj.1 h2)
    rw [decide_eq_false h2];simpa using h
  refine ifd (fun h2=>?_) (fun h2=>?_) <;> go_simp
  ·go_bits
   rw [if_pos (by omega)];exact ⟨by omega,rfl⟩
  ·rw [if_neg (by omega)]
   exact ⟨by omega,rfl⟩
 ·have hB:brk b p=false:=by
   unfold brk;rw [List.getElem?_eq_none (by omega)]
   rfl
  rw [hB];exact ⟨rfl,rfl⟩
def TkC (ver:Nat) (b:List UInt8) (p it:Nat) (lo bt:Bool) (mj n:Nat) (r:SV) (rows:List Row):Prop:=
 (b.length - p < n→r=.tup [.v (.slice none 0 0),iv 2]∧rows=[RR ver b p it lo bt])∧
 (n≤b.length - p→r=.tup [bsl ((b.drop p).take n),iv 0]∧rows=[RR ver b (p + n) it lo (bt || (mj==3 && !Lib.validD ((b.drop p).take n)))])
set_option maxHeartbeats 4000000 in
theorem take_c (s ver:Nat) (b:List UInt8) (p it:Nat) (lo bt:Bool) (mj lw n z:Nat) (hb:b.length≤4096) (hp:p≤b.length) (hn:n < 18446744073709551616):AC Tryd.prog XU 102 [.ptr s ver 0,.agg [y8 mj,y8 lw,uv n,iv z]] [RR ver b p it lo bt] (TkC ver b p it lo bt mj n):=by
 refine AC.bodyW false Tryd.func102 rfl Tryd.call102 Tryd.ntmps102 (by simp) fun e nx=>?_
 go_simp
 refine sqc ?_;go_simp;refine sqc ?_;go_simp;refine rg hmx (by kernel_rfl) ?_;go_simp;go_bits
 refine ifd (fun h1=>?_) (fun h1=>?_) <;> go_simp
 ·exact ⟨fun _=>⟨rfl,rfl⟩,fun h=>by omega⟩
 ·refine sqc ?_;go_simp
  refine rg hmx (by kernel_rfl) ?_;go_simp;go_bits
  have e1:p + n - p=n:=by omega
  rw [e1];refine ⟨by omega,?_⟩;have hl:((b.drop p).take n).length=n:=by rw [List.length_take,List.length_drop];omega
  have hG:∀ r rows,r=.tup [bsl ((b.drop p).take n),iv 0]∧rows=[RR ver b (p + n) it lo (bt || (mj==3 && !Lib.validD ((b.drop p).take n)))]→TkC ver b p it lo bt mj n r rows:=fun r rows h=>⟨fun h=>by omega,fun _=>h⟩
  generalize (b.drop p).take n=L at *;subst hl;refine cl [] [] (clone_c XU L (by omega)) (by go_simp) ?_;rintro r rows ⟨rfl,rfl⟩;go_simp
  refine gw ?_;go_simp;refine rg hmx (by kernel_rfl) ?_;go_simp;go_bits
  refine ⟨by kernel_rfl,?_⟩;refine gdd (fun h3=>?_) (fun h3=>?_) <;> go_simp
  ·refine cl [] [] (valid_c L (by omega)) (by go_simp) ?_
   rintro r rows ⟨rfl,rfl⟩;go_simp
   refine ifk (fun h4=>?_) (fun h4=>?_) <;> go_simp
   ·have h3':mj=3:=by omega
    refine hG _ _ ⟨rfl,?_⟩;subst h3';simp [RR,h4]
  ·have h3':(mj==3)=false:=by simp;omega
   refine hG _ _ ⟨rfl,?_⟩;simp [RR,h3']
end Go.Proofs.YtelefkkkccilaaaDoor
namespace Go.Proofs.YtelefkkkccilaaaDoor
open Am Go.RowKit
set_option maxRecDepth 100000
def RdN {α:Type} (ver:Nat) (b:List UInt8) (Z:SV→Prop) (S:α→SV→Prop) (R:Except Nat (α × Nat × Nat × Bool × Bool)) (r:SV) (rows:List Row):Prop:=match R with
 | .error e=>(∃ a,Z a∧r=.tup [a,iv e])∧∃ p it lo bt,rows=[RR ver b p it lo bt]
 | .ok (x,p,it,lo,bt)=>(∃ a,S x a∧r=.tup [a,iv 0])∧rows=[RR ver b p it lo bt]
def slN (n k:Nat) (cs:List SV) (a:SV):Prop:=a=.sl n k cs∨(n=0∧cs=[]∧a=.v (.slice none 0 0))
def itN (x:It) (a:SV):Prop:=∃ B K,a=.agg [iv x.kind,uv x.num,B,K]∧slN x.bytes.length 1 (bys x.bytes) B∧slN x.kids.length 4 (itL x.kids) K
theorem slN.holds {g:Cx} {w:World} {n k:Nat} {cs:List SV} {a:SV} {v:Value} (h:slN n k cs a) (hv:holds g w a v):holds g w (.sl n k cs) v:=by
 rcases h with rfl | ⟨rfl,rfl,rfl⟩
 ·exact hv
 ·exact ⟨none,0,hv,by omega,by simp,.inl rfl⟩
theorem itN.holds {g:Cx} {w:World} {x:It} {a:SV} {v:Value} (h:itN x a) (hv:holds g w a v):holds g w (itS x) v:=by
 obtain ⟨B,K,rfl,hB,hK⟩:=h;obtain ⟨vs,e,hv⟩:=hv
 match vs,hv with
 | [v1,v2,v3,v4],hv=>exact ⟨_,e,hv.1,hv.2.1,hB.holds hv.2.2.1,hK.holds hv.2.2.2.1,trivial⟩
theorem itN.ren {x:It} {a:SV} (h:itN x a) (nx:Nat):ren1 0 nx a=a:=by
 obtain ⟨B,K,rfl,hB,hK⟩:=h
 rfl
theorem RdN.err {α:Type} {ver:Nat} {b:List UInt8} {Z:SV→Prop} {S:α→SV→Prop} {R:Except Nat (α × Nat × Nat × Bool × Bool)} {e:Nat} {a:SV} {p it:Nat} {lo bt:Bool} (h:R=.error e) (hZ:Z a):RdN ver b Z S R (.tup [a,iv e]) [RR ver b p it lo bt]:=by
 rw [h];exact ⟨⟨a,hZ,rfl⟩,p,it,lo,bt,rfl⟩
theorem RdN.ok {α:Type} {ver:Nat} {b:List UInt8} {Z:SV→Prop} {S:α→SV→Prop} {R:Except Nat (α × Nat × Nat × Bool × Bool)} {x:α} {a:SV} {p it:Nat} {lo bt:Bool} (h:R=.ok (x,p,it,lo,bt)) (hS:S x a):RdN ver b Z S R (.tup [a,iv 0]) [RR ver b p it lo bt]:=by
 rw [h];exact ⟨⟨a,hS,rfl⟩,rfl⟩
def zI (a:SV):Prop:=∃ k:Int,a=.agg [iv k,uv 0,.v (.slice none 0 0),.v (.slice none 0 0)]
abbrev isI (x:It) (a:SV):Prop:=a=itS x
theorem AC.wki {X:Ev} {f:FuncId} {args:List SV} {rows:List Row} {ver:Nat} {b:List UInt8} {R:Except Nat (It × Nat × Nat × Bool × Bool)} (h:AC Tryd.prog X f args rows (RdN ver b zI itN R)):AC Tryd.prog X f args rows (RdN ver b zI isI R):=by
 refine h.weak fun r rows hr=>?_
 cases R with
 | error e=>exact ⟨r,hr,fun _ _ _ _ h=>h⟩
 | ok x=>
   obtain ⟨x,p,it,lo,bt⟩:=x;obtain ⟨⟨a,ha,rfl⟩,hrow⟩:=hr;refine ⟨_,⟨⟨_,rfl,rfl⟩,hrow⟩,fun g w v nx hv=>?_⟩;obtain ⟨vs,e,hv⟩:=hv
   match vs,hv with
   | [v1,v2],hv=>exact ⟨_,e,by have:=hv.1;rw [ha.ren] at this;exact ha.holds this,hv.2.1,trivial⟩
def txR (b:List UInt8) (g lv p it mj lw n:Nat) (lo bt:Bool):Except Nat (It × Nat × Nat × Bool × Bool):=
 if lw=31 then (match gl b g lv p it none mj with
  | .error e=>.error e
  | .ok (l,q,i)=>.ok (.mk mj 0 (Gt.strs b l) [],q,i,lo || Gt.looses l,bt || Gt.bads b l))
 else if n≤b.length - p then .ok (.mk mj 0 ((b.drop p).take n) [],p + n,it,lo,bt || (mj==3 && !Lib.validD ((b.drop p).take n))) else .error 2
set_option maxHeartbeats 4000000 in
theorem text_c (s ver:Nat) (b:List UInt8) (g lv p it:Nat) (lo bt:Bool) (mj lw n z:Nat) (hb:b.length≤4096) (hp:p≤b.length) (hi:it≤256) (hn:n < 18446744073709551616) (hm:mj=2∨mj=3) (hl:lw < 28∨lw=31) (hg:2 * (256 - it) + 2≤g):AC Tryd.prog XU 77 [.ptr s ver 0,.agg [y8 mj,y8 lw,uv n,iv z]] [RR ver b p it lo bt] (RdN ver b zI isI (txR b g lv p it mj lw n lo bt)):=by
 refine AC.wki ?_;refine AC.bodyW false Tryd.func77 rfl Tryd.call77 Tryd.ntmps77 (by simp) fun e nx=>?_
 go_simp
 refine sqc ?_;go_simp;refine sqc ?_;go_simp;go_bits;refine sqc ?_;go_simp;refine ifd (fun h1=>?_) (fun h1=>?_) <;> go_simp
 ·refine cl [] [1000] (take_c 1000 ver b p it lo bt mj lw n z hb hp hn) (by go_simp) ?_
  rintro r rows ⟨hE,hO⟩;by_cases hc:n≤b.length - p
  ·obtain ⟨rfl,rfl⟩:=hO hc
   clear hE hO;go_simp
   refine RdN.ok (x:=.mk mj 0 ((b.drop p).take n) []) (by unfold txR;rw [if_neg (by omega),if_pos hc]) ⟨_,_,rfl,.inl ?_,.inr ⟨rfl,rfl,rfl⟩⟩
   show _=SV.sl ((b.drop p).take n).length 1 (bys ((b.drop p).take n))
   rw [List.length_take,List.length_drop,Nat.min_eq_left (by omega)]
  ·obtain ⟨rfl,rfl⟩:=hE (by omega)
   clear hE hO;go_simp
   exact RdN.err (by unfold txR;rw [if_neg (by omega),if_neg hc]) ⟨_,rfl⟩
 ·obtain rfl:lw=31:=by omega
  have hR:txR b g lv p it mj 31 n lo bt=match preG [] (gl b g lv p it none mj) with
   | .error e=>.error e
   | .ok (l,q,i)=>.ok (.mk mj 0 (Gt.strs b l) [],q,i,lo || Gt.looses l,bt || Gt.bads b l):=by unfold txR;rw [if_pos rfl,preG_nil]
  generalize txR b g lv p it mj 31 n lo bt=R at *;have hQ:preG [] (gl b g lv p it none mj)=preG [] (gl b g lv p it none mj):=rfl;generalize hq:preG [] (gl b g lv p it none mj)=Q at hR hQ;have HR:=dh hR;clear hR hQ;have HQ:=dh hq;clear hq;refine sqc ?_;go_simp
  refine lp (α:=Nat × Nat × Nat × Nat × List Gt × Option Nat) (fun x=>x.2.2.1≤b.length∧x.2.2.2.1≤256∧2 * (256 - x.2.2.2.1) + 2≤x.2.1∧(Gt.strs b x.2.2.2.2.1).length≤x.2.2.1∧(x.2.2.2.2.2=none→Gt.strs b x.2.2.2.2.1=[])∧Hid (preG x.2.2.2.2.1 (gl b x.2.1 lv x.2.2.1 x.2.2.2.1 none mj)=Q)) (fun x=>match x with
   | (u,_,p,it,acc,none)=>⟨[(0,.ptr 1000 ver 0),(3,.ptr 3 nx 0),(4,.ptr 4 (nx + 1) 0),(6,.ptr 6 (nx + 1 + 1) 0)],[(1000,RR ver b p it (lo || Gt.looses acc) (bt || Gt.bads b acc)),(3,⟨nx,125,4,[y8 mj,y8 31,uv n,iv z]⟩),(4,⟨nx + 1,31,4,[iv 0,uv 0,.v (.slice none 0 0),.v (.slice none 0 0)]⟩),(6,⟨nx + 1 + 1,31,4,[iv mj,uv 0,.v (.slice none 0 0),.v (.slice none 0 0)]⟩)],u,[],59⟩
   | (u,_,p,it,acc,some v)=>⟨[(0,.ptr 1000 ver 0),(3,.ptr 3 nx 0),(4,.ptr 4 (nx + 1) 0),(6,.ptr 6 (nx + 1 + 1) 0)],[(1000,RR ver b p it (lo || Gt.looses acc) (bt || Gt.bads b acc)),(3,⟨nx,125,4,[y8 mj,y8 31,uv n,iv z]⟩),(4,⟨nx + 1,31,4,[iv 0,uv 0,.v (.slice none 0 0),.v (.slice none 0 0)]⟩),(6,⟨nx + 1 + 1,31,4,[iv mj,uv 0,.own 56 v (Gt.strs b acc).length 1,.v (.slice none 0 0)]⟩),(56,⟨v,5,1,bys (Gt.strs b acc)⟩)],u,[],59⟩) (fun x=>b.length - x.2.2.1) [] [] (nx + 4,g,p,it,[],none) ?_ ?_
  ·go_simp
   simp [Gt.strs,Gt.looses,Gt.bads]
  ·rintro ⟨u,g',p',it',acc,o⟩ ⟨hp',hi',hg',hs',ho',HQ'⟩
   have hp':p'≤b.length:=hp';have hi':it'≤256:=hi';have hg':2 * (256 - it') + 2≤g':=hg';have hs':(Gt.strs b acc).length≤p':=hs';have HQ':Hid (preG acc (gl b g' lv p' it' none mj)=Q):=HQ';obtain ⟨g',rfl⟩:∃ k,g'=k + 2:=⟨g' - 2,by omega⟩;have hend:brk b p'=true→Hid (R=.ok (.mk mj 0 (Gt.strs b acc) [],p' + 1,it',lo || Gt.looses acc,bt || Gt.bads b acc)):=fun h=>dh (by
    rw [HR.out,← HQ'.out,gl_brk h];simp [preG])
   have hstep:=fun h=>(congrArg (preG acc) (gl_chunk (g:=g') (lv:=lv) (it:=it') hm h)).symm.trans HQ'.out
   clear HQ';have ho':o=none→Gt.strs b acc=[]:=ho';rcases o with _ | v
   all_goals
    refine gw ?_;go_simp
    refine cl [] [1000] (stop_c XU 1000 ver b p' it' (lo || Gt.looses acc) (bt || Gt.bads b acc) hb hp') (by go_simp) ?_;rintro r rows ⟨rfl,rfl⟩;go_simp
    refine ifk (fun h=>?_) (fun h=>?_) <;> go_simp
   ·have hbk:brk b p'=false:=by simpa using h
    have hst:=hstep hbk;rw [if_neg (by rw [hbk];simp)];refine cl [] [1000] (hd_c (X:=XU) 1000 ver b p' it' mj (lo || Gt.looses acc) (bt || Gt.bads b acc) hb hp' hi' (by omega)) (by go_simp) ?_;rintro r rows hH;unfold HdC at hH;cases hh:hdP b p' it' mj with
    | error e'=>
      rw [hh] at hH hst;have hne:=hdP_err hh;obtain ⟨rfl,p2,it2,lo2,rfl⟩:=hH;have HE:=dh (show R=.error e' by rw [HR.out,← hst];rfl);clear hst hstep hend;go_simp
      exact RdN.err HE.out ⟨_,rfl⟩
    | ok x=>
      obtain ⟨mj',lw',n',z',q'⟩:=x;obtain ⟨_,_,_,hlw,hn',hq1,hq2,hlw2,hck,_,hz',_⟩:=hdP_ok hh;obtain ⟨hmj,hl31⟩:=hck (by omega);have hmj:=hmj.symm;subst hmj;have hq2:=hq2 (by omega);rw [hh] at hH hst;obtain ⟨rfl,rfl⟩:=hH;have hst:=dh hst;have HZ:=dh hz';clear hh hstep hend hz';go_simp
      refine cl [] [1000] (take_c 1000 ver b q' (it' + 1) _ _ mj lw' n' z' hb (by omega) hn') (by go_simp) ?_;rintro r rows ⟨hE,hO⟩;by_cases hc:n'≤b.length - q'
      ·obtain ⟨rfl,rfl⟩:=hO hc
       clear hE hO;have hG:=hst.out;simp only [if_pos hc] at hG;rw [preG_pre] at hG;have HG:=dh hG;clear hG;have hSN:Gt.strs b (acc ++ [.mk mj lw' p' (q' + n') n' []])=Gt.strs b acc ++ (b.drop q').take n':=by
        rw [Gt.strs_snoc];show _ ++ (b.drop (q' + n' - n')).take n'=_;rw [show q' + n' - n'=q' by omega]
       have hSL:((b.drop q').take n').length=n':=by rw [List.length_take,List.length_drop];omega
       have hLO:Gt.looses (acc ++ [.mk mj lw' p' (q' + n') n' []])=(Gt.looses acc || (decide (mj < 7) && !decide (z'=shortP n'))):=by
        have hzs:zsP lw'=z':=by rw [HZ.out];unfold zsP;rfl
        rw [Gt.looses_app,Gt.looses1,Gt.loose_flat hl31 (by omega),hzs]
       have hBD:Gt.bads b (acc ++ [.mk mj lw' p' (q' + n') n' []])=(Gt.bads b acc || (mj==3 && !Lib.validD ((b.drop q').take n'))):=by
        rw [Gt.bads_app,Gt.bads1,Gt.bad_flat hl31,show q' + n' - n'=q' by omega]
       have HS:=dh (And.intro hSN (And.intro hSL (And.intro hLO hBD)));clear hSN hSL hLO hBD;go_simp
       obtain ⟨hSN,hSL,hLO,hBD⟩:=HS.out;refine ⟨⟨by rw [show Tryd.t5.bytes=1 from rfl];omega,by omega⟩,u + 1 + 1 + 1 + 1,g' + 1,q' + n',it' + 1,acc ++ [.mk mj lw' p' (q' + n') n' []],some (u + 1 + 1),⟨by omega,by omega,by omega,by rw [hSN,List.length_append,hSL];omega,(fun h=>by cases h),HG⟩,by omega,?_⟩
       dsimp only
       rw [hSN,hLO,hBD,List.length_append,hSL];clear hSN hLO hBD HS;go_simp
       exact ⟨Bool.or_assoc _ _ _,Bool.or_assoc _ _ _⟩
      ·obtain ⟨rfl,rfl⟩:=hE (by omega)
       clear hE hO;have HE:=dh (show R=.error 2 by rw [HR.out,← hst.out];simp only [if_neg hc];rfl);go_simp
       exact RdN.err HE.out ⟨_,rfl⟩
   ·have hbk:brk b p'=true:=by simpa using h
    rw [if_pos hbk];refine gw ?_;go_simp;have ho':=ho' rfl;exact RdN.ok (hend hbk).out ⟨_,_,rfl,.inr ⟨by show (Gt.strs b acc).length=0;rw [ho'];rfl,by show bys (Gt.strs b acc)=[];rw [ho'];rfl,rfl⟩,.inr ⟨rfl,rfl,rfl⟩⟩
   ·have hbk:brk b p'=false:=by simpa using h
    have hst:=hstep hbk;rw [if_neg (by rw [hbk];simp)];refine cl [] [1000] (hd_c (X:=XU) 1000 ver b p' it' mj (lo || Gt.looses acc) (bt || Gt.bads b acc) hb hp' hi' (by omega)) (by go_simp) ?_;rintro r rows hH;unfold HdC at hH;cases hh:hdP b p' it' mj with
    | error e'=>
      rw [hh] at hH hst;have hne:=hdP_err hh;obtain ⟨rfl,p2,it2,lo2,rfl⟩:=hH;have HE:=dh (show R=.error e' by rw [HR.out,← hst];rfl);clear hst hstep hend;go_simp
      exact RdN.err HE.out ⟨_,rfl⟩
    | ok x=>
      obtain ⟨mj',lw',n',z',q'⟩:=x;obtain ⟨_,_,_,hlw,hn',hq1,hq2,hlw2,hck,_,hz',_⟩:=hdP_ok hh;obtain ⟨hmj,hl31⟩:=hck (by omega);have hmj:=hmj.symm;subst hmj;have hq2:=hq2 (by omega);rw [hh] at hH hst;obtain ⟨rfl,rfl⟩:=hH;have hst:=dh hst;have HZ:=dh hz';clear hh hstep hend hz';go_simp
      refine cl [] [1000] (take_c 1000 ver b q' (it' + 1) _ _ mj lw' n' z' hb (by omega) hn') (by go_simp) ?_;rintro r rows ⟨hE,hO⟩;by_cases hc:n'≤b.length - q'
      ·obtain ⟨rfl,rfl⟩:=hO hc
       clear hE hO;have hG:=hst.out;simp only [if_pos hc] at hG;rw [preG_pre] at hG;have HG:=dh hG;clear hG;have hSN:Gt.strs b (acc ++ [.mk mj lw' p' (q' + n') n' []])=Gt.strs b acc ++ (b.drop q').take n':=by
        rw [Gt.strs_snoc];show _ ++ (b.drop (q' + n' - n')).take n'=_;rw [show q' + n' - n'=q' by omega]
       have hSL:((b.drop q').take n').length=n':=by rw [List.length_take,List.length_drop];omega
       have hLO:Gt.looses (acc ++ [.mk mj lw' p' (q' + n') n' []])=(Gt.looses acc || (decide (mj < 7) && !decide (z'=shortP n'))):=by
        have hzs:zsP lw'=z':=by rw [HZ.out];unfold zsP;rfl
        rw [Gt.looses_app,Gt.looses1,Gt.loose_flat hl31 (by omega),hzs]
       have hBD:Gt.bads b (acc ++ [.mk mj lw' p' (q' + n') n' []])=(Gt.bads b acc || (mj==3 && !Lib.validD ((b.drop q').take n'))):=by
        rw [Gt.bads_app,Gt.bads1,Gt.bad_flat hl31,show q' + n' - n'=q' by omega]
       have HS:=dh (And.intro hSN (And.intro hSL (And.intro hLO hBD)));clear hSN hSL hLO hBD;go_simp
       obtain ⟨hSN,hSL,hLO,hBD⟩:=HS.out;refine ⟨⟨by rw [show Tryd.t5.bytes=1 from rfl];omega,by omega⟩,u + 1 + 1 + 1 + 1,g' + 1,q' + n',it' + 1,acc ++ [.mk mj lw' p' (q' + n') n' []],some (u + 1 + 1),⟨by omega,by omega,by omega,by rw [hSN,List.length_append,hSL];omega,(fun h=>by cases h),HG⟩,by omega,?_⟩
       dsimp only
       rw [hSN,hLO,hBD,List.length_append,hSL];clear hSN hLO hBD HS;go_simp
       exact ⟨Bool.or_assoc _ _ _,Bool.or_assoc _ _ _⟩
      ·obtain ⟨rfl,rfl⟩:=hE (by omega)
       clear hE hO;have HE:=dh (show R=.error 2 by rw [HR.out,← hst.out];simp only [if_neg hc];rfl);go_simp
       exact RdN.err HE.out ⟨_,rfl⟩
   ·have hbk:brk b p'=true:=by simpa using h
    rw [if_pos hbk];refine gw ?_;go_simp;exact RdN.ok (hend hbk).out ⟨_,_,rfl,.inl rfl,.inr ⟨rfl,rfl,rfl⟩⟩
end Go.Proofs.YtelefkkkccilaaaDoor
