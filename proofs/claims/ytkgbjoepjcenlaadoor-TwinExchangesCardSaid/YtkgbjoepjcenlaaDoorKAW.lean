/- Joined texts. -/
import Derived.Test.YtkgbjoepjcenlaaDoorKAV
import Derived.Laws.BytesArg
import Derived.Laws.MakeOwn
set_option linter.unusedVariables false
set_option linter.unusedSimpArgs false
namespace Go.Proofs.YtkgbjoepjcenlaaDoor
namespace Am
structure Src where
 m:Nat
 k:Nat
 cs:List SV
 rd:List Nat
 p:Prop
def srR (s v m k:Nat):Option Row→Src
 | some r=>⟨m,k,r.cs.take (m * k),[s],r.ver=v∧m * k≤r.cs.length⟩
 | none=>⟨0,0,[],[],False⟩
def srW (k0:Nat):Value→Src
 | .slice none 0 0=>⟨0,k0,[],[],True⟩
 | .string s=>⟨s.size,1,s.data.toList.map fun b=>.v (.int .u8 b.toNat),[],True⟩
 | _=>⟨0,0,[],[],False⟩
def srV (k0:Nat) (H:Nat→Option Row):SV→Src
 | .sl m k cs=>⟨m,k,cs,[],True⟩
 | .own s v m k=>srR s v m k (H s)
 | .v x=>srW k0 x
 | _=>⟨0,0,[],[],False⟩
def byT (P:Program) (T:TypeId):Nat:=match (typeInfo T).run P default with | .ok i _=>i.bytes | _=>0
def inT:Option TypeDesc→Bool
 | some (.slice _) | some .string=>false
 | _=>true
def elT:Option TypeDesc→Option Nat
 | some (.slice e)=>some e
 | _=>none
def okT (P:Program) (e k:Nat):Prop:=szT P e=k∧0 < k∧(zcT P e).map (·.cells.size)=some k
def apR (P:Program) (ver n k s nx:Nat) (fz:List Nat) (e:Nat) (S:Src):Option Row→Rs
 | some r=>⟨r.ver=ver∧r.cs.length=n * k∧fz.contains s=false∧r.T=e∧r.k=k∧okT P e k∧S.k=k∧S.p∧S.cs.all flat=true∧(n + S.m) * byT P e≤140737488355328∧n + S.m≤140737488355328,.own s nx (n + S.m) k,s :: S.rd,some (s,⟨nx,e,k,r.cs ++ S.cs⟩),nx + 1⟩
 | none=>bad nx
def apN (P:Program) (d k nx:Nat) (e:Nat) (S:Src):Rs:=
 ⟨okT P e k∧S.k=k∧S.p∧S.cs.all flat=true∧S.m * byT P e≤140737488355328∧S.m≤140737488355328,.own d nx S.m k,S.rd,some (d,⟨nx,e,k,S.cs⟩),nx + 1⟩
section
variable {P:Program} {g:Cx} {w:World} {ρ:Operand→Value} {o:Oper} {H:Nat→Option Row} {nx:Nat} {fz:List Nat}
theorem srV_ok {k0:Nat} {s:SV} {v:Value} (h:holds g w s v) (hp:(srV k0 H s).p) (hk:(srV k0 H s).k=k0) (hr:∀ u ∈ (srV k0 H s).rd,∀ r,H u=some r→rowIn g w r):
 ∃ news:List Value,agL g w (srV k0 H s).cs news∧news.length=(srV k0 H s).m * k0∧∀ W:World,W.heap=w.heap→(Builtin.lenOf v).run P W=.ok (srV k0 H s).m W∧(Builtin.firstCells k0 (srV k0 H s).m v).run P W=.ok news.toArray W:=by
 have cell:∀ (W:World) b o,W.heap=w.heap→W.cell? ⟨b,o,none⟩=w.cell? ⟨b,o,none⟩:=fun W b o e=>by simp [World.cell?,e]
 have key:∀ (m:Nat) (b off c:Nat) (vs:List Value),vs.length=m * k0→(∀ i x,vs[i]?=some x→w.cell? ⟨b,off + i,none⟩=some x)→∀ W:World,W.heap=w.heap→(Builtin.lenOf (.slice (some ⟨b,off,none⟩) m c)).run P W=.ok m W∧(Builtin.firstCells k0 m (.slice (some ⟨b,off,none⟩) m c)).run P W=.ok vs.toArray W:=fun m b off c vs hl hc W e=>
  ⟨by simp [Builtin.lenOf],run_firstCells_some W k0 m _ _ _ vs hl fun j x hj=>by
   have:(⟨b,off,none⟩:Addr).add j=⟨b,off + j,none⟩:=by unfold Addr.add;by_cases h:j=0 <;> simp [h]
   rw [this,cell W b _ e];exact hc j x hj⟩
 have nil:∀ W:World,(Builtin.lenOf (.slice none 0 0)).run P W=.ok 0 W∧(Builtin.firstCells k0 0 (.slice none 0 0)).run P W=.ok #[] W:=fun W=>⟨by simp [Builtin.lenOf],run_firstCells_none ..⟩
 cases s with
 | sl m k cs=>
   have hk:k=k0:=hk
   subst hk
   obtain ⟨a,c,e,hn,hl,hc⟩:=h
   subst e
   rcases hc with hc | ⟨b,off,rfl,hz,hc⟩
   ·obtain rfl:=List.length_eq_zero_iff.1 hc
    refine ⟨[],trivial,by show 0=m * k;simpa using hl,fun W e=>⟨by simp [Builtin.lenOf,srV],?_⟩⟩
    have hm:m * k=0:=by simpa using hl.symm
    cases a with
    | none=>exact run_firstCells_none ..
    | some a=>exact run_firstCells_some W k m a m c [] (by simp [hm]) (by simp)
   ·obtain ⟨vs,h1,h2⟩:=hc.vals
    have hvl:=h1.len
    exact ⟨vs,h1.up,by rw [← hvl];exact hl,key m b off c vs (by omega) fun i x e=>by
     obtain ⟨y,e1,e2⟩:=h2 i (by rw [hvl];exact (List.getElem?_eq_some_iff.1 e).1)
     rw [e1] at e;cases e;exact e2⟩
 | own s ver m k=>
   cases hH:H s with
   | none=>simp only [srV,hH] at hp;exact hp.elim
   | some r=>
     simp only [srV,hH,srR] at hp hk hr ⊢
     subst hk
     obtain ⟨hv,hl⟩:=hp
     subst hv
     obtain ⟨ha,hn,e⟩:=h
     have hrow:=hr s (by simp) r hH
     by_cases h0:0 < m * k
     ·obtain ⟨hka,arr,h1,h2,h3,h4⟩:=hrow.arr (by omega)
      have e:=e.resolve_right fun e=>hka e.1
      subst e
      refine ⟨(arr.toList.take r.cs.length).take (m * k),h4.take _,by rw [List.length_take,List.length_take];simp;omega,key m _ 0 _ _ (by rw [List.length_take,List.length_take];simp;omega) fun i x e=>?_⟩
      have hi:=(List.getElem?_eq_some_iff.1 e).1
      rw [List.length_take,List.length_take] at hi
      rw [List.getElem?_take_of_lt (by omega),List.getElem?_take_of_lt (by omega)] at e
      simpa [World.cell?,h1] using e
     ·have h0:m * k=0:=by omega
      rw [h0,List.take_zero]
      refine ⟨[],trivial,by simp [h0],fun W e'=>?_⟩
      rcases e with e | ⟨e0,e⟩
      ·subst e
       exact ⟨by simp [Builtin.lenOf],run_firstCells_some W k m _ m _ [] (by simp [h0]) (by simp)⟩
      ·subst e
       obtain rfl:m=0:=by omega
       exact nil W
 | v x=>
   have h:v=x:=h
   subst h
   have hp:(srW k0 v).p:=hp
   have hk:(srW k0 v).k=k0:=hk
   show ∃ news:List Value,agL g w (srW k0 v).cs news∧news.length=(srW k0 v).m * k0∧∀ W:World,W.heap=w.heap→(Builtin.lenOf v).run P W=.ok (srW k0 v).m W∧(Builtin.firstCells k0 (srW k0 v).m v).run P W=.ok news.toArray W
   unfold srW at hp hk ⊢
   split at hp
   ·exact ⟨[],trivial,by simp,fun W _=>nil W⟩
   ·rename_i s _ _
    have hk:1=k0:=hk
    subst hk
    refine ⟨s.data.toList.map fun b=>.int .u8 b.toNat,?_,by rw [List.length_map,Nat.mul_one,Array.length_toList];rfl,fun W _=>⟨by simp [Builtin.lenOf],?_⟩⟩
    ·rw [show (s.data.toList.map fun b=>SV.v (.int .u8 b.toNat))=(s.data.toList.map fun b=>Value.int .u8 b.toNat).map .v by simp]
     exact agL.ofv _
    ·have:s.extract 0 s.size=s:=by simp
     simp [Builtin.firstCells,this]
     rw [← Array.toList_inj]
     simp
   ·exact hp.elim
 | _=>exact hp.elim
theorem okT_run {e k:Nat} (h:okT P e k):∃ (i:TypeInfo) (z:Value),P.info? e=some i∧i.size=k∧i.zero=some z∧z.cells.size=k∧i.bytes=byT P e:=by
 obtain ⟨h1,h0,h2⟩:=h
 unfold szT sizeOf at h1
 unfold zcT zeroValue at h2
 unfold byT
 unfold typeInfo at *
 simp only [Sem.run_bind,run_program,Result.andThen_ok] at *
 cases hi:P.info? e with
 | none=>simp [hi,stuck] at h1;omega
 | some i=>
   simp [hi] at h1 h2 ⊢
   cases hz:i.zero with
   | none=>simp [hz,unsupported] at h2
   | some z=>exact ⟨h1,z,rfl,by simpa [hz] using h2⟩
theorem run_int {T:TypeId} (h:inT (P.underlying T)=false):(∃ e,∀ W,(underlying T).run P W=.ok (.slice e) W)∨∀ W,(underlying T).run P W=.ok .string W:=by
 simp only [run_und]
 cases hu:P.underlying T with
 | none=>rw [hu] at h;cases h
 | some d=>rw [hu] at h;cases d <;> first | exact .inl ⟨_,fun _=>rfl⟩ | exact .inr fun _=>rfl | cases h
theorem run_ap {T T2 ty e k n c m:Nat} {base:Option Addr} {y:Value} {news olds:List Value} (hT:P.underlying T=some (.slice e)) (h2:inT (P.underlying T2)=false) (he:okT P e k) (hb:(n + m) * byT P e≤140737488355328) (hnm:n + m≤140737488355328)
 (hy:∀ W:World,W.heap=w.heap→(Builtin.lenOf y).run P W=.ok m W∧(Builtin.firstCells k m y).run P W=.ok news.toArray W) (ho:∀ W:World,W.heap=w.heap→(Builtin.firstCells k n (.slice base n c)).run P W=.ok olds.toArray W):
 (n + m≤c→(Builtin.append_ #[T,T2] ty #[.slice base n c,y]).run P w=((match base with | some a=>storeCells (a.add (n * k)) news | none=>pure ()).run P w).andThen fun _ w'=>.ok (.slice base (n + m) c) w')∧
 (c < n + m→∃ (C:Nat) (z:Value),(n + m≤C∧C≤9223372036854775807)∧z.cells.size=k∧(Builtin.append_ #[T,T2] ty #[.slice base n c,y]).run P w=.ok (.slice (some ⟨w.heap.size,0,none⟩) (n + m) C) (w.drew.alloc (.cells (olds.toArray ++ news.toArray ++ Builtin.zeroCells z.cells (C - (n + m))) e))):=by
 obtain ⟨i,z,h1,h3,h4,h5,h6⟩:=okT_run he
 have hd:=run_int h2
 have hu:∀ W:World,(underlying T).run P W=.ok (.slice e) W:=fun W=>by rw [run_und,hT]
 have hsz:∀ W:World,(sizeOf e).run P W=.ok k W:=run_sizeOf he.1 (by have:=he.2.1;omega)
 have hzero:∀ W:World,(zeroValue e).run P W=.ok z W:=fun W=>by simp [zeroValue,typeInfo,h1,h4]
 have hinfo:∀ W:World,(typeInfo e).run P W=.ok i W:=fun W=>by simp [typeInfo,h1]
 refine ⟨fun hc=>?_,fun hc=>?_⟩
 ·have e2:=(hy w rfl).2
  have e1:=(hy w rfl).1
  rcases hd with ⟨e',hd⟩ | hd <;> cases base <;> simp [Builtin.append_,hu,hsz,hd,e1,e2,hc]
 ·have hne:¬ n + m≤c:=by omega
  have h63:¬ ((((n + m:Nat):Int) > IntKind.i64.max)∧((false=true)∨i.bytes=0)):=fun h=>by
   have:=h.1
   simp [IntKind.max,IntKind.bits,IntKind.signed] at this
   omega
  have h48:¬ (Builtin.nextslicecap (n + m) c * i.bytes > 2 ^ 48):=by
   have:=growslice_fits (need:=n + m) (old:=c) (bytes:=i.bytes) hc (by rw [h6];exact hb)
   omega
  refine ⟨grownCap w (n + m) c e,z,?_,h5,?_⟩
  ·exact ⟨Nat.le_add_right ..,by have:=grownCap_le_maxLen w (n + m) c e (by unfold maxLen;omega);unfold maxLen at this;omega⟩
  ·have e1:=(hy w rfl).1
   have e2:=(hy w.drew rfl).2
   have e3:=ho w.drew rfl
   have h48':¬ (281474976710656 < Builtin.nextslicecap (n + m) c * i.bytes):=by omega
   have h63':¬ (9223372036854775807 < ((n:Int) + (m:Int))∧i.bytes=0):=fun h=>by omega
   have ea:∀ x:Array Value,olds.toArray ++ (news.toArray ++ x)=(olds ++ news).toArray ++ x:=fun x=>by simp [← Array.append_assoc]
   rcases hd with ⟨e',hd⟩ | hd <;> simp [Builtin.append_,hu,hsz,hd,e1,e2,e3,hne,hinfo,hzero,h48',h63',Question.forced,newRow,grownCap] <;> rw [ea]
theorem zeroCells_size (z:Array Value) (n:Nat):(Builtin.zeroCells z n).size=n * z.size:=by simp [Builtin.zeroCells]
theorem ap_core {T T2 ty e k n c m b s:Nat} {base:Option Addr} {y:Value} {news olds:List Value} {cs ds:List SV} (hn:¬ g.A nx) (hz:∀ b,g.Z b→b < w.heap.size) (hT:P.underlying T=some (.slice e)) (h2:inT (P.underlying T2)=false) (he:okT P e k) (hb:(n + m) * byT P e≤140737488355328) (hnm:n + m≤140737488355328)
 (hy:∀ W:World,W.heap=w.heap→(Builtin.lenOf y).run P W=.ok m W∧(Builtin.firstCells k m y).run P W=.ok news.toArray W) (ho:∀ W:World,W.heap=w.heap→(Builtin.firstCells k n (.slice base n c)).run P W=.ok olds.toArray W)
 (hcs:agL g w cs olds) (hds:agL g w ds news) (hl:olds.length=n * k) (hm:news.length=m * k) (hnc:n≤c∧c≤9223372036854775807)
 (hin:(base=none∧c=0)∨(c=0∧base=some ⟨b,0,none⟩)∨(c≠0∧base=some ⟨b,0,none⟩∧¬ g.Z b∧∃ arr:Array Value,w.heap[b]?=some (.cells arr e (0,0))∧arr.size=c * k∧arr.toList.take (n * k)=olds)) (hsc:news.all scal=true):
 ∃ v w' g',(Builtin.append_ #[T,T2] ty #[.slice base n c,y]).run P w=.ok v w'∧holds g' w' (.own s nx (n + m) k) v∧Chg g g' w w' (fun x=>c≠0∧x=b) nx∧rowIn g' w' ⟨nx,e,k,cs ++ ds⟩∧(g'.ka nx≠0→w.heap.size≤g'.mu nx∨(c≠0∧g'.mu nx=b)):=by
 obtain ⟨r1,r2⟩:=run_ap (P:=P) (ty:=ty) hT h2 he hb hnm hy ho
 have hk:=he.2.1
 rcases Nat.lt_or_ge c (n + m) with hc | hc
 ·obtain ⟨C,z,hC,hzs,hr⟩:=r2 hc
  have hsz:(olds.toArray ++ news.toArray ++ Builtin.zeroCells z.cells (C - (n + m))).size=C * k:=by
   simp only [Array.size_append,List.size_toArray,zeroCells_size,hzs,hl,hm]
   rw [← Nat.add_mul,← Nat.add_mul,show n + m + (C - (n + m))=C by omega]
  have hlen:(cs ++ ds).length=olds.length + news.length:=by rw [List.length_append,hcs.len,hds.len]
  have hag:agL g w.drew (cs ++ ds) ((olds.toArray ++ news.toArray ++ Builtin.zeroCells z.cells (C - (n + m))).toList.take (cs ++ ds).length):=by
   rw [hlen]
   have:(olds.toArray ++ news.toArray ++ Builtin.zeroCells z.cells (C - (n + m))).toList.take (olds.length + news.length)=olds ++ news:=by
    simp only [Array.toList_append]
    rw [List.take_append_of_le_length (by simp),List.take_of_length_le (by simp)]
   rw [this]
   exact @agL.mono g g w w.drew (.refl g) (fun _ _=>rfl) _ _ (hcs.append hds)
  obtain ⟨g',w',e1,e2,h1,h2,h3,h4,h5⟩:=new_row (w:=w.drew) (T:=e) (cs:=cs ++ ds) hn hz hsz (by rw [hsz,hlen,hl,hm,← Nat.add_mul];exact Nat.mul_le_mul_right k hC.1) hag
  refine ⟨_,w',g',by rw [e2];exact hr,⟨h3,by rw [h5];exact hC,.inl (by rw [h4,h5];rfl)⟩,?_,h2,fun _=>.inl (by rw [h4];exact Nat.le_refl _)⟩
  have:=h1 (fun x=>c≠0∧x=b)
  exact ⟨this.le,this.z,this.ver,this.size,this.blk,this.io⟩
 ·have hr:=r1 hc
  rcases hin with ⟨rfl,rfl⟩ | hin
  ·obtain ⟨rfl,rfl⟩:n=0∧m=0:=by omega
   have e1:olds=[]:=List.length_eq_zero_iff.1 (by omega)
   have e2:news=[]:=List.length_eq_zero_iff.1 (by omega)
   have e3:cs=[]:=List.length_eq_zero_iff.1 (by rw [hcs.len,e1];rfl)
   have e4:ds=[]:=List.length_eq_zero_iff.1 (by rw [hds.len,e2];rfl)
   have hka:(g.add nx 0 0).ka nx=0:=by simp [Cx.add]
   refine ⟨.slice none 0 0,w,g.add nx 0 0,by simpa using hr,⟨.inr rfl,by omega,.inr ⟨hka,rfl⟩⟩,⟨Cx.le_add hn,rfl,fun u hu=>hu.imp id fun e=>⟨e,fun h=>absurd (e ▸ hka) h⟩,Nat.le_refl _,fun _ _ _=>rfl,rfl,rfl,rfl⟩,⟨.inr rfl,.inl ⟨hka,by rw [e3,e4];rfl⟩⟩,fun h=>absurd hka h⟩
  ·have key:base=some ⟨b,0,none⟩:=by rcases hin with h | h;exact h.2;exact h.2.1
   subst key
   rcases Nat.eq_zero_or_pos c with hc0 | hc0
   ·subst hc0
    obtain ⟨rfl,rfl⟩:n=0∧m=0:=by omega
    have e1:olds=[]:=List.length_eq_zero_iff.1 (by omega)
    have e2:news=[]:=List.length_eq_zero_iff.1 (by omega)
    have e3:cs=[]:=List.length_eq_zero_iff.1 (by rw [hcs.len,e1];rfl)
    have e4:ds=[]:=List.length_eq_zero_iff.1 (by rw [hds.len,e2];rfl)
    have hka:(g.add nx b 0).ka nx=0:=by simp [Cx.add]
    refine ⟨.slice (some ⟨b,0,none⟩) 0 0,w,g.add nx b 0,by simpa [e2,storeCells] using hr,⟨.inr rfl,by omega,.inl (by simp [Cx.add])⟩,⟨Cx.le_add hn,rfl,fun u hu=>hu.imp id fun e=>⟨e,fun h=>absurd (e ▸ hka) h⟩,Nat.le_refl _,fun _ _ _=>rfl,rfl,rfl,rfl⟩,⟨.inr rfl,.inl ⟨hka,by rw [e3,e4];rfl⟩⟩,fun h=>absurd hka h⟩
   ·obtain ⟨_,_,hzb,arr,a1,a2,a3⟩:=hin.resolve_left fun h=>by omega
    have hfit:n * k + m * k≤c * k:=by rw [← Nat.add_mul];exact Nat.mul_le_mul_right k hc
    obtain ⟨w',arr',k1,k2,k3,k4,k5,k6,k7⟩:=run_storeCells (P:=P) news arr e w b (n * k) 0 a1 hsc (by omega)
    have ha:(⟨b,0,none⟩:Addr).add (n * k)=⟨b,n * k,none⟩:=by unfold Addr.add;by_cases h:n * k=0 <;> simp [h]
    have hzz:∀ x,g.Z x→w'.heap[x]?=w.heap[x]?:=fun x hx=>k6 x fun e=>hzb (e ▸ hx)
    have hlen:(cs ++ ds).length=n * k + m * k:=by rw [List.length_append,hcs.len,hds.len,hl,hm]
    refine ⟨.slice (some ⟨b,0,none⟩) (n + m) c,w',g.add nx b c,?_,⟨.inr rfl,by simpa [Cx.add] using And.intro hc hnc.2,.inl (by simp [Cx.add])⟩,⟨Cx.le_add hn,rfl,fun u hu=>hu.imp id fun e=>⟨e,fun _=>by subst e;simp [Cx.add];rw [k5];exact (Array.getElem?_eq_some_iff.1 a1).1⟩,by omega,fun x _ hB=>k6 x fun e=>hB ⟨by omega,e⟩,k7⟩,⟨.inr rfl,.inr ⟨arr',by simpa [Cx.add] using k2,by simpa [Cx.add] using k3.trans a2,by show (cs ++ ds).length≤_;rw [hlen,k3,a2];exact hfit,?_⟩⟩,fun _=>.inr ⟨by omega,by simp [Cx.add]⟩⟩
    ·rw [hr]
     simp only [ha,k1,Result.andThen_ok]
    ·show agL _ _ (cs ++ ds) (arr'.toList.take (cs ++ ds).length)
     have:arr'.toList.take (cs ++ ds).length=olds ++ news:=by
      rw [hlen,k4,Nat.add_zero]
      unfold ovw
      rw [List.take_append_of_le_length (by simp [hm];omega),a3,List.take_of_length_le (by simp [hl,hm])]
     rw [this]
     exact (hcs.append hds).mono (Cx.le_add hn) hzz
theorem run_call_ap {T T2:TypeId} {x y:Operand} {v:Value} {w':World} (ho:o.op=.call { callee:=.builtin .append,args:=#[x,y],argTypes:=#[T,T2] }) (hr:(Builtin.append_ #[T,T2] o.type #[ρ x,ρ y]).run P w=.ok v w'):(execOp ρ o).run P w=.ok (.value v) w':=by
 simp only [execOp,ho,resolve,Sem.run_bind,Sem.run_pure,Result.andThen_ok,invoke,builtin,List.map_toArray,List.map_cons,List.map_nil,hr]
def apW (P:Program) (d nx:Nat) (H:Nat→Option Row) (y:SV) (e:Nat):Value→Rs
 | .slice none 0 0=>apN P d (szT P e) nx e (srV (szT P e) H y)
 | _=>bad nx
theorem e_apN {T T2 d e:Nat} {x y:Operand} {sy:SV} (ho:o.op=.call { callee:=.builtin .append,args:=#[x,y],argTypes:=#[T,T2] }) (hx:ρ x=.slice none 0 0) (hy:holds g w sy (ρ y)) (hn:¬ g.A nx) (hz:∀ b,g.Z b→b < w.heap.size) (hT:P.underlying T=some (.slice e)) (h2:inT (P.underlying T2)=false)
 (hr:∀ u ∈ (apN P d (szT P e) nx e (srV (szT P e) H sy)).rd,∀ r,H u=some r→rowIn g w r) (hp:(apN P d (szT P e) nx e (srV (szT P e) H sy)).p):Eff P o ρ g w H nx fz (apN P d (szT P e) nx e (srV (szT P e) H sy)):=by
 obtain ⟨p1,p2,p3,p4,p5,p6⟩:=hp
 obtain ⟨news,h1,h3,h4⟩:=srV_ok (P:=P) hy p3 p2 hr
 obtain ⟨v,w',g',e1,e2,e3,e4,e5⟩:=ap_core (P:=P) (ty:=o.type) (s:=d) (b:=0) (cs:=[]) (olds:=[]) (n:=0) (c:=0) (base:=none) hn hz hT h2 p1 (by simpa using p5) (by simpa using p6) h4 (fun W _=>run_firstCells_none ..) trivial h1 (by simp) h3 (by omega) (.inl ⟨rfl,rfl⟩) (flats_scal p4 h1)
 refine ⟨v,w',g',.inl (run_call_ap ho (by rw [hx];exact e1)),by simpa [apN] using e2,⟨e3.le,e3.z,e3.ver,e3.size,fun b hb hB=>e3.blk b hb fun h=>h.1 rfl,e3.io⟩,fun h=>(by cases h),fun s r' e=>?_⟩
 simp only [apN,Option.some.injEq,Prod.mk.injEq] at e
 obtain ⟨rfl,rfl⟩:=e
 exact ⟨e4,fun h=>.inl ((e5 h).resolve_right fun h=>h.1 rfl)⟩
theorem e_apR {T T2 e ver n k s:Nat} {x y:Operand} {sy:SV} {r:Row} (ho:o.op=.call { callee:=.builtin .append,args:=#[x,y],argTypes:=#[T,T2] }) (hH:H s=some r) (hx:holds g w (.own s ver n k) (ρ x)) (hy:holds g w sy (ρ y)) (hn:¬ g.A nx) (hz:∀ b,g.Z b→b < w.heap.size) (hT:P.underlying T=some (.slice e)) (h2:inT (P.underlying T2)=false)
 (hr:∀ u ∈ (apR P ver n k s nx fz e (srV k H sy) (some r)).rd,∀ r,H u=some r→rowIn g w r) (hfz:fz.contains s=false→g.ka r.ver≠0→¬ g.Z (g.mu r.ver)) (hp:(apR P ver n k s nx fz e (srV k H sy) (some r)).p):Eff P o ρ g w H nx fz (apR P ver n k s nx fz e (srV k H sy) (some r)):=by
 obtain ⟨q1,q2,q3,q4,q5,p1,p2,p3,p4,p5,p6⟩:=hp
 subst q1
 have hrow:=hr s (by simp [apR]) r hH
 obtain ⟨news,h1,h3,h4⟩:=srV_ok (P:=P) hy p3 p2 fun u hu=>hr u (by simp [apR,hu])
 obtain ⟨ha,hnk,hv⟩:=hx
 have hold:∃ (base:Option Addr) (olds:List Value),ρ x=.slice base n (g.ka r.ver)∧agL g w r.cs olds∧olds.length=n * k∧(∀ W:World,W.heap=w.heap→(Builtin.firstCells k n (.slice base n (g.ka r.ver))).run P W=.ok olds.toArray W)∧((base=none∧g.ka r.ver=0)∨(g.ka r.ver=0∧base=some ⟨g.mu r.ver,0,none⟩)∨(g.ka r.ver≠0∧base=some ⟨g.mu r.ver,0,none⟩∧¬ g.Z (g.mu r.ver)∧∃ arr:Array Value,w.heap[g.mu r.ver]?=some (.cells arr e (0,0))∧arr.size=g.ka r.ver * k∧arr.toList.take (n * k)=olds)):=by
  by_cases hka:g.ka r.ver=0
  ·have hn0:n=0:=by omega
   subst hn0
   have hc:r.cs=[]:=List.length_eq_zero_iff.1 (by omega)
   rw [hc,hka]
   rcases hv with hv | hv
   ·exact ⟨_,[],by rw [hv,hka],trivial,by simp,fun W _=>run_firstCells_some W k 0 _ 0 _ [] (by simp) (by simp),.inr (.inl ⟨rfl,rfl⟩)⟩
   ·exact ⟨none,[],hv.2,trivial,by simp,fun W _=>run_firstCells_none ..,.inl ⟨rfl,rfl⟩⟩
  ·have hv:=hv.resolve_right fun h=>hka h.1
   rcases hrow.2 with h | ⟨arr,a1,a2,a3,a4⟩
   ·exact absurd h.1 hka
   ·rw [q2] at a3 a4
    have hlen:(arr.toList.take (n * k)).length=n * k:=by rw [List.length_take];simp;omega
    refine ⟨_,arr.toList.take (n * k),hv,a4,hlen,fun W e'=>run_firstCells_some W k n _ n _ _ hlen fun j x hj=>?_,.inr (.inr ⟨hka,rfl,hfz q3 hka,arr,by rw [← q4];exact a1,by rw [← q5];exact a2,rfl⟩)⟩
    have hj1:j < n * k:=by have:=(List.getElem?_eq_some_iff.1 hj).1;omega
    rw [List.getElem?_take_of_lt hj1] at hj
    have:(⟨g.mu r.ver,0,none⟩:Addr).add j=⟨g.mu r.ver,j,none⟩:=by unfold Addr.add;by_cases h:j=0 <;> simp [h]
    rw [this]
    simpa [World.cell?,e',a1] using hj
 obtain ⟨base,olds,o1,o2,o3,o4,o5⟩:=hold
 obtain ⟨v,w',g',e1,e2,e3,e4,e5⟩:=ap_core (P:=P) (ty:=o.type) (s:=s) (b:=g.mu r.ver) hn hz hT h2 p1 p5 p6 h4 o4 o2 h1 o3 h3 hnk o5 (flats_scal p4 h1)
 refine ⟨v,w',g',.inl (run_call_ap ho (by rw [o1];exact e1)),e2,⟨e3.le,e3.z,e3.ver,e3.size,fun b hb hB=>e3.blk b hb fun h=>hB ⟨s,_,r,rfl,hH,h.1,q3,h.2⟩,e3.io⟩,fun h=>(by cases h),fun u r' e'=>?_⟩
 simp only [apR,Option.some.injEq,Prod.mk.injEq] at e'
 obtain ⟨rfl,rfl⟩:=e'
 exact ⟨e4,fun h=>(e5 h).imp id fun h=>⟨r,hH,h.1,h.2⟩⟩
end
end Am
end Go.Proofs.YtkgbjoepjcenlaaDoor
namespace Go.Proofs.YtkgbjoepjcenlaaDoor
namespace Am
def fillS (place:Nat→Option (Nat × Nat)) (cs:List SV):List (Nat × Option (List SV))→Option (List SV)
 | []=>some cs
 | (i,some new) :: rest=>match place i with
   | some (off,size)=>if new.length=size∧off + size≤cs.length then fillS place (ovw cs off new) rest else none
   | none=>none
 | (_,none) :: _=>none
theorem fold_set:∀ (l:List Value) (k off:Nat) (arr:Array Value),off + k + l.length≤arr.size→((l.zipIdx k).foldl (fun cs (c,j)=>cs.setIfInBounds (off + j) c) arr).toList=ovw arr.toList (off + k) l
 | [],k,off,arr,_=>by simp [ovw]
 | x :: l,k,off,arr,h=>by
   rw [List.length_cons] at h
   rw [List.zipIdx_cons,List.foldl_cons,fold_set l (k + 1) off _ (by simp;omega),Array.toList_setIfInBounds]
   exact ovw_cons _ _ _ _ (by simp;omega)
section
variable {P:Program} {g:Cx} {w:World} {ρ:Operand→Value} {o:Oper} {H:Nat→Option Row} {nx:Nat} {fz:List Nat}
theorem fillS_ok {place:Nat→Option (Nat × Nat)}:∀ {parts:List (Nat × Value)} {ps:List (Nat × SV)} {cs cs':List SV} {arr:Array Value},ps.map (·.1)=parts.map (·.1)→agL g w (ps.map (·.2)) (parts.map (·.2))→agL g w cs arr.toList→fillS place cs (ps.map fun p=>(p.1,cellsO p.2))=some cs'→∃ arr',Instr.fill place arr parts=some arr'∧agL g w cs' arr'.toList∧cs'.length=cs.length
 | [],[],cs,cs',arr,_,_,h,e=>by cases e;exact ⟨arr,rfl,h,rfl⟩
 | (i,v) :: parts,(j,s) :: ps,cs,cs',arr,e1,h1,h,e=>by
   simp only [List.map_cons,List.cons.injEq] at e1
   obtain ⟨e1,e2⟩:=e1
   have e1:j=i:=e1
   subst e1
   obtain ⟨hv,h1⟩:=h1
   have hv:holds g w s v:=hv
   simp only [List.map_cons] at e
   cases hc:cellsO s with
   | none=>rw [hc] at e;cases e
   | some new=>
     rw [hc] at e
     simp only [fillS] at e
     cases hp:place j with
     | none=>rw [hp] at e;cases e
     | some q=>
       obtain ⟨off,size⟩:=q
       rw [hp] at e
       simp only at e
       by_cases hq:new.length=size∧off + size≤cs.length
       ·rw [if_pos hq] at e
        have hn:=cellsO_holds hc hv
        have hl:=hn.len
        have hal:=h.len
        have hsz:v.cells.size=size:=by rw [← hq.1,hl];simp
        have hf:((v.cells.zipIdx.foldl (fun cs (c,j)=>cs.setIfInBounds (off + j) c) arr)).toList=ovw arr.toList off v.cells.toList:=by
         rw [← Array.foldl_toList,Array.toList_zipIdx]
         exact fold_set _ 0 off arr (by simp at hal ⊢;omega)
        obtain ⟨arr',k1,k2,k3⟩:=fillS_ok (parts:=parts) (ps:=ps) (arr:=v.cells.zipIdx.foldl (fun cs (c,j)=>cs.setIfInBounds (off + j) c) arr) e2 h1 (by rw [hf];exact h.ovw hn off) e
        refine ⟨arr',?_,k2,by rw [k3,ovw_len (by omega)]⟩
        have hno:¬ (v.cells.size≠size)∧¬ (off + v.cells.size > arr.size):=by simp at hal;omega
        simp only [Instr.fill,hp]
        rw [if_neg (by simp;omega)]
        exact k1
       ·rw [if_neg hq] at e;cases e
 | [],_ :: _,_,_,_,e1,_,_,_=>by simp at e1
 | _ :: _,[],_,_,_,e1,_,_,_=>by simp at e1
def blS (P:Program) (fs:Array Field) (ps:List (Nat × Option (List SV))) (nx:Nat):Option Value→Rs
 | some z=>match fillS (fun i=>(fs[i]?).map fun f=>(f.offset,szT P f.type)) (z.cells.toList.map .v) ps with
   | some cs=>pu (fs.toList.all (fun f=>decide (szT P f.type≠0))=true) (.agg cs) nx
   | none=>bad nx
 | none=>bad nx
def blV (P:Program) (t:TypeId) (ps:List (Nat × Option (List SV))) (nx:Nat):Option TypeDesc→Rs
 | some (.struct fs)=>blS P fs ps nx (zcT P t)
 | some (.array n e)=>match zcT P t with
   | some z=>match fillS (fun i=>some (i * szT P e,szT P e)) (z.cells.toList.map .v) ps with
     | some cs=>pu (szT P e≠0) (.agg cs) nx
     | none=>bad nx
   | none=>bad nx
 | _=>bad nx
theorem run_places:∀ (fs:List Field),(∀ f ∈ fs,szT P f.type≠0)→(fs.mapM (fun f=>(do pure (f.offset,← sizeOf f.type):Sem (Nat × Nat)))).run P w=.ok (fs.map fun f=>(f.offset,szT P f.type)) w
 | [],_=>by simp
 | f :: fs,h=>by
   have ih:=run_places fs fun f hf=>h f (List.mem_cons_of_mem _ hf)
   rw [List.mapM_cons]
   simp only [Sem.run_bind,run_sizeOf (P:=P) rfl (h f (List.mem_cons_self ..)),Result.andThen_ok,Sem.run_pure,ih]
   rfl
theorem q_bl {t:TypeId} {parts:Array (Nat × Operand)} {ps:List (Nat × SV)} (ho:o.op=.build t parts) (h1:ps.map (·.1)=parts.toList.map (·.1)) (h2:agL g w (ps.map (·.2)) (parts.toList.map fun p=>ρ p.2)) (hp:(blV P t (ps.map fun p=>(p.1,cellsO p.2)) nx (P.underlying t)).p):Quiet P o ρ g w (blV P t (ps.map fun p=>(p.1,cellsO p.2)) nx (P.underlying t)).r:=by
 have e1:ps.map (·.1)=((parts.map fun x=>(x.1,ρ x.2)).toList).map (·.1):=by rw [h1];simp
 have e2:agL g w (ps.map (·.2)) (((parts.map fun x=>(x.1,ρ x.2)).toList).map (·.2)):=by
  have:((parts.map fun x=>(x.1,ρ x.2)).toList).map (·.2)=parts.toList.map fun p=>ρ p.2:=by simp
  rw [this];exact h2
 cases hu:P.underlying t with
 | none=>rw [hu] at hp;exact hp.elim
 | some d=>
   rw [hu] at hp
   cases d with
   | struct fs=>
     simp only [blV,blS] at hp ⊢
     cases hz:zcT P t with
     | none=>rw [hz] at hp;exact hp.elim
     | some z=>
       rw [hz] at hp
       simp only at hp ⊢
       cases hf:fillS (fun i=>(fs[i]?).map fun f=>(f.offset,szT P f.type)) (z.cells.toList.map .v) (ps.map fun p=>(p.1,cellsO p.2)) with
       | none=>rw [hf] at hp;exact hp.elim
       | some cs=>
         rw [hf] at hp
         have hp:fs.toList.all (fun f=>decide (szT P f.type≠0))=true:=hp
         obtain ⟨arr',k1,k2,_⟩:=fillS_ok (g:=g) (w:=w) (arr:=z.cells) e1 e2 (agL.ofv _) hf
         have hpl:=run_places (P:=P) (w:=w) fs.toList fun f hf=>by simpa using List.all_eq_true.1 hp f hf
         have hpl':(fs.mapM (fun f=>(do pure (f.offset,← sizeOf f.type):Sem (Nat × Nat)))).run P w=.ok (fs.map fun f=>(f.offset,szT P f.type)) w:=by
          rw [Array.mapM_eq_mapM_toList]
          show Sem.run P (List.toArray <$> _) w=_
          rw [map_eq_pure_bind,Sem.run_bind,hpl]
          simp only [Result.andThen_ok,Sem.run_pure]
          congr 1
          rw [← Array.toList_inj];simp
         refine .ok (v:=.agg arr') ?_ ⟨arr'.toList,by simp,k2⟩
         have hplace:(fun i:Nat=>(fs.map fun f:Field=>(f.offset,szT P f.type))[i]?)=fun i:Nat=>(fs[i]?).map fun f:Field=>(f.offset,szT P f.type):=by funext i;simp
         simp only [execOp,ho,Instr.build,Sem.run_bind,run_zero hz,Result.andThen_ok,run_und,hu,hpl',hplace]
         rw [k1]
         simp
   | array n e=>
     simp only [blV] at hp ⊢
     cases hz:zcT P t with
     | none=>rw [hz] at hp;exact hp.elim
     | some z=>
       rw [hz] at hp
       simp only at hp ⊢
       cases hf:fillS (fun i=>some (i * szT P e,szT P e)) (z.cells.toList.map .v) (ps.map fun p=>(p.1,cellsO p.2)) with
       | none=>rw [hf] at hp;exact hp.elim
       | some cs=>
         rw [hf] at hp
         have hp:szT P e≠0:=hp
         obtain ⟨arr',k1,k2,_⟩:=fillS_ok (g:=g) (w:=w) (arr:=z.cells) e1 e2 (agL.ofv _) hf
         refine .ok (v:=.agg arr') ?_ ⟨arr'.toList,by simp,k2⟩
         simp only [execOp,ho,Instr.build,Sem.run_bind,run_zero hz,Result.andThen_ok,run_und,hu,run_sizeOf (P:=P) rfl hp]
         rw [k1]
         simp
   | _=>exact hp.elim
def bsV (P:Program) (d nx len:Nat) (ps:List (Nat × Option (List SV))):Option TypeDesc→Rs
 | some (.slice e)=>match fillS (fun i=>some (i * szT P e,szT P e)) (List.replicate (len * szT P e) .any) ps with
   | some cs=>⟨szT P e≠0∧len * szT P e≤16777216∧zcT P e≠none,.own d nx len (szT P e),[],some (d,⟨nx,e,szT P e,cs⟩),nx + 1⟩
   | none=>bad nx
 | _=>bad nx
theorem agL_any:∀ (l:List Value),agL g w (List.replicate l.length .any) l
 | []=>trivial
 | _ :: l=>⟨trivial,agL_any l⟩
theorem e_bs {t len d:Nat} {parts:Array (Nat × Operand)} {ps:List (Nat × SV)} (ho:o.op=.buildSlice t len parts) (h1:ps.map (·.1)=parts.toList.map (·.1)) (h2:agL g w (ps.map (·.2)) (parts.toList.map fun p=>ρ p.2)) (hn:(bsV P d nx len (ps.map fun p=>(p.1,cellsO p.2)) (P.underlying t)).wr≠none→¬ g.A nx) (hz:∀ b,g.Z b→b < w.heap.size)
 (hp:(bsV P d nx len (ps.map fun p=>(p.1,cellsO p.2)) (P.underlying t)).p):Eff P o ρ g w H nx fz (bsV P d nx len (ps.map fun p=>(p.1,cellsO p.2)) (P.underlying t)):=by
 have e1:ps.map (·.1)=((parts.map fun x=>(x.1,ρ x.2)).toList).map (·.1):=by rw [h1];simp
 have e2:agL g w (ps.map (·.2)) (((parts.map fun x=>(x.1,ρ x.2)).toList).map (·.2)):=by
  have:((parts.map fun x=>(x.1,ρ x.2)).toList).map (·.2)=parts.toList.map fun p=>ρ p.2:=by simp
  rw [this];exact h2
 cases hu:P.underlying t with
 | none=>rw [hu] at hp;exact hp.elim
 | some u=>
   rw [hu] at hp
   cases u with
   | slice e=>
     simp only [bsV] at hp ⊢
     cases hf:fillS (fun i=>some (i * szT P e,szT P e)) (List.replicate (len * szT P e) .any) (ps.map fun p=>(p.1,cellsO p.2)) with
     | none=>rw [hf] at hp;exact hp.elim
     | some cs=>
       rw [hf] at hp
       have hn:=hn (by rw [hu];simp [bsV,hf])
       obtain ⟨k1,k2,k3⟩:=hp
       obtain ⟨z,hzz⟩:=Option.ne_none_iff_exists'.1 k3
       have key:∀ zero:Array Value,∃ arr',Instr.fill (fun i=>some (i * szT P e,szT P e)) ((Array.range (len * szT P e)).map (zero[· % zero.size]!)) (parts.map fun x=>(x.1,ρ x.2)).toList=some arr'∧agL g w cs arr'.toList∧cs.length=len * szT P e:=fun zero=>by
        have ha:agL g w (List.replicate (len * szT P e) .any) ((Array.range (len * szT P e)).map (zero[· % zero.size]!)).toList:=by
         have:=agL_any (g:=g) (w:=w) ((Array.range (len * szT P e)).map (zero[· % zero.size]!)).toList
         rwa [show (((Array.range (len * szT P e)).map (zero[· % zero.size]!)).toList).length=len * szT P e by simp] at this
        obtain ⟨arr',a1,a2,a3⟩:=fillS_ok e1 e2 ha hf
        exact ⟨arr',a1,a2,by simpa using a3⟩
       have hno:¬ (len * szT P e > 2 ^ 24):=by omega
       have hlen:len≤16777216:=Nat.le_trans (Nat.le_mul_of_pos_right len (Nat.pos_of_ne_zero k1)) k2
       by_cases h0:len * szT P e=0
       ·obtain ⟨arr',a1,a2,a3⟩:=key #[]
        have al:=a2.len
        refine eff_new (n:=len) (arr:=arr') (v:=.slice (some ⟨w.heap.size,0,none⟩) len len) hn hz (by simp at al;omega) (by simp at al;omega) (by rw [List.take_of_length_le (by omega)];exact a2) ?_ fun g' w' b1 b2 b3=>⟨b1,by omega,.inl (by rw [b2,b3])⟩
        simp only [execOp,ho,Instr.buildSlice,Sem.run_bind,run_und,hu,run_sizeOf (P:=P) rfl k1,Result.andThen_ok,show ¬ (0 > 2 ^ 24) by decide,if_false,h0,if_true,Sem.run_pure]
        rw [h0] at a1
        rw [a1]
        simp [newRow]
       ·obtain ⟨arr',a1,a2,a3⟩:=key z.cells
        have al:=a2.len
        refine eff_new (n:=len) (arr:=arr') (v:=.slice (some ⟨w.heap.size,0,none⟩) len len) hn hz (by simp at al;omega) (by simp at al;omega) (by rw [List.take_of_length_le (by omega)];exact a2) ?_ fun g' w' b1 b2 b3=>⟨b1,by omega,.inl (by rw [b2,b3])⟩
        simp only [execOp,ho,Instr.buildSlice,Sem.run_bind,run_und,hu,run_sizeOf (P:=P) rfl k1,Result.andThen_ok,hno,if_false,h0,run_zero hzz,Sem.run_pure]
        rw [a1]
        simp [newRow]
   | _=>exact hp.elim
end
end Am
end Go.Proofs.YtkgbjoepjcenlaaDoor
namespace Go.Proofs.YtkgbjoepjcenlaaDoor
namespace Am
def mmV (mx:Bool) (nx:Nat):SV→SV→Rs
 | .v (.int k a),.v (.int k' b)=>pu (k=k') (.v (.int k (if mx then max a b else min a b))) nx
 | _,_=>bad nx
def apD (P:Program) (d:Nat) (H:Nat→Option Row) (fz:List Nat) (nx:Nat) (y:SV):SV→Option Nat→Rs
 | .own s v n k,some e=>apR P v n k s nx fz e (srV k H y) (H s)
 | .v x,some e=>apW P d nx H y e x
 | _,_=>bad nx
def apB (P:Program) (d:Nat) (H:Nat→Option Row) (fz:List Nat) (nx:Nat) (y x:SV) (T:Option TypeDesc):Bool→Rs
 | true=>bad nx
 | false=>apD P d H fz nx y x (elT T)
def biC (P:Program) (d:Nat) (fz:List Nat) (H:Nat→Option Row) (nx:Nat) (e:Operand→SV):Builtin→List Operand→List TypeId→Rs
 | .len,[x],[T]=>lnV nx (e x) (P.underlying T)
 | .append,[x,y],[T,T2]=>apB P d H fz nx (e y) (e x) (P.underlying T) (inT (P.underlying T2))
 | .min,[x,y],_=>mmV false nx (e x) (e y)
 | .max,[x,y],_=>mmV true nx (e x) (e y)
 | _,_,_=>bad nx
def clC (P:Program) (d:Nat) (fz:List Nat) (H:Nat→Option Row) (nx:Nat) (e:Operand→SV) (args:List Operand) (ts:List TypeId):Callee→Rs
 | .builtin b=>biC P d fz H nx e b args ts
 | _=>bad nx
def byB:List SV→Option (List UInt8)
 | []=>some []
 | .v (.int .u8 n) :: l=>(byB l).map (UInt8.ofNat n.toNat :: ·)
 | _ :: _=>none
def cvB (k:Nat) (rd:List Nat) (p:Prop) (nx:Nat):Option (List UInt8)→Option TypeDesc→Rs
 | some l,some (.int .u8)=>⟨k=1∧p,.v (.string ⟨l.toArray⟩),rd,none,nx⟩
 | _,_=>bad nx
def cvR (P:Program) (v n k s nx e:Nat):Option Row→Rs
 | some r=>cvB k [s] (r.ver=v∧n≤r.cs.length) nx (byB (r.cs.take n)) (P.underlying e)
 | none=>bad nx
def cvX (P:Program) (H:Nat→Option Row) (nx:Nat):SV→Option TypeDesc→Option TypeDesc→Rs
 | .sl _ k cs,some (.slice e),some .string=>cvB k [] True nx (byB cs) (P.underlying e)
 | .own s v n k,some (.slice e),some .string=>cvR P v n k s nx e (H s)
 | .v (.slice none 0 0),some (.slice e),some .string=>cvB 1 [] True nx (some []) (P.underlying e)
 | x,a,b=>cvV nx x a b
def slO (P:Program) (nx:Nat) (lo hi:Option SV) (x:SV) (T:Option TypeDesc):Option Operand→Rs
 | none=>slV P nx lo hi x T
 | some _=>bad nx
def mkZ (P:Program) (d nx e n:Nat) (p:Prop):Option Value→Rs
 | some (.int t z)=>⟨p∧okT P e 1∧n * byT P e≤140737488355328∧n≤140737488355328,.own d nx n 1,[],some (d,⟨nx,e,1,List.replicate n (.v (.int t z))⟩),nx + 1⟩
 | _=>bad nx
def mkV (P:Program) (d nx:Nat):SV→SV→Option TypeDesc→Rs
 | .v (.int _ a),.v (.int _ b),some (.slice e)=>mkZ P d nx e a.toNat (b=a∧0≤a) (zcT P e)
 | _,_,_=>bad nx
def exec (P:Program) (d:Nat) (fz:List Nat) (e:Operand→SV) (H:Nat→Option Row) (nx:Nat):Op→Rs
 | .move x=>pu True (e x) nx
 | .assign x=>pu True (e x) nx
 | .pick c x y=>pkV (e c) (e x) (e y) nx
 | .alloc T=>alV T d nx (zcT P T)
 | .box T x=>bxV T d nx (cellsO (e x))
 | .build t ps=>blV P t (ps.toList.map fun p=>(p.1,cellsO (e p.2))) nx (P.underlying t)
 | .buildSlice t n ps=>bsV P d nx n (ps.toList.map fun p=>(p.1,cellsO (e p.2))) (P.underlying t)
 | .load T x=>ldV (agT P T) (szT P T) H nx (e x)
 | .store T x y=>stV (szT P T) H fz nx (e x) (cellsO (e y))
 | .nilCheck x=>ncV (e x) nx
 | .binOp o T x y _=>biX o nx (P.underlying T) (e x) (e y)
 | .unOp o _ x=>unV o nx (e x)
 | .convert s t x=>cvX P H nx (e x) (P.underlying s) (P.underlying t)
 | .slice t x lo hi mx=>slO P nx (lo.map e) (hi.map e) (e x) (P.underlying t) mx
 | .fieldAddr T x f=>faU P f (e x) nx (P.underlying T)
 | .field T x f=>flU P f nx (e x) (P.underlying T)
 | .indexAddr T x i=>iaV P nx (e x) (e i) (P.underlying T)
 | .index T x i=>ixV nx (e x) (e i) (P.underlying T)
 | .extract x i=>exV i nx (e x)
 | .makeSlice t n c=>mkV P d nx (e n) (e c) (P.underlying t)
 | .call c=>clC P d fz H nx e c.args.toList c.argTypes.toList c.callee
 | _=>bad nx
section
variable {P:Program} {g:Cx} {w:World} {ρ:Operand→Value} {o:Oper} {H:Nat→Option Row} {nx:Nat} {fz:List Nat}
theorem agL_map (e:Operand→SV):∀ (l:List (Nat × Operand)),(∀ p ∈ l,holds g w (e p.2) (ρ p.2))→agL g w ((l.map fun p=>(p.1,e p.2)).map (·.2)) (l.map fun p=>ρ p.2)
 | [],_=>trivial
 | p :: l,h=>⟨h p (List.mem_cons_self ..),agL_map e l fun q hq=>h q (List.mem_cons_of_mem _ hq)⟩
theorem q_mm {mx:Bool} {ts:Array TypeId} {x y:Operand} {sx sy:SV} (ho:o.op=.call { callee:=.builtin (if mx then .max else .min),args:=#[x,y],argTypes:=ts }) (hx:holds g w sx (ρ x)) (hy:holds g w sy (ρ y)) (hp:(mmV mx nx sx sy).p):Quiet P o ρ g w (mmV mx nx sx sy).r:=by
 unfold mmV at hp ⊢
 split at hp
 ·rename_i k a k' b
  have hp:k=k':=hp
  have hx:ρ x=.int k a:=hx
  have hy:ρ y=.int k' b:=hy
  subst hp
  cases mx with
  | true=>
    refine .ok (v:=.int k (max a b)) ?_ rfl
    have:(if b > a then b else a)=max a b:=by omega
    simp [execOp,ho,resolve,invoke,builtin,Builtin.max_,Builtin.max2,hx,hy,this]
    try omega
  | false=>
    refine .ok (v:=.int k (min a b)) ?_ rfl
    simp [execOp,ho,resolve,invoke,builtin,Builtin.min_,Builtin.min2,hx,hy]
    try omega
 ·exact hp.elim
theorem byB_some:∀ {cs:List SV} {l:List UInt8},byB cs=some l→∃ xs:List Int,cs=xs.map (fun n=>.v (.int .u8 n))∧l=xs.map fun n=>UInt8.ofNat n.toNat
 | [],l,h=>⟨[],rfl,by simpa [byB] using h.symm⟩
 | c :: cs,l,h=>by
   unfold byB at h
   split at h
   ·rename_i e;cases e
   ·rename_i n l' e
    injection e with e1 e2
    subst e1 e2
    obtain ⟨m,hm,rfl⟩:=Option.map_eq_some_iff.1 h
    obtain ⟨xs,h1,h2⟩:=byB_some hm
    exact ⟨n :: xs,by simp [h1],by simp [h2]⟩
   ·cases h
theorem conv_core {T U e:TypeId} (hT:P.underlying T=some (.slice e)) (hU:P.underlying U=some .string) (he:P.underlying e=some (.int .u8)) {xs:List Int} {a:Option Addr} {n c:Nat} (hn:n=xs.length) (h:xs=[]∨∃ b o,a=some ⟨b,o,none⟩∧∀ i x,xs[i]?=some x→w.cell? ⟨b,o + i,none⟩=some (.int .u8 x)):(convert T U (.slice a n c)).run P w=.ok (.string ⟨(xs.map fun n=>UInt8.ofNat n.toNat).toArray⟩) w:=by
 subst hn
 rcases h with rfl | ⟨b,o,rfl,h⟩
 ·cases a with
  | none=>exact run_convert_bytes_nil w T e hT he _ _ U hU
  | some ad=>
    rw [run_convert_bytes_string w T U e _ _ _ hT he hU,run_bytesToString w ad _ c [] (by simp [loadCells,loadCellsFrom])]
    rfl
 ·exact run_convert_bytes_arg w T e hT he b o _ c xs rfl (fun i hi=>by
   rw [h i xs[i] (List.getElem?_eq_getElem hi)]
   simp [List.getD,List.getElem?_eq_getElem hi]) U hU
theorem q_cx {T U:TypeId} {x:Operand} {s:SV} (ho:o.op=.convert T U x) (h:holds g w s (ρ x)) (hr:∀ u ∈ (cvX P H nx s (P.underlying T) (P.underlying U)).rd,∀ r,H u=some r→rowIn g w r) (hp:(cvX P H nx s (P.underlying T) (P.underlying U)).p):Quiet P o ρ g w (cvX P H nx s (P.underlying T) (P.underlying U)).r:=by
 have fin:∀ {v:Value} {l:List UInt8},ρ x=v→(convert T U v).run P w=.ok (.string ⟨l.toArray⟩) w→Quiet P o ρ g w (.v (.string ⟨l.toArray⟩)):=fun {v l} e hr=>.ok (v:=.string ⟨l.toArray⟩) (by simp only [execOp,ho,e,Sem.run_bind,hr,Result.andThen_ok,Sem.run_pure]) rfl
 have atv:∀ {g:Cx} {xs:List Int} {b o:Nat},atL g w (xs.map fun n=>.v (.int .u8 n)) b o→∀ i y,xs[i]?=some y→w.cell? ⟨b,o + i,none⟩=some (.int .u8 y):=fun {g xs b o} hat i y hy=>by
  obtain ⟨vs,h1,h2⟩:=hat.vals
  have hi:=(List.getElem?_eq_some_iff.1 hy).1
  obtain ⟨z,h3,h4⟩:=h2 i (by simpa using hi)
  obtain ⟨z',h5,h6⟩:=h1.get i (.v (.int .u8 y)) (by simp [hy])
  rw [h3] at h5;cases h5
  rw [h4,show z=.int .u8 y from h6]
 unfold cvX at hp hr ⊢
 split at hp
 ·rename_i n k cs e hT hU
  obtain ⟨a,c,e1,hn,hl,hc⟩:=h
  unfold cvB at hp ⊢
  split at hp
  ·rename_i l hb he
   obtain ⟨rfl,_⟩:=hp
   obtain ⟨xs,rfl,rfl⟩:=byB_some hb
   refine fin e1 (conv_core hT hU he (by simpa using hl.symm) (hc.imp (fun h=>by simpa using h) fun ⟨b,o,ea,_,hat⟩=>⟨b,o,ea,atv hat⟩))
  ·exact hp.elim
 ·rename_i s v n k e hT hU
  cases hH:H s with
  | none=>rw [hH] at hp;exact hp.elim
  | some r=>
    simp only [hT,hU] at hr
    simp only [hH,cvR] at hp hr ⊢
    have hbe:∃ l,byB (r.cs.take n)=some l∧P.underlying e=some (.int .u8):=by
     cases hbb:byB (r.cs.take n) with
     | none=>rw [hbb] at hp;exact hp.elim
     | some l=>
       cases hee:P.underlying e with
       | none=>rw [hbb,hee] at hp;exact hp.elim
       | some d=>
         rw [hbb,hee] at hp
         cases d with
         | int kk=>cases kk <;> first | exact ⟨l,rfl,rfl⟩ | exact hp.elim
         | _=>exact hp.elim
    obtain ⟨l,hb,he⟩:=hbe
    rw [hb,he] at hp hr ⊢
    ·obtain ⟨rfl,hv,hnl⟩:=hp
     subst hv
     obtain ⟨xs,e2,rfl⟩:=byB_some hb
     have hlen:n=xs.length:=by
      have:=congrArg List.length e2
      rw [List.length_take,List.length_map] at this;omega
     obtain ⟨ha,hka,hval⟩:=h
     have hrow:=hr s (by simp [cvB]) r hH
     by_cases hn0:n=0
     ·have hx0:xs=[]:=List.length_eq_zero_iff.1 (by omega)
      rcases hval with hval | ⟨_,hval⟩
      ·exact fin hval (conv_core hT hU he hlen (.inl hx0))
      ·subst hn0;exact fin hval (conv_core hT hU he hlen (.inl hx0))
     ·obtain ⟨hk0,arr,h1,h2,h3,h4⟩:=hrow.arr (by omega)
      have hval:=hval.resolve_right fun h=>hk0 h.1
      refine fin hval (conv_core hT hU he hlen (.inr ⟨_,0,rfl,fun i y hy=>?_⟩))
      have h5:=h4.take n
      rw [e2] at h5
      have hi:=(List.getElem?_eq_some_iff.1 hy).1
      obtain ⟨z,h6,h7⟩:=h5.get i (.v (.int .u8 y)) (by simp [hy])
      rw [List.getElem?_take_of_lt (by omega),List.getElem?_take_of_lt (by omega)] at h6
      have h7:z=.int .u8 y:=h7
      subst h7
      simpa [World.cell?,h1] using h6
 ·rename_i e hT hU
  have h:ρ x=.slice none 0 0:=h
  unfold cvB at hp ⊢
  split at hp
  ·rename_i l hb he
   cases hb
   exact fin h (conv_core hT hU he (xs:=[]) rfl (.inl rfl))
  ·exact hp.elim
 ·exact q_cv ho h hp
theorem made_one (z:Value) (n:Nat):(madeCells #[z] n).toList=List.replicate n z:=by
 apply List.ext_getElem
 ·simp [madeCells]
 ·intro i h1 h2
  simp [madeCells,Nat.mod_one]
theorem agL_rep (z:Value):∀ n:Nat,agL g w (List.replicate n (.v z)) (List.replicate n z)
 | 0=>trivial
 | n + 1=>⟨rfl,agL_rep z n⟩
theorem e_mk {t:TypeId} {d:Nat} {x y:Operand} {sx sy:SV} (ho:o.op=.makeSlice t x y) (hx:holds g w sx (ρ x)) (hy:holds g w sy (ρ y)) (hn:(mkV P d nx sx sy (P.underlying t)).wr≠none→¬ g.A nx) (hz:∀ b,g.Z b→b < w.heap.size) (hp:(mkV P d nx sx sy (P.underlying t)).p):Eff P o ρ g w H nx fz (mkV P d nx sx sy (P.underlying t)):=by
 unfold mkV at hp hn ⊢
 split at hp
 ·rename_i kx a ky b e hu
  have hx:ρ x=.int kx a:=hx
  have hy:ρ y=.int ky b:=hy
  cases hc:zcT P e with
  | none=>simp only [hc] at hp;exact False.elim hp
  | some v=>
    simp only [hc] at hp
    cases v with
    | int k z=>
      have hA:=hn (by simp [hu,hc,mkZ])
      obtain ⟨⟨rfl,h0⟩,h1,h2,h3⟩:=hp
      obtain ⟨i,z',e1,e2,e3,e4,e5⟩:=okT_run h1
      have hz':z'=.int k z:=by
       have:zcT P e=some z':=by
        unfold zcT zeroValue typeInfo
        simp [e1,e3]
       rw [hc] at this;cases this;rfl
      subst hz'
      have hb:(i.bytes:Int) * b≤281474976710656:=by
       obtain ⟨m,rfl⟩:∃ m:Nat,b=m:=⟨b.toNat,by omega⟩
       rw [e5]
       have:((byT P e * m:Nat):Int)≤281474976710656:=by
        have h2:m * byT P e≤140737488355328:=by simpa using h2
        rw [Nat.mul_comm] at h2;omega
       rwa [Int.natCast_mul] at this
      have hr:=run_make (P:=P) w t e i (.int k z) hu e1 e3 kx ky b b h0 (Int.le_refl _) hb (by omega)
      rw [e2,Nat.mul_one] at hr
      refine eff_new (n:=b.toNat) (arr:=madeCells #[.int k z] b.toNat) (v:=.slice (some ⟨w.heap.size,0,none⟩) b.toNat b.toNat) hA hz (by simp [madeCells]) (by simp [madeCells]) ?_ ?_ fun g' w' h1' h2' h3'=>⟨h1',?_⟩
      ·rw [made_one,List.length_replicate,List.take_of_length_le (by simp)]
       exact agL_rep _ _
      ·simp only [execOp,ho,hx,hy,Sem.run_bind,hr,Result.andThen_ok,Sem.run_pure]
       rfl
      ·refine ⟨by omega,.inl (by rw [h2',h3'])⟩
    | _=>exact hp.elim
 ·exact hp.elim
def Rows (g:Cx) (w:World) (H:Nat→Option Row) (fz:List Nat) (R:Rs):Prop:=
 ∀ u r,H u=some r→(u ∈ R.rd∨∃ r',R.wr=some (u,r'))→rowIn g w r∧((∃ r',R.wr=some (u,r'))→fz.contains u=false→g.ka r.ver≠0→¬ g.Z (g.mu r.ver))
theorem exec_eff {d:Nat} {e:Operand→SV} (he:∀ x ∈ o.op.operands,holds g w (e x) (ρ x)) (hn:(exec P d fz e H nx o.op).wr≠none→¬ g.A nx) (hz:∀ b,g.Z b→b < w.heap.size) (hr:Rows g w H fz (exec P d fz e H nx o.op)) (hp:(exec P d fz e H nx o.op).p):Eff P o ρ g w H nx fz (exec P d fz e H nx o.op):=by
 have rd:∀ {R:Rs},exec P d fz e H nx o.op=R→∀ u ∈ R.rd,∀ r,H u=some r→rowIn g w r:=fun h u hu r hH=>(hr u r hH (.inl (h ▸ hu))).1
 obtain ⟨dst,op,ty,pos,after,guard⟩:=o
 simp only at he hr hp rd hn ⊢
 cases op with
 | move x=>exact (q_move (.inl rfl) (he x (by simp [Op.operands]))).eff rfl
 | assign x=>exact (q_move (.inr rfl) (he x (by simp [Op.operands]))).eff rfl
 | pick c x y=>
   refine (q_pick rfl (he c (by simp [Op.operands])) (he x (by simp [Op.operands])) (he y (by simp [Op.operands])) hp).eff ?_
   show (pkV _ _ _ _).wr=none;unfold pkV;split <;> rfl
 | alloc T=>exact e_al rfl hn hz hp
 | box T x=>exact e_bx rfl (he x (by simp [Op.operands])) hn hz hp
 | build t ps=>
   have h2:=agL_map (g:=g) (w:=w) (ρ:=ρ) e ps.toList fun p hp=>he p.2 (by simp [Op.operands];exact ⟨p.1,by simpa using hp⟩)
   have e1:(ps.toList.map fun p=>(p.1,cellsO (e p.2)))=(ps.toList.map fun p=>(p.1,e p.2)).map fun p=>(p.1,cellsO p.2):=by simp
   show Eff P _ ρ g w H nx fz (blV P t (ps.toList.map fun p=>(p.1,cellsO (e p.2))) nx (P.underlying t))
   have hp:(blV P t (ps.toList.map fun p=>(p.1,cellsO (e p.2))) nx (P.underlying t)).p:=hp
   rw [e1] at hp ⊢
   refine (q_bl rfl (by simp) h2 hp).eff ?_
   unfold blV blS;repeat' split
   all_goals rfl
 | buildSlice t n ps=>
   have h2:=agL_map (g:=g) (w:=w) (ρ:=ρ) e ps.toList fun p hp=>he p.2 (by simp [Op.operands];exact ⟨p.1,by simpa using hp⟩)
   have e1:(ps.toList.map fun p=>(p.1,cellsO (e p.2)))=(ps.toList.map fun p=>(p.1,e p.2)).map fun p=>(p.1,cellsO p.2):=by simp
   show Eff P _ ρ g w H nx fz (bsV P d nx n (ps.toList.map fun p=>(p.1,cellsO (e p.2))) (P.underlying t))
   have hp:(bsV P d nx n (ps.toList.map fun p=>(p.1,cellsO (e p.2))) (P.underlying t)).p:=hp
   change (bsV P d nx n (ps.toList.map fun p=>(p.1,cellsO (e p.2))) (P.underlying t)).wr≠none→_ at hn
   rw [e1] at hp hn ⊢
   exact e_bs rfl (by simp) h2 hn hz hp
 | load T x=>
   refine (q_ld rfl (he x (by simp [Op.operands])) (rd rfl) hp).eff ?_
   show (ldV _ _ _ _ _).wr=none
   unfold ldV ldR;repeat' split
   all_goals rfl
 | store T x y=>exact e_st rfl (he x (by simp [Op.operands])) (he y (by simp [Op.operands])) (fun u r hH h=>⟨(hr u r hH (.inr h)).1,(hr u r hH (.inr h)).2 h⟩) hp
 | nilCheck x=>
   refine (q_nil rfl (he x (by simp [Op.operands])) hp).eff ?_
   show (ncV _ _).wr=none;unfold ncV;split <;> rfl
 | binOp b T x y U=>
   refine (q_bx rfl (he x (by simp [Op.operands])) (he y (by simp [Op.operands])) hp).eff ?_
   show (biX _ _ _ _ _).wr=none
   unfold biX biV biI;repeat' split
   all_goals rfl
 | unOp b T x=>
   refine (q_un rfl (he x (by simp [Op.operands])) hp).eff ?_
   show (unV _ _ _).wr=none
   unfold unV;repeat' split
   all_goals rfl
 | convert T U x=>
   refine (q_cx rfl (he x (by simp [Op.operands])) (rd rfl) hp).eff ?_
   show (cvX _ _ _ _ _ _).wr=none
   unfold cvX cvR cvB cvV;repeat' split
   all_goals rfl
 | slice t x lo hi mx=>
   cases mx with
   | some _=>exact hp.elim
   | none=>
     refine (q_sl rfl (he x (by simp [Op.operands])) ?_ ?_ hp).eff ?_
     ·cases lo with
      | none=>trivial
      | some l=>exact he l (by simp [Op.operands])
     ·cases hi with
      | none=>trivial
      | some l=>exact he l (by simp [Op.operands])
     ·show (slV _ _ _ _ _ _).wr=none
      unfold slV slB;repeat' split
      all_goals rfl
 | fieldAddr T x f=>
   refine (q_fa rfl (he x (by simp [Op.operands])) hp).eff ?_
   show (faU _ _ _ _ _).wr=none
   unfold faU faF;repeat' split
   all_goals rfl
 | field T x f=>
   refine (q_fl rfl (he x (by simp [Op.operands])) hp).eff ?_
   show (flU _ _ _ _ _).wr=none
   unfold flU flF;repeat' split
   all_goals rfl
 | indexAddr T x i=>
   refine (q_ia rfl (he x (by simp [Op.operands])) (he i (by simp [Op.operands])) hp).eff ?_
   show (iaV _ _ _ _ _).wr=none
   unfold iaV;repeat' split
   all_goals rfl
 | index T x i=>
   refine (q_ix rfl (he x (by simp [Op.operands])) (he i (by simp [Op.operands])) hp).eff ?_
   show (ixV _ _ _ _).wr=none
   unfold ixV;repeat' split
   all_goals rfl
 | extract x i=>
   refine (q_ex rfl (he x (by simp [Op.operands])) hp).eff ?_
   show (exV _ _ _).wr=none
   unfold exV;split <;> rfl
 | makeSlice t n c=>exact e_mk rfl (he n (by simp [Op.operands])) (he c (by simp [Op.operands])) hn hz hp
 | call c=>
   obtain ⟨callee,args,ts⟩:=c
   obtain ⟨args⟩:=args
   obtain ⟨ts⟩:=ts
   cases callee with
   | value f=>exact hp.elim
   | invoke r m=>exact hp.elim
   | builtin b=>
     have hop:∀ x ∈ args,holds g w (e x) (ρ x):=fun x hx=>he x (by simp [Op.operands,Call.operands,hx])
     show Eff P _ ρ g w H nx fz (biC P d fz H nx e b args ts)
     change (biC P d fz H nx e b args ts).p at hp
     change Rows g w H fz (biC P d fz H nx e b args ts) at hr
     change (biC P d fz H nx e b args ts).wr≠none→_ at hn
     clear rd he
     unfold biC at hp hr hn ⊢
     split at hp
     ·rename_i x T
      refine (q_ln rfl (hop x (by simp)) hp (ty:=T)).eff ?_
      unfold lnV;repeat' split
      all_goals rfl
     ·rename_i x y T T2
      simp only at hr hn ⊢
      have hx:=hop x (by simp)
      have hy:=hop y (by simp)
      cases h2:inT (P.underlying T2) with
      | true=>rw [h2] at hp;exact hp.elim
      | false=>
        rw [h2] at hp hr hn
        simp only [apB] at hp hr hn ⊢
        cases hT:P.underlying T with
        | none=>rw [hT] at hp;cases h:e x <;> rw [h] at hp <;> exact hp.elim
        | some dT=>
          rw [hT] at hp hr hn
          cases dT with
          | slice el=>
            simp only [elT] at hp hr hn ⊢
            generalize e x=sx at hx hp hr hn ⊢
            cases sx with
            | own s v n k=>
              simp only [apD] at hp hr hn ⊢
              cases hH:H s with
              | none=>rw [hH] at hp;exact hp.elim
              | some r=>
                rw [hH] at hp hr hn
                have hn:=hn (by simp [apR])
                exact e_apR rfl hH hx hy hn hz hT h2 (fun u hu r hH=>(hr u r hH (.inl hu)).1) ((hr s r hH (.inl (by simp [apR]))).2 ⟨_,rfl⟩) hp
            | v x'=>
              have hx:ρ x=x':=hx
              simp only [apD] at hp hr hn ⊢
              unfold apW at hp hr hn ⊢
              split at hp
              ·have hn:=hn (by simp [apN])
               exact e_apN rfl hx hy hn hz hT h2 (fun u hu r hH=>(hr u r hH (.inl hu)).1) hp
              ·exact hp.elim
            | _=>exact hp.elim
          | _=>cases h:e x <;> rw [h] at hp <;> exact hp.elim
     ·rename_i x y
      refine (q_mm (mx:=false) rfl (hop x (by simp)) (hop y (by simp)) hp).eff ?_
      unfold mmV;split <;> rfl
     ·rename_i x y
      refine (q_mm (mx:=true) rfl (hop x (by simp)) (hop y (by simp)) hp).eff ?_
      unfold mmV;split <;> rfl
     ·exact hp.elim
 | _=>exact hp.elim
end
end Am
end Go.Proofs.YtkgbjoepjcenlaaDoor
