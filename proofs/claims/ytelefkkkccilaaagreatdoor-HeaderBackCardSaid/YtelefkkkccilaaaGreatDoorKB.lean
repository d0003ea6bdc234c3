/- A law for a region: each operation is shown once, whatever the order in which they come up. -/
import Derived.WalkKit
set_option linter.all false
namespace Go.Proofs.YtelefkkkccilaaaGreatDoor
namespace Rg
def doesIn (P:Program) (o:Oper) (ρ:Operand→Value) (w:World) (K:Value→World→Prop):Prop:=
 match (execOp ρ o).run P w with
 | .ok (.value v) w'=>K v w'
 | .ok .skip w'=>K undef w'
 | .ok (.enter f args) w'=>Calls P f args w' fun e w''=>match e with | .returned v=>K v w'' | _=>False
 | _=>False
structure Does (P:Program) (o:Oper) (ρ:Operand→Value) (w:World) (K:Value→World→Prop):Prop where
 out:doesIn P o ρ w K
theorem Does.wp {P:Program} {o:Oper} {ρ:Operand→Value} {w:World} {K:Value→World→Prop} (h:Does P o ρ w K) {a:Act} (he:execOp a.eval o=execOp ρ o) {next:Act→World→Prop} {Q:Exit→Act→World→Prop} (hn:∀ v w',K v w'→next (a.put o.dst v) w'):o.wp P a w next Q:=by
 have h:=h.out;unfold doesIn at h;unfold Oper.wp;rw [he];generalize (execOp ρ o).run P w=r at h;cases r with
 | ok n w'=>
   cases n <;> simp only [Oper.upon] at h ⊢
   case value v=>exact hn _ _ h
   case skip=>exact hn _ _ h
   case enter f args=>
    refine Calls.mono h fun e w'' he=>?_
    cases e with
    | returned v=>exact hn _ _ he
    | panicked c=>exact he.elim
    | outgrown=>exact he.elim
 | halt x w'=>exact h.elim
theorem Does.mono {P:Program} {o:Oper} {ρ:Operand→Value} {w:World} {K K':Value→World→Prop} (h:Does P o ρ w K) (hk:∀ v w',K v w'→K' v w'):Does P o ρ w K':=by
 refine ⟨?_⟩;have h:=h.out;unfold doesIn at *;generalize (execOp ρ o).run P w=r at h;cases r with
 | ok n w'=>
   cases n <;> simp only at h ⊢
   case value v=>exact hk _ _ h
   case skip=>exact hk _ _ h
   case enter f args=>
    refine Calls.mono h fun e w'' he=>?_
    cases e with
    | returned v=>exact hk _ _ he
    | panicked c=>exact he.elim
    | outgrown=>exact he.elim
 | halt x w'=>exact h.elim
def dstOf (ops:Array Oper) (i:Nat):Option Tmp:=(ops[i]?).bind (·.dst)
def depsOf (o:Oper):List Nat:=(o.after.toList.filter (Region.binds .any)).map (·.on)
def deps (ops:Array Oper) (i:Nat):List Nat:=((ops[i]?).map depsOf).getD []
def rho (a0:Act) (ops:Array Oper) (i:Nat) (vs:Nat→Value):Operand→Value
 | .tmp d=>match (deps ops i).find? (fun j=>dstOf ops j==some d) with
   | some j=>vs j
   | none=>a0.eval (.tmp d)
 | x=>a0.eval x
def reads (o:Oper) (d:Tmp):Bool:=o.op.operands.any fun x=>match x with | .tmp t=>t==d | _=>false
def isSel:Op→Bool | .select _ _=>true | _=>false
def okB (ops:Array Oper) (M N:Nat):Bool:=
 (List.range M).all fun i=>match ops[i]? with
  | none=>false
  | some o=>
    !isSel o.op && (match o.dst with | none=>true | some d=>decide (d < N)) &&
    (match o.guard with | none=>true | some (g,_)=>(deps ops i).contains g && (dstOf ops g).isSome) &&
    ((deps ops i).all fun j=>decide (j < i)) &&
    (List.range M).all fun j=>match dstOf ops j with
     | none=>true
     | some d=>(decide (j=i) || o.dst !=some d) &&
       (j==i || !(reads o d) || (deps ops i).contains j || (deps ops j).contains i)
def putFrom (ops:Array Oper) (vs:Nat→Value):Nat→List Oper→Act→Act
 | _,[],a=>a
 | k,o :: r,a=>putFrom ops vs (k + 1) r (a.put o.dst (vs k))
def putAll (ops:Array Oper) (M:Nat) (vs:Nat→Value) (a:Act):Act:=putFrom ops vs 0 (ops.toList.take M) a
def tailB (ops:Array Oper) (M:Nat):Bool:=decide (M≤ops.size) && (List.range ops.size).all fun i=>decide (i < M) || ((List.range i).all fun j=>(deps ops i).contains j) && (deps ops i).all fun j=>decide (j < i)
section
variable {P:Program} {ops:Array Oper} {Q:Exit→Act→World→Prop} {a0:Act} {w0:World}
structure Looks (ops:Array Oper) (M N i:Nat) (o:Oper):Prop where
 sel:∀ cs b,o.op≠.select cs b
 lt:∀ d,o.dst=some d→d < N
 guard:∀ g b,o.guard=some (g,b)→g ∈ deps ops i∧(dstOf ops g).isSome=true
 before:∀ j ∈ deps ops i,j < i
 one:∀ j d,j < M→dstOf ops j=some d→j=i∨o.dst≠some d
 read:∀ j d,j < M→dstOf ops j=some d→j=i∨reads o d=false∨j ∈ deps ops i∨i ∈ deps ops j
theorem dstOf_lt {j:Nat} {d:Tmp} (h:dstOf ops j=some d):j < ops.size:=by
 unfold dstOf at h;cases hj:ops[j]? with
 | none=>simp [hj] at h
 | some o=>exact (Array.getElem?_eq_some_iff.1 hj).1
theorem looks {M N i:Nat} {o:Oper} (h:okB ops M N=true) (hiM:i < M) (hi:ops[i]?=some o):Looks ops M N i o:=by
 unfold okB at h;rw [List.all_eq_true] at h;have h1:=h i (List.mem_range.2 hiM);simp only [hi,Bool.and_eq_true,List.all_eq_true] at h1;obtain ⟨⟨⟨⟨hs,hd⟩,hg⟩,hb⟩,hr⟩:=h1;have hr':∀ j d,j < M→dstOf ops j=some d→(j=i∨o.dst≠some d)∧(j=i∨reads o d=false∨j ∈ deps ops i∨i ∈ deps ops j):=fun j d hjM hj=>by
  have:=hr j (List.mem_range.2 hjM);simp only [hj] at this;simp at this;refine ⟨?_,?_⟩
  ·rcases this.1 with h | h
   ·exact .inl h
   ·exact .inr h
  ·rcases this.2 with ((h | h) | h) | h
   ·exact .inl h
   ·exact .inr (.inl h)
   ·exact .inr (.inr (.inl h))
   ·exact .inr (.inr (.inr h))
 refine ⟨fun cs b e=>by rw [e] at hs;simp [isSel] at hs,fun d e=>by simpa [e] using hd,fun g b e=>by rw [e] at hg;simpa using hg,fun j hj=>by simpa using hb j hj,fun j d hM hj=>(hr' j d hM hj).1,fun j d hM hj=>(hr' j d hM hj).2⟩
structure Inv (a0:Act) (ops:Array Oper) (M:Nat) (w0:World) (R:World→World→Prop) (G:World→Prop) (F:Nat→Value→World→Prop) (listed:Nat→Bool) (a:Act) (w:World) (vs:Nat→Value):Prop where
 defers:a.defers=a0.defers
 size:a.tmps.size=a0.tmps.size
 new:∀ j d,listed j=true→dstOf ops j=some d→a.tmps[d]?=some (vs j)
 old:∀ d,(∀ j,listed j=true→dstOf ops j≠some d)→a.tmps[d]?=a0.tmps[d]?
 closed:∀ j,listed j=true→∀ i ∈ deps ops j,listed i=true
 below:∀ j,listed j=true→j < M
 rel:R w0 w
 glob:G w
 fact:∀ j,listed j=true→F j (vs j) w
def StepOk (P:Program) (a0:Act) (ops:Array Oper) (w0:World) (R:World→World→Prop) (G:World→Prop) (F:Nat→Value→World→Prop) (i:Nat) (o:Oper):Prop:=
 ∀ (vs:Nat→Value) (w:World),R w0 w→G w→(∀ j ∈ deps ops i,F j (vs j) w)→
  match o.guard with
  | none=>Does P o (rho a0 ops i vs) w fun v w'=>R w w'∧G w'∧F i v w'
  | some (g,b)=>(vs g=.bool b→Does P o (rho a0 ops i vs) w fun v w'=>R w w'∧G w'∧F i v w')∧(vs g≠.bool b→F i undef w)
theorem Inv.step {M:Nat} {R:World→World→Prop} (hRr:∀ w,R w w) (hRt:∀ u v w,R u v→R v w→R u w) {G:World→Prop} {F:Nat→Value→World→Prop} (hF:∀ j v w w',R w w'→F j v w→F j v w')
 (hok:okB ops M a0.tmps.size=true) {listed:Nat→Bool} {a:Act} {w:World} {vs:Nat→Value} (h:Inv a0 ops M w0 R G F listed a w vs) {i:Nat} {o:Oper} (hiM:i < M) (hi:ops[i]?=some o) (hun:listed i=false) (hready:∀ j ∈ deps ops i,listed j=true)
 (hs:StepOk P a0 ops w0 R G F i o) {next:Act→World→Prop} (hn:∀ a' w' vs',Inv a0 ops M w0 R G F (fun j=>listed j || j==i) a' w' vs'→next a' w'):wpOp P ops Q i next a w:=by
 have L:=looks hok hiM hi;have hev:execOp a.eval o=execOp (rho a0 ops i vs) o:=by
  refine execOp_congr o L.sel fun x hx=>?_
  cases x with
  | tmp d=>
    unfold rho;cases hf:(deps ops i).find? (fun j=>dstOf ops j==some d) with
    | some j=>
      have hj:=List.mem_of_find?_eq_some hf;have hd:=List.find?_some hf;simp only [beq_iff_eq] at hd;simp only [Act.eval,Array.getD_eq_getD_getElem?,h.new j d (hready j hj) hd,Option.getD_some];rw [hf]
    | none=>
      have ho:a.tmps[d]?=a0.tmps[d]?:=h.old d fun j hj hjd=>by
       have hji:j≠i:=fun e=>by subst e;rw [hj] at hun;cases hun
       have hrd:reads o d=true:=by
        unfold reads;rw [Array.any_eq_true];obtain ⟨k,hk,e⟩:=Array.mem_iff_getElem.1 hx;exact ⟨k,hk,by rw [e];simp⟩
       rcases L.read j d (h.below j hj) hjd with e | e | e | e
       ·exact hji e
       ·rw [hrd] at e;cases e
       ·have:=List.find?_eq_none.1 hf j e
        simp [hjd] at this
       ·have:=h.closed j hj i e
        rw [hun] at this;cases this
      simp only [Act.eval,Array.getD_eq_getD_getElem?,ho];rw [hf]
  | _=>rfl
 have hput:∀ v w',R w w'→G w'→F i v w'→Inv a0 ops M w0 R G F (fun j=>listed j || j==i) (a.put o.dst v) w' (fun j=>if j=i then v else vs j):=fun v w' hR hG hFi=>by
  have hio:dstOf ops i=o.dst:=by simp [dstOf,hi]
  refine ⟨?_,?_,?_,?_,?_,?_,hRt _ _ _ h.rel hR,hG,?_⟩
  ·cases hd:o.dst <;> simp [Act.put,h.defers]
  ·cases hd:o.dst <;> simp [Act.put,h.size]
  ·intro j d hj hjd
   by_cases hji:j=i
   ·subst hji
    rw [hio] at hjd;have:=L.lt d hjd;simp [Act.put,hjd,h.size,this]
   ·have hl:listed j=true:=by simpa [hji] using hj
    have hne:o.dst≠some d:=(L.one j d (h.below j hl) hjd).resolve_left hji;rw [if_neg hji];cases hd:o.dst with
    | none=>simpa [Act.put] using h.new j d hl hjd
    | some d'=>
      have:d'≠d:=fun e=>hne (by rw [hd,e])
      simp [Act.put,Array.getElem?_setIfInBounds_ne this,h.new j d hl hjd]
  ·intro d hd
   have h1:=h.old d fun j hj=>hd j (by simp [hj])
   cases hdd:o.dst with
   | none=>simpa [Act.put] using h1
   | some d'=>
     have:d'≠d:=fun e=>hd i (by simp) (by rw [hio,hdd,e])
     simp [Act.put,Array.getElem?_setIfInBounds_ne this,h1]
  ·intro j hj k hk
   by_cases hji:j=i
   ·subst hji;simp [hready k hk]
   ·have hl:listed j=true:=by simpa [hji] using hj
    simp [h.closed j hl k hk]
  ·intro j hj
   by_cases hji:j=i
   ·subst hji;exact hiM
   ·exact h.below j (by simpa [hji] using hj)
  ·intro j hj
   by_cases hji:j=i
   ·subst hji;simpa using hFi
   ·have hl:listed j=true:=by simpa [hji] using hj
    rw [if_neg hji];exact hF _ _ _ _ hR (h.fact j hl)
 have hs':=hs vs w h.rel h.glob (fun j hj=>h.fact j (hready j hj));unfold wpOp;simp only [hi];cases hg:o.guard with
 | none=>
   rw [hg] at hs';rw [if_pos (by simp [Region.wanted,hg])];exact .inl (hs'.wp hev fun v w' hK=>hn _ _ _ (hput v w' hK.1 hK.2.1 hK.2.2))
 | some gb=>
   obtain ⟨g,b⟩:=gb;rw [hg] at hs';obtain ⟨hgd,hgs⟩:=L.guard g b hg;obtain ⟨d,hd⟩:=Option.isSome_iff_exists.1 hgs;have ht:=h.new g d (hready g hgd) hd;have hy:yielded ops a.tmps g=match vs g with | .bool b=>some b | _=>none:=by
    unfold yielded;rw [show (ops[g]?).bind (·.dst)=some d from hd];simp only [Option.bind_some,ht];cases vs g <;> rfl
   by_cases hw:vs g=.bool b
   ·rw [if_pos (by simp [Region.wanted,hg,hy,hw])]
    exact .inl ((hs'.1 hw).wp hev fun v w' hK=>hn _ _ _ (hput v w' hK.1 hK.2.1 hK.2.2))
   ·rw [if_neg (by
     simp only [Region.wanted,hg,hy];cases hv:vs g <;> simp
     rename_i b'
     intro e;exact hw (by rw [hv,e]))]
    exact hn _ _ _ (hput undef w (hRr w) h.glob (hs'.2 hw))
theorem Inv.start {M:Nat} {R:World→World→Prop} {G:World→Prop} {F:Nat→Value→World→Prop} {w:World} (hR:R w0 w) (hG:G w):Inv a0 ops M w0 R G F (fun _=>false) a0 w (fun _=>undef):=
 ⟨rfl,rfl,fun _ _ h=>(by cases h),fun _ _=>rfl,fun _ h=>(by cases h),fun _ h=>(by cases h),hR,hG,fun _ h=>(by cases h)⟩
theorem putFrom_get (vs:Nat→Value) (M:Nat) (hM:M≤ops.size):∀ (l:List Oper) (k:Nat) (a:Act),k + l.length=M→(∀ j,j < l.length→l[j]?=ops[k + j]?)→(∀ i j d,i < M→j < M→dstOf ops i=some d→dstOf ops j=some d→i=j)→(∀ j d,j < M→dstOf ops j=some d→d < a.tmps.size)→
 (putFrom ops vs k l a).defers=a.defers∧(putFrom ops vs k l a).tmps.size=a.tmps.size∧(∀ j d,k≤j→j < M→dstOf ops j=some d→(putFrom ops vs k l a).tmps[d]?=some (vs j))∧∀ d,(∀ j,k≤j→j < M→dstOf ops j≠some d)→(putFrom ops vs k l a).tmps[d]?=a.tmps[d]?
 | [],k,a,hk,hl,_,_=>⟨rfl,rfl,fun j d hk' hj=>(by simp at hk;omega),fun d hd=>rfl⟩
 | o :: r,k,a,hk,hl,hone,hlt=>by
  simp only [List.length_cons] at hk;have h0:ops[k]?=some o:=by simpa using (hl 0 (by simp)).symm
  have hdk:dstOf ops k=o.dst:=by simp [dstOf,h0]
  have hsz:(a.put o.dst (vs k)).tmps.size=a.tmps.size:=by cases hd:o.dst <;> simp [Act.put]
  have ih:=putFrom_get vs M hM r (k + 1) (a.put o.dst (vs k)) (by omega) (fun j hj=>by have:=hl (j + 1) (by simpa using hj);simpa [Nat.add_assoc,Nat.add_comm 1 j] using this) hone (fun j d hjM hj=>by rw [hsz];exact hlt j d hjM hj);obtain ⟨i1,i2,i3,i4⟩:=ih;refine ⟨i1.trans (by cases hd:o.dst <;> simp [Act.put]),i2.trans hsz,fun j d hj hjM hjd=>?_,fun d hd=>?_⟩
  ·rcases Nat.lt_or_ge k j with hkj | hkj
   ·exact i3 j d hkj hjM hjd
   ·have:j=k:=by omega
    subst this;refine (i4 d fun i hi hiM hid=>?_).trans ?_
    ·have:=hone _ _ _ hiM hjM hid hjd;omega
    ·rw [hdk] at hjd
     simp [Act.put,hjd,hlt j d hjM (by rw [hdk];exact hjd)]
  ·refine (i4 d fun i hi hiM=>hd i (by omega) hiM).trans ?_
   have hne:=hd k (Nat.le_refl _) (by omega);rw [hdk] at hne;cases hdd:o.dst with
   | none=>rfl
   | some d'=>
     have:d'≠d:=fun e=>hne (by rw [hdd,e])
     simp [Act.put,Array.getElem?_setIfInBounds_ne this]
theorem Inv.all {M:Nat} {R:World→World→Prop} {G:World→Prop} {F:Nat→Value→World→Prop} {w:World} {a:Act} {l:Nat→Bool} {vs:Nat→Value} (hM:M≤ops.size) (hok:okB ops M a0.tmps.size=true) (h:Inv a0 ops M w0 R G F l a w vs) (hl:∀ j,j < M→l j=true):a=putAll ops M vs a0:=by
 have hone:∀ i j d,i < M→j < M→dstOf ops i=some d→dstOf ops j=some d→i=j:=fun i j d hiM hjM hi hj=>by
  have h1:=dstOf_lt hi;have hoi:ops[i]?=some ops[i]:=Array.getElem?_eq_getElem h1;have hd:ops[i].dst=some d:=by simpa [dstOf,hoi] using hi
  rcases (looks hok hiM hoi).one j d hjM hj with e | e
  ·exact e.symm
  ·exact absurd hd e
 have hlt:∀ j d,j < M→dstOf ops j=some d→d < a0.tmps.size:=fun j d hjM hj=>by
  have h1:=dstOf_lt hj;have hoj:ops[j]?=some ops[j]:=Array.getElem?_eq_getElem h1;exact (looks hok hjM hoj).lt d (by simpa [dstOf,hoj] using hj)
 obtain ⟨p1,p2,p3,p4⟩:=putFrom_get (ops:=ops) vs M hM (ops.toList.take M) 0 a0 (by simp;omega) (fun j hj=>by
  have:j < M:=by simp at hj;omega
  simp [List.getElem?_take,this]) hone hlt
 have ht:a.tmps=(putAll ops M vs a0).tmps:=by
  refine Array.ext_getElem? fun d=>?_
  by_cases hd:∃ j,j < M∧dstOf ops j=some d
  ·obtain ⟨j,hjM,hj⟩:=hd
   exact (h.new j d (hl j hjM) hj).trans (p3 j d (Nat.zero_le _) hjM hj).symm
  ·exact (h.old d fun j hj e=>hd ⟨j,h.below j hj,e⟩).trans (p4 d fun j _ hjM e=>hd ⟨j,hjM,e⟩).symm
 have hd:a.defers=(putAll ops M vs a0).defers:=h.defers.trans p1.symm;cases a
 cases hp:putAll ops M vs a0
 rw [hp] at ht hd;simp only at ht hd;rw [ht,hd]
def Firsts (ops:Array Oper) (k:Nat) (listed:Array Bool):Prop:=listed.size=ops.size∧∀ j,j < ops.size→listed.getD j false=decide (j < k)
theorem Firsts.succ {k:Nat} {listed:Array Bool} (h:Firsts ops k listed):Firsts ops (k + 1) (listed.setIfInBounds k true):=by
 refine ⟨by simpa using h.1,fun j hj=>?_⟩;by_cases e:k=j
 ·subst e;simp [h.1,hj]
 ·have:=h.2 j hj
  rw [getD_set_ne _ e,this];simp;omega
theorem any_tail {M:Nat} (ht:tailB ops M=true):∀ (l:List Oper) (k fuel:Nat) (listed:Array Bool) (a:Act) (w:World),M≤k→ops.toList.drop k=l→l.length≤fuel→Firsts ops k listed→wpList P ops Q l a w→wpAny P .any ops Q fuel listed a w:=by
 have ht2:∀ i,M≤i→i < ops.size→(∀ j,j < i→j ∈ deps ops i)∧∀ j ∈ deps ops i,j < i:=by
  unfold tailB at ht;simp only [Bool.and_eq_true,decide_eq_true_eq,List.all_eq_true] at ht;intro i hM hi;have:=ht.2 i (List.mem_range.2 hi);simp at this;rcases this with h | h
  ·omega
  ·exact h
 have ht':∀ i,M≤i→i < ops.size→∀ j,j < i→j ∈ deps ops i:=fun i hM hi=>(ht2 i hM hi).1
 intro l
 induction l with
 | nil=>
   intro k fuel listed a w hk hl hf hfi h;have hks:ops.size≤k:=by
    have:=congrArg List.length hl;simp at this;omega
   have hr:Region.ready .any ops listed=[]:=by
    refine List.eq_nil_iff_forall_not_mem.2 fun j hj=>?_
    obtain ⟨h3,o,h4,_⟩:=mem_ready.1 hj;have h5:j < ops.size:=(Array.getElem?_eq_some_iff.1 h4).1;have h6:=hfi.2 j h5;have h7:j < listed.size:=by rw [hfi.1];exact h5
    simp [h7] at h3 h6;rw [h3] at h6;simp at h6;omega
   cases fuel with
   | zero=>exact ⟨hr,h⟩
   | succ n=>exact ⟨fun _=>h,fun i hi=>by rw [hr] at hi;cases hi⟩
 | cons o r ih=>
   intro k fuel listed a w hk hl hf hfi h;have hks:k < ops.size:=by
    have:=congrArg List.length hl;simp at this;omega
   have hok:ops[k]?=some o:=by
    have:=congrArg (fun l=>l[0]?) hl;simpa using this
   have hr:∀ i ∈ Region.ready .any ops listed,i=k:=by
    intro i hi;obtain ⟨h3,oi,h4,h5⟩:=mem_ready.1 hi;have h6:i < ops.size:=(Array.getElem?_eq_some_iff.1 h4).1;have h7:i < listed.size:=by rw [hfi.1];exact h6
    have h8:=hfi.2 i h6;simp [h7] at h3 h8;rw [h3] at h8;have h9:k≤i:=by simpa using h8
    rcases Nat.lt_or_ge k i with h10 | h10
    ·exfalso
     have h11:=ht' i (by omega) h6 k h10;simp only [deps,h4,Option.map_some,Option.getD_some,depsOf] at h11;obtain ⟨e,he,h12⟩:=List.mem_map.1 h11;obtain ⟨he1,he2⟩:=List.mem_filter.1 he;have h13:=h5 e (by simpa using he1) he2;rw [h12,hfi.2 k hks] at h13;simp at h13
    ·omega
   cases fuel with
   | zero=>simp at hf
   | succ n=>
     refine ⟨fun h0=>?_,fun i hi=>?_⟩
     ·exfalso
      have hd:∀ j ∈ deps ops k,j < k:=(ht2 k hk hks).2;have:k ∈ Region.ready .any ops listed:=by
       refine mem_ready.2 ⟨?_,o,hok,fun e he hb=>?_⟩
       ·have h7:k < listed.size:=by rw [hfi.1];exact hks
        have h8:=hfi.2 k hks;simp [h7] at h8 ⊢;exact h8
       ·have h11:e.on ∈ deps ops k:=by
         simp only [deps,hok,Option.map_some,Option.getD_some,depsOf];exact List.mem_map.2 ⟨e,List.mem_filter.2 ⟨by simpa using he,hb⟩,rfl⟩
        have h12:=hd _ h11;rw [hfi.2 e.on (by omega)];simpa using h12
      rw [h0] at this;cases this
     ·obtain rfl:=hr i hi
      have h1:wpOp P ops Q i (wpList P ops Q r) a w:=by
       unfold wpOp;simp only [hok];exact h
      refine wpOp_mono (fun a' w' h'=>ih (i + 1) n _ a' w' (by omega) ?_ (by simp at hf;omega) hfi.succ h') h1;rw [← List.tail_drop,hl];rfl
theorem cnt_le {l:List Bool}:(l.filter id).length≤l.length:=List.length_filter_le _ _
theorem any_inv {M:Nat} {R:World→World→Prop} (hRr:∀ w,R w w) (hRt:∀ u v w,R u v→R v w→R u w) {G:World→Prop} {F:Nat→Value→World→Prop} (hF:∀ j v w w',R w w'→F j v w→F j v w')
 (hok:okB ops M a0.tmps.size=true) (ht:tailB ops M=true) (hs:∀ i o,i < M→ops[i]?=some o→StepOk P a0 ops w0 R G F i o)
 (hend:∀ vs w',R w0 w'→G w'→(∀ j,j < M→F j (vs j) w')→wpList P ops Q (ops.toList.drop M) (putAll ops M vs a0) w'):
 ∀ (fuel:Nat) (listed:Array Bool) (a:Act) (w:World) (vs:Nat→Value),listed.size=ops.size→ops.size≤fuel + (listed.toList.filter id).length→Inv a0 ops M w0 R G F (fun j=>listed.getD j false) a w vs→wpAny P .any ops Q fuel listed a w:=by
 have hM:M≤ops.size:=by unfold tailB at ht;simp only [Bool.and_eq_true,decide_eq_true_eq] at ht;exact ht.1
 have hfin:∀ (fuel:Nat) (listed:Array Bool) (a:Act) (w:World) (vs:Nat→Value),listed.size=ops.size→ops.size≤fuel + (listed.toList.filter id).length→(∀ j,j < M→listed.getD j false=true)→Inv a0 ops M w0 R G F (fun j=>listed.getD j false) a w vs→wpAny P .any ops Q fuel listed a w:=by
  intro fuel listed a w vs hsz hfu hl hI;have hfi:Firsts ops M listed:=⟨hsz,fun j hj=>by
   cases hc:listed.getD j false with
   | true=>have:=hI.below j hc;simp [this]
   | false=>
     by_cases h:j < M
     ·rw [hl j h] at hc;cases hc
     ·simp [h]⟩
  have hcnt:(listed.toList.filter id).length≤M:=by
   have e1:listed.toList=listed.toList.take M ++ listed.toList.drop M:=(List.take_append_drop _ _).symm;have e2:(listed.toList.drop M).filter id=[]:=by
    refine List.filter_eq_nil_iff.2 fun x hx=>?_
    obtain ⟨j,hj,e⟩:=List.mem_iff_getElem.1 hx;simp at hj;have h1:=hfi.2 (M + j) (by omega);have h2:M + j < listed.size:=by omega
    simp [h2] at h1;simp at e;rw [← e,h1];simp
   rw [e1,List.filter_append,e2,List.append_nil];refine Nat.le_trans cnt_le (by simp;omega)
  rw [hI.all hM hok hl];exact any_tail ht (ops.toList.drop M) M fuel listed _ w (Nat.le_refl _) rfl (by simp;omega) hfi (hend vs w hI.rel hI.glob fun j hj=>hI.fact j (hl j hj))
 intro fuel
 induction fuel with
 | zero=>
   intro listed a w vs hsz hfu hI;refine hfin 0 listed a w vs hsz hfu (fun j hj=>?_) hI;have h1:(listed.toList.filter id).length=listed.toList.length:=by
    have:=cnt_le (l:=listed.toList);have h2:listed.toList.length=ops.size:=by simpa using hsz
    omega
   have h2:=List.length_filter_eq_length_iff.1 h1;have h6:j < listed.size:=by omega
   have h7:=h2 listed[j] (by simp);simp [h6];simpa using h7
 | succ fuel ih=>
   intro listed a w vs hsz hfu hI;by_cases hall:∀ j,j < M→listed.getD j false=true
   ·exact hfin _ listed a w vs hsz hfu hall hI
   have hex:∃ i,i ∈ Region.ready .any ops listed:=by
    refine Classical.byContradiction fun hno=>hall ?_
    have hno':Region.ready .any ops listed=[]:=List.eq_nil_iff_forall_not_mem.2 fun j hj=>hno ⟨j,hj⟩
    have:∀ n j,j < n→j < M→listed.getD j false=true:=by
     intro n
     induction n with
     | zero=>intro j h;omega
     | succ n ihn=>
       intro j hj hjM;cases hc:listed.getD j false with
       | true=>rfl
       | false=>
         exfalso
         have hjs:j < ops.size:=by omega
         have hoj:ops[j]?=some ops[j]:=Array.getElem?_eq_getElem hjs;have hm:j ∈ Region.ready .any ops listed:=by
          refine mem_ready.2 ⟨?_,ops[j],hoj,fun e he hb=>?_⟩
          ·have:j < listed.size:=by omega
           simp [this] at hc ⊢;exact hc
          ·have hd:e.on ∈ deps ops j:=by
            simp only [deps,hoj,Option.map_some,Option.getD_some,depsOf];exact List.mem_map.2 ⟨e,List.mem_filter.2 ⟨by simpa using he,hb⟩,rfl⟩
           have hlt:=(looks hok hjM hoj).before _ hd;exact ihn e.on (by omega) (by omega)
         rw [hno'] at hm;cases hm
    exact fun j hj=>this (j + 1) j (by omega) hj
   refine ⟨fun hr=>?_,fun i hi=>?_⟩
   ·obtain ⟨i,hi⟩:=hex
    rw [hr] at hi;cases hi
   obtain ⟨h3,o,h4,h5⟩:=mem_ready.1 hi;have h6:i < listed.size:=by have:=(Array.getElem?_eq_some_iff.1 h4).1;omega
   have hun:listed.getD i false=false:=by simp [h6] at h3 ⊢;exact h3
   have hdep:∀ j ∈ deps ops i,listed.getD j false=true:=fun j hj=>by
    simp only [deps,h4,Option.map_some,Option.getD_some,depsOf] at hj;obtain ⟨e,he,rfl⟩:=List.mem_map.1 hj;obtain ⟨he1,he2⟩:=List.mem_filter.1 he;exact h5 e (by simpa using he1) he2
   have hiM:i < M:=by
    refine Nat.lt_of_not_le fun hMi=>hall fun j hj=>?_
    unfold tailB at ht;simp only [Bool.and_eq_true,decide_eq_true_eq,List.all_eq_true] at ht;have:=ht.2 i (List.mem_range.2 (by omega));simp at this;rcases this with h | h
    ·omega
    ·exact hdep j (h.1 j (by omega))
   refine hI.step hRr hRt hF hok hiM h4 hun hdep (hs i o hiM h4) fun a' w' vs' hI'=>ih _ a' w' vs' (by simpa using hsz) ?_ ?_
   ·have:((listed.setIfInBounds i true).toList.filter id).length=(listed.toList.filter id).length + 1:=by
     have hg:listed.toList[i]'(by simpa using h6)=false:=by
      simp [h6] at hun;simpa using hun
     rw [Array.toList_setIfInBounds];have e1:listed.toList=listed.toList.take i ++ false :: listed.toList.drop (i + 1):=by
      conv=>lhs;rw [← List.take_append_drop i listed.toList]
      rw [List.drop_eq_getElem_cons (by simpa using h6),hg]
     have e2:listed.toList.set i true=listed.toList.take i ++ true :: listed.toList.drop (i + 1):=by
      rw [List.set_eq_take_append_cons_drop,if_pos (by simpa using h6)]
     rw [e2]
     conv=>rhs;rw [e1]
     simp [List.filter_append];omega
    omega
   ·have hl:(fun j=>(listed.setIfInBounds i true).getD j false)=fun j=>listed.getD j false || j==i:=by
     funext j
     by_cases hji:j=i
     ·subst hji;simp [h6]
     ·have hij:i≠j:=fun e=>hji e.symm
      rw [getD_set_ne _ hij];simp [hji]
    rw [hl];exact hI'
theorem wpOps_list (l:List Oper):∀ k,ops.toList.drop k=l→k≤ops.size→∀ a w,wpOps P ops Q (List.range' k (ops.size - k)) a w=wpList P ops Q l a w:=by
 intro k hl hk a w;have h:=wpOps_eq_wpList (P:=P) (ops:=ops) (Q:=Q) l k (fun j=>by subst hl;simp);have hlen:l.length=ops.size - k:=by subst hl;simp
 rw [← hlen,h]
theorem region {M:Nat} {id:Nat} {b:Bool} {w:World} (hm:P.follows .mixedOrders=true) (R:World→World→Prop) (hRr:∀ w,R w w) (hRt:∀ u v w,R u v→R v w→R u w) (hRd:∀ w:World,R w w.drew) (G:World→Prop) (F:Nat→Value→World→Prop) (hF:∀ j v w w',R w w'→F j v w→F j v w')
 (hok:okB ops M a0.tmps.size=true) (ht:(if b then tailB ops M else decide (M≤ops.size))=true) (hGd:G w→G w.drew) (hG:G w) (hs:∀ i o,i < M→ops[i]?=some o→StepOk P a0 ops w R G F i o)
 (hend:∀ vs w',R w w'→G w'→(∀ j,j < M→F j (vs j) w')→wpList P ops Q (ops.toList.drop M) (putAll ops M vs a0) w'):(Code.region id ops b).wp P Q a0 w:=by
 cases b with
 | true=>
   have ht:tailB ops M=true:=ht;refine wp_region_any hm (any_inv hRr hRt hF hok ht hs hend ops.size _ a0 w.drew (fun _=>undef) (by simp) (by omega) ?_);have hl:(fun j=>(Array.replicate ops.size false).getD j false)=fun _=>false:=by
    funext j
    rcases Nat.lt_or_ge j ops.size with h | h
    ·simp [h]
    ·have h':¬ j < ops.size:=by omega
     simp [Array.getElem?_replicate,h']
   rw [hl];exact Inv.start (hRd w) (hGd hG)
 | false=>
   have hM:M≤ops.size:=by simpa using ht
   refine wp_region ?_;have hall:∀ n k (a:Act) (w':World) (vs:Nat→Value),k + n=M→Inv a0 ops M w R G F (fun j=>decide (j < k)) a w' vs→wpOps P ops Q (List.range' k (ops.size - k)) a w':=by
    intro n
    induction n with
    | zero=>
      intro k a w' vs hk hI;obtain rfl:k=M:=by omega
      rw [hI.all hM hok (fun j hj=>by simpa using hj),wpOps_list _ k rfl hM];exact hend vs w' hI.rel hI.glob fun j hj=>hI.fact j (by simpa using hj)
    | succ n ih=>
      intro k a w' vs hk hI;have hks:k < ops.size:=by omega
      have hok':ops[k]?=some ops[k]:=Array.getElem?_eq_getElem hks;have hL:=looks hok (show k < M by omega) hok';have e:ops.size - k=(ops.size - (k + 1)) + 1:=by omega
      rw [e,List.range'_succ,wpOps_cons];refine hI.step hRr hRt hF hok (show k < M by omega) hok' (by simp) (fun j hj=>by simpa using hL.before j hj) (hs k _ (by omega) hok') fun a' w'' vs' hI'=>ih (k + 1) a' w'' vs' (by omega) ?_
      have hl:(fun j=>decide (j < k) || j==k)=fun j=>decide (j < k + 1):=by
       funext j
       rcases Nat.lt_trichotomy j k with h | h | h
       ·simp [h];omega
       ·subst h;simp
       ·have h1:¬ j < k:=by omega
        have h2:j≠k:=by omega
        have h3:¬ j < k + 1:=by omega
        simp [h1,h2,h3]
      rw [hl] at hI';exact hI'
   have:=hall M 0 a0 w (fun _=>undef) (by omega) (by
    have hl:(fun j=>decide (j < 0))=fun _=>false:=by funext j;simp
    rw [hl];exact Inv.start (hRr w) hG)
   rw [List.range_eq_range'];exact this
def Steps (P:Program) (a0:Act) (ops:Array Oper) (w0:World) (R:World→World→Prop) (G:World→Prop) (F:Nat→Value→World→Prop):Nat→List Oper→Prop
 | _,[]=>True
 | k,o :: r=>StepOk P a0 ops w0 R G F k o∧Steps P a0 ops w0 R G F (k + 1) r
theorem Steps.get {R:World→World→Prop} {G:World→Prop} {F:Nat→Value→World→Prop}:∀ (l:List Oper) (k:Nat),Steps P a0 ops w0 R G F k l→∀ j o,l[j]?=some o→StepOk P a0 ops w0 R G F (k + j) o
 | [],_,_,j,o,h=>by simp at h
 | x :: r,k,hs,j,o,h=>by
   cases j with
   | zero=>simp at h;subst h;exact hs.1
   | succ j=>
     have:=Steps.get r (k + 1) hs.2 j o (by simpa using h);have e:k + 1 + j=k + (j + 1):=by omega
     rw [e] at this;exact this
end
theorem Does.value {P:Program} {o:Oper} {ρ:Operand→Value} {w w':World} {v:Value} {K:Value→World→Prop} (h:(execOp ρ o).run P w=.ok (.value v) w') (hk:K v w'):Does P o ρ w K:=⟨by unfold doesIn;rw [h];exact hk⟩
theorem Does.move {P:Program} {o:Oper} {ρ:Operand→Value} {w:World} {K:Value→World→Prop} (x:Operand) (ho:o.op=.move x) (hk:K (ρ x) w):Does P o ρ w K:=Does.value (w':=w) (by simp [execOp,ho]) hk
theorem Does.assign {P:Program} {o:Oper} {ρ:Operand→Value} {w:World} {K:Value→World→Prop} (x:Operand) (ho:o.op=.assign x) (hk:K (ρ x) w):Does P o ρ w K:=Does.value (w':=w) (by simp [execOp,ho]) hk
theorem Does.call {P:Program} {o:Oper} {ρ:Operand→Value} {w:World} {K:Value→World→Prop} (f:FuncId) (fo:Operand) (args:Array Operand) (ts:Array TypeId) (ho:o.op=.call { callee:=.value fo,args:=args,argTypes:=ts }) (hf:ρ fo=.func (.func f) #[] #[]) {vals:Array Value} (hv:args.map ρ=vals)
 (hcf:∀ w,(callFunc f vals).run P w=.ok (.enter f vals) w) (h:Calls P f vals w fun e w'=>∃ v,e=.returned v∧K v w'):Does P o ρ w K:=by
 have hr:(execOp ρ o).run P w=.ok (.enter f vals) w:=by
  simp only [execOp,ho,resolve,hf,hv,Deferred.ofValue,Sem.run_bind,Sem.run_pure,Result.andThen_ok,invoke];have:=hcf w;simpa using this
 refine ⟨?_⟩;unfold doesIn;rw [hr];refine h.mono fun e w' ⟨v,he,hk⟩=>?_
 subst he;exact hk
end Rg
namespace Rg
def clo (ops:Array Oper):Nat→List Nat→List Nat
 | 0,l=>l
 | n + 1,l=>clo ops n (l ++ l.flatMap (deps ops)).eraseDups
def waits (ops:Array Oper) (i:Nat):List Nat:=clo ops 6 (deps ops i)
theorem clo_sub {ops:Array Oper} {S:Nat→Prop} (hS:∀ j,S j→∀ d ∈ deps ops j,S d):∀ (n:Nat) (l:List Nat),(∀ j ∈ l,S j)→∀ j ∈ clo ops n l,S j
 | 0,l,h,j,hj=>h j hj
 | n + 1,l,h,j,hj=>by
   refine clo_sub hS n _ (fun k hk=>?_) j hj;rw [List.mem_eraseDups,List.mem_append,List.mem_flatMap] at hk;rcases hk with hk | ⟨d,hd,hk⟩
   ·exact h k hk
   ·exact hS d (h d hd) k hk
def tailL (ops:Array Oper) (M:Nat) (L:List Nat):Bool:=
 decide (M≤ops.size) && Region.noSelect ops &&
 ((List.range ops.size).all fun i=>decide (i < M) || ((List.range i).all fun j=>(waits ops i).contains j || L.contains j) && (deps ops i).all fun j=>decide (j < i)) &&
 L.all fun i=>decide (i < M) && match ops[i]? with
  | none=>false
  | some oi=>oi.guard.isNone && (List.range ops.size).all fun j=>j==i || (deps ops i).contains j || match ops[j]? with
    | none=>true
    | some oj=>(deps ops j).contains i || oi.apart ops oj
section
variable {P:Program} {ops:Array Oper} {Q:Exit→Act→World→Prop} {a0:Act} {w0:World}
def LateOk (P:Program) (a0:Act) (ops:Array Oper) (w0:World) (R:World→World→Prop) (G:World→Prop) (F:Nat→Value→World→Prop) (i:Nat) (o:Oper):Prop:=
 ∀ (vs:Nat→Value) (w:World),R w0 w→G w→(∀ j ∈ deps ops i,F j (vs j) w)→∃ v,(∀ W,(execOp (rho a0 ops i vs) o).run P W=.ok (.value v) W)∧F i v w
theorem Inv.eval {M:Nat} {R:World→World→Prop} {G:World→Prop} {F:Nat→Value→World→Prop} (hok:okB ops M a0.tmps.size=true) {listed:Nat→Bool} {a:Act} {w:World} {vs:Nat→Value} (h:Inv a0 ops M w0 R G F listed a w vs) {i:Nat} {o:Oper} (hiM:i < M) (hi:ops[i]?=some o) (hun:listed i=false) (hready:∀ j ∈ deps ops i,listed j=true):
 execOp a.eval o=execOp (rho a0 ops i vs) o:=by
 have L:=looks hok hiM hi;refine execOp_congr o L.sel fun x hx=>?_
 cases x with
 | tmp d=>
   unfold rho;cases hf:(deps ops i).find? (fun j=>dstOf ops j==some d) with
   | some j=>
     have hj:=List.mem_of_find?_eq_some hf;have hd:=List.find?_some hf;simp only [beq_iff_eq] at hd;simp only [Act.eval,Array.getD_eq_getD_getElem?,h.new j d (hready j hj) hd,Option.getD_some];rw [hf]
   | none=>
     have ho:a.tmps[d]?=a0.tmps[d]?:=h.old d fun j hj hjd=>by
      have hji:j≠i:=fun e=>by subst e;rw [hj] at hun;cases hun
      have hrd:reads o d=true:=by
       unfold reads;rw [Array.any_eq_true];obtain ⟨k,hk,e⟩:=Array.mem_iff_getElem.1 hx;exact ⟨k,hk,by rw [e];simp⟩
      rcases L.read j d (h.below j hj) hjd with e | e | e | e
      ·exact hji e
      ·rw [hrd] at e;cases e
      ·have:=List.find?_eq_none.1 hf j e
       simp [hjd] at this
      ·have:=h.closed j hj i e
       rw [hun] at this;cases this
     simp only [Act.eval,Array.getD_eq_getD_getElem?,ho];rw [hf]
 | _=>rfl
theorem Inv.put {M:Nat} {R:World→World→Prop} (hRt:∀ u v w,R u v→R v w→R u w) {G:World→Prop} {F:Nat→Value→World→Prop} (hF:∀ j v w w',R w w'→F j v w→F j v w')
 (hok:okB ops M a0.tmps.size=true) {listed:Nat→Bool} {a:Act} {w:World} {vs:Nat→Value} (h:Inv a0 ops M w0 R G F listed a w vs) {i:Nat} {o:Oper} (hiM:i < M) (hi:ops[i]?=some o) (hready:∀ j ∈ deps ops i,listed j=true)
 (v:Value) (w':World) (hR:R w w') (hG:G w') (hFi:F i v w'):Inv a0 ops M w0 R G F (fun j=>listed j || j==i) (a.put o.dst v) w' (fun j=>if j=i then v else vs j):=by
 have L:=looks hok hiM hi;have hio:dstOf ops i=o.dst:=by simp [dstOf,hi]
 refine ⟨?_,?_,?_,?_,?_,?_,hRt _ _ _ h.rel hR,hG,?_⟩
 ·cases hd:o.dst <;> simp [Act.put,h.defers]
 ·cases hd:o.dst <;> simp [Act.put,h.size]
 ·intro j d hj hjd
  by_cases hji:j=i
  ·subst hji
   rw [hio] at hjd;have:=L.lt d hjd;simp [Act.put,hjd,h.size,this]
  ·have hl:listed j=true:=by simpa [hji] using hj
   have hne:o.dst≠some d:=(L.one j d (h.below j hl) hjd).resolve_left hji;rw [if_neg hji];cases hd:o.dst with
   | none=>simpa [Act.put] using h.new j d hl hjd
   | some d'=>
     have:d'≠d:=fun e=>hne (by rw [hd,e])
     simp [Act.put,Array.getElem?_setIfInBounds_ne this,h.new j d hl hjd]
 ·intro d hd
  have h1:=h.old d fun j hj=>hd j (by simp [hj])
  cases hdd:o.dst with
  | none=>simpa [Act.put] using h1
  | some d'=>
    have:d'≠d:=fun e=>hd i (by simp) (by rw [hio,hdd,e])
    simp [Act.put,Array.getElem?_setIfInBounds_ne this,h1]
 ·intro j hj k hk
  by_cases hji:j=i
  ·subst hji;simp [hready k hk]
  ·have hl:listed j=true:=by simpa [hji] using hj
   simp [h.closed j hl k hk]
 ·intro j hj
  by_cases hji:j=i
  ·subst hji;exact hiM
  ·exact h.below j (by simpa [hji] using hj)
 ·intro j hj
  by_cases hji:j=i
  ·subst hji;simpa using hFi
  ·have hl:listed j=true:=by simpa [hji] using hj
   rw [if_neg hji];exact hF _ _ _ _ hR (h.fact j hl)
structure LateLooks (ops:Array Oper) (M:Nat) (L:List Nat):Prop where
 size:M≤ops.size
 sel:Region.noSelect ops=true
 wait:∀ i,M≤i→i < ops.size→(∀ j,j < i→j ∈ waits ops i∨j ∈ L)∧∀ j ∈ deps ops i,j < i
 low:∀ i ∈ L,i < M∧∃ o,ops[i]?=some o∧o.guard=none∧∀ j oj,ops[j]?=some oj→j=i∨j ∈ deps ops i∨i ∈ deps ops j∨o.apart ops oj=true
theorem lateLooks {M:Nat} {L:List Nat} (h:tailL ops M L=true):LateLooks ops M L:=by
 unfold tailL at h;simp only [Bool.and_eq_true,decide_eq_true_eq,List.all_eq_true] at h;obtain ⟨⟨⟨h1,h2⟩,h3⟩,h4⟩:=h;refine ⟨h1,h2,fun i hM hi=>?_,fun i hi=>?_⟩
 ·have:=h3 i (List.mem_range.2 hi)
  simp at this;rcases this with h | h
  ·omega
  ·exact ⟨fun j hj=>h.1 j hj,h.2⟩
 ·obtain ⟨h5,h6⟩:=h4 i hi
  refine ⟨h5,?_⟩;cases ho:ops[i]? with
  | none=>rw [ho] at h6;simp at h6
  | some o=>
    rw [ho] at h6;simp only [Bool.and_eq_true,List.all_eq_true,Option.isNone_iff_eq_none] at h6;refine ⟨o,rfl,h6.1,fun j oj hj=>?_⟩;have:=h6.2 j (List.mem_range.2 (Array.getElem?_eq_some_iff.1 hj).1);rw [hj] at this;simp only [Bool.or_eq_true,beq_iff_eq,List.contains_iff_mem] at this;rcases this with (h | h) | h | h
    ·exact .inl h
    ·exact .inr (.inl h)
    ·exact .inr (.inr (.inl h))
    ·exact .inr (.inr (.inr h))
theorem any_tailL {M:Nat} (ht:∀ i,M≤i→i < ops.size→(∀ j,M≤j→j < i→j ∈ waits ops i)∧∀ j ∈ deps ops i,j < i) (hlow:∀ j,j < M→∀ d ∈ deps ops j,d < j):∀ (l:List Oper) (k fuel:Nat) (listed:Array Bool) (a:Act) (w:World),M≤k→ops.toList.drop k=l→l.length≤fuel→Firsts ops k listed→wpList P ops Q l a w→wpAny P .any ops Q fuel listed a w:=by
 intro l
 induction l with
 | nil=>
   intro k fuel listed a w hk hl hf hfi h;have hks:ops.size≤k:=by
    have:=congrArg List.length hl;simp at this;omega
   have hr:Region.ready .any ops listed=[]:=by
    refine List.eq_nil_iff_forall_not_mem.2 fun j hj=>?_
    obtain ⟨h3,o,h4,_⟩:=mem_ready.1 hj;have h5:j < ops.size:=(Array.getElem?_eq_some_iff.1 h4).1;have h6:=hfi.2 j h5;have h7:j < listed.size:=by rw [hfi.1];exact h5
    simp [h7] at h3 h6;rw [h3] at h6;simp at h6;omega
   cases fuel with
   | zero=>exact ⟨hr,h⟩
   | succ n=>exact ⟨fun _=>h,fun i hi=>by rw [hr] at hi;cases hi⟩
 | cons o r ih=>
   intro k fuel listed a w hk hl hf hfi h;have hks:k < ops.size:=by
    have:=congrArg List.length hl;simp at this;omega
   have hok:ops[k]?=some o:=by
    have:=congrArg (fun l=>l[0]?) hl;simpa using this
   have hr:∀ i ∈ Region.ready .any ops listed,i=k:=by
    intro i hi;obtain ⟨h3,oi,h4,h5⟩:=mem_ready.1 hi;have h6:i < ops.size:=(Array.getElem?_eq_some_iff.1 h4).1;have h7:i < listed.size:=by rw [hfi.1];exact h6
    have h8:=hfi.2 i h6;simp [h7] at h3 h8;rw [h3] at h8;have h9:k≤i:=by simpa using h8
    rcases Nat.lt_or_ge k i with h10 | h10
    ·exfalso
     have h11:=(ht i (by omega) h6).1 k hk h10;have hlt:∀ j,j < k→∀ d ∈ deps ops j,d < k:=fun j hj d hd=>by
      rcases Nat.lt_or_ge j M with h | h
      ·have:=hlow j h d hd;omega
      ·have:=(ht j h (by omega)).2 d hd;omega
     have h12:=clo_sub (S:=fun j=>j < k) hlt 6 (deps ops i) (fun j hj=>by
      simp only [deps,h4,Option.map_some,Option.getD_some,depsOf] at hj;obtain ⟨e,he,h12⟩:=List.mem_map.1 hj;obtain ⟨he1,he2⟩:=List.mem_filter.1 he;have h13:=h5 e (by simpa using he1) he2;have h14:e.on < ops.size:=by
       rcases Nat.lt_or_ge e.on ops.size with h | h
       ·exact h
       ·rw [h12] at h
        have:=(ht i (by omega) h6).2 j (by simp only [deps,h4,Option.map_some,Option.getD_some,depsOf];exact hj);omega
      rw [hfi.2 e.on h14] at h13;rw [← h12];simpa using h13) k h11
     exact absurd h12 (Nat.lt_irrefl k)
    ·omega
   cases fuel with
   | zero=>simp at hf
   | succ n=>
     refine ⟨fun h0=>?_,fun i hi=>?_⟩
     ·exfalso
      have hd:∀ j ∈ deps ops k,j < k:=(ht k hk hks).2;have:k ∈ Region.ready .any ops listed:=by
       refine mem_ready.2 ⟨?_,o,hok,fun e he hb=>?_⟩
       ·have h7:k < listed.size:=by rw [hfi.1];exact hks
        have h8:=hfi.2 k hks;simp [h7] at h8 ⊢;exact h8
       ·have h11:e.on ∈ deps ops k:=by
         simp only [deps,hok,Option.map_some,Option.getD_some,depsOf];exact List.mem_map.2 ⟨e,List.mem_filter.2 ⟨by simpa using he,hb⟩,rfl⟩
        have h12:=hd _ h11;rw [hfi.2 e.on (by omega)];simpa using h12
      rw [h0] at this;cases this
     ·obtain rfl:=hr i hi
      have h1:wpOp P ops Q i (wpList P ops Q r) a w:=by
       unfold wpOp;simp only [hok];exact h
      refine wpOp_mono (fun a' w' h'=>ih (i + 1) n _ a' w' (by omega) ?_ (by simp at hf;omega) hfi.succ h') h1;rw [← List.tail_drop,hl];rfl
theorem cnt_set {listed:Array Bool} {i:Nat} (h6:i < listed.size) (hun:listed.getD i false=false):((listed.setIfInBounds i true).toList.filter id).length=(listed.toList.filter id).length + 1:=by
 have hg:listed.toList[i]'(by simpa using h6)=false:=by
  simp [h6] at hun;simpa using hun
 rw [Array.toList_setIfInBounds];have e1:listed.toList=listed.toList.take i ++ false :: listed.toList.drop (i + 1):=by
  conv=>lhs;rw [← List.take_append_drop i listed.toList]
  rw [List.drop_eq_getElem_cons (by simpa using h6),hg]
 have e2:listed.toList.set i true=listed.toList.take i ++ true :: listed.toList.drop (i + 1):=by
  rw [List.set_eq_take_append_cons_drop,if_pos (by simpa using h6)]
 rw [e2]
 conv=>rhs;rw [e1]
 simp [List.filter_append];omega
theorem listed_set {listed:Array Bool} {i:Nat} (h6:i < listed.size):(fun j=>(listed.setIfInBounds i true).getD j false)=fun j=>listed.getD j false || j==i:=by
 funext j
 by_cases hji:j=i
 ·subst hji;simp [h6]
 ·have hij:i≠j:=fun e=>hji e.symm
  rw [getD_set_ne _ hij];simp [hji]
structure InvJ (a0:Act) (ops:Array Oper) (M:Nat) (w0:World) (R:World→World→Prop) (G:World→Prop) (F:Nat→Value→World→Prop) (x y:Nat) (D:Value→Value→World→Prop) (P:Program) (L:List Nat) (listed:Nat→Bool) (a:Act) (w:World) (vs:Nat→Value):Prop where
 inv:Inv a0 ops M w0 R G F listed a w vs
 exact:∀ i o,i ∈ L→listed i=true→ops[i]?=some o→∀ W,(execOp (rho a0 ops i vs) o).run P W=.ok (.value (vs i)) W
 pair:listed x=true→listed y=true→D (vs x) (vs y) w
def PairX (F:Nat→Value→World→Prop) (x y:Nat) (D:Value→Value→World→Prop) (i:Nat) (v:Value) (w w':World):Prop:=(i=x→∀ u,F y u w→D v u w')∧(i=y→∀ u,F x u w→D u v w')
def StepX (P:Program) (a0:Act) (ops:Array Oper) (w0:World) (R:World→World→Prop) (G:World→Prop) (F:Nat→Value→World→Prop) (x y:Nat) (D:Value→Value→World→Prop) (i:Nat) (o:Oper):Prop:=
 ∀ (vs:Nat→Value) (w:World),R w0 w→G w→(∀ j ∈ deps ops i,F j (vs j) w)→
  match o.guard with
  | none=>Does P o (rho a0 ops i vs) w fun v w'=>(R w w'∧G w'∧F i v w')∧PairX F x y D i v w w'
  | some (g,b)=>(vs g=.bool b→Does P o (rho a0 ops i vs) w fun v w'=>(R w w'∧G w'∧F i v w')∧PairX F x y D i v w w')∧(vs g≠.bool b→F i undef w∧PairX F x y D i undef w w)
theorem StepOk.pair {R:World→World→Prop} {G:World→Prop} {F:Nat→Value→World→Prop} {x y:Nat} {D:Value→Value→World→Prop} {i:Nat} {o:Oper} (hx:i≠x) (hy:i≠y) (h:StepOk P a0 ops w0 R G F i o):StepX P a0 ops w0 R G F x y D i o:=by
 intro vs w h1 h2 h3;have h4:=h vs w h1 h2 h3;have hp:∀ v w w',PairX F x y D i v w w':=fun v w w'=>⟨fun e=>absurd e hx,fun e=>absurd e hy⟩
 cases hg:o.guard with
 | none=>rw [hg] at h4;exact h4.mono fun v w' hk=>⟨hk,hp _ _ _⟩
 | some gb=>
   obtain ⟨g,b⟩:=gb;rw [hg] at h4;exact ⟨fun e=>(h4.1 e).mono fun v w' hk=>⟨hk,hp _ _ _⟩,fun e=>⟨h4.2 e,hp _ _ _⟩⟩
theorem rho_put {i j:Nat} {vs:Nat→Value} {v:Value} (h:i ∉ deps ops j):rho a0 ops j (fun k=>if k=i then v else vs k)=rho a0 ops j vs:=by
 funext x
 cases x with
 | tmp d=>
   unfold rho;cases hf:(deps ops j).find? (fun j=>dstOf ops j==some d) with
   | some k=>
     have hk:=List.mem_of_find?_eq_some hf;have:k≠i:=fun e=>h (e ▸ hk)
     simp [hf,this]
   | none=>simp [hf]
 | _=>rfl
theorem InvJ.put {M:Nat} {L:List Nat} {R:World→World→Prop} (hRt:∀ u v w,R u v→R v w→R u w) {G:World→Prop} {F:Nat→Value→World→Prop} (hF:∀ j v w w',R w w'→F j v w→F j v w') {x y:Nat} {D:Value→Value→World→Prop} (hxy:x=y→M≤x) (hD:∀ u v w w',R w w'→D u v w→D u v w')
 (hok:okB ops M a0.tmps.size=true) {listed:Nat→Bool} {a:Act} {w:World} {vs:Nat→Value} (h:InvJ a0 ops M w0 R G F x y D P L listed a w vs) {i:Nat} {o:Oper} (hiM:i < M) (hi:ops[i]?=some o) (hun:listed i=false) (hready:∀ j ∈ deps ops i,listed j=true)
 (v:Value) (w':World) (hR:R w w') (hG:G w') (hFi:F i v w') (hX:PairX F x y D i v w w') (hE:i ∈ L→∀ W,(execOp (rho a0 ops i vs) o).run P W=.ok (.value v) W):InvJ a0 ops M w0 R G F x y D P L (fun j=>listed j || j==i) (a.put o.dst v) w' (fun j=>if j=i then v else vs j):=by
 refine ⟨h.inv.put hRt hF hok hiM hi hready v w' hR hG hFi,fun j oj hj hlj hoj W=>?_,fun h1 h2=>?_⟩
 ·by_cases hji:j=i
  ·subst hji
   have:oj=o:=by rw [hi] at hoj;exact (Option.some.inj hoj).symm
   subst this;rw [rho_put (fun hd=>by have:=(looks hok hiM hi).before _ hd;omega),if_pos rfl];exact hE hj W
  ·have hl:listed j=true:=by simpa [hji] using hlj
   rw [rho_put (fun hd=>by have:=h.inv.closed j hl i hd;rw [hun] at this;cases this),if_neg hji];exact h.exact j oj hj hl hoj W
 by_cases hx:x=i
 ·by_cases hy:y=i
  ·exact absurd (hxy (hx.trans hy.symm)) (by omega)
  ·have hl:listed y=true:=by simpa [hy] using h2
   rw [if_pos hx,if_neg hy];exact hX.1 hx.symm _ (h.inv.fact y hl)
 ·have hl:listed x=true:=by simpa [hx] using h1
  by_cases hy:y=i
  ·rw [if_neg hx,if_pos hy]
   exact hX.2 hy.symm _ (h.inv.fact x hl)
  ·have hl2:listed y=true:=by simpa [hy] using h2
   rw [if_neg hx,if_neg hy];exact hD _ _ _ _ hR (h.pair hl hl2)
theorem InvJ.step {M:Nat} {L:List Nat} {R:World→World→Prop} (hRr:∀ w,R w w) (hRt:∀ u v w,R u v→R v w→R u w) {G:World→Prop} {F:Nat→Value→World→Prop} (hF:∀ j v w w',R w w'→F j v w→F j v w') {x y:Nat} {D:Value→Value→World→Prop} (hxy:x=y→M≤x) (hD:∀ u v w w',R w w'→D u v w→D u v w')
 (hok:okB ops M a0.tmps.size=true) {listed:Nat→Bool} {a:Act} {w:World} {vs:Nat→Value} (h:InvJ a0 ops M w0 R G F x y D P L listed a w vs) {i:Nat} {o:Oper} (hiM:i < M) (hi:ops[i]?=some o) (hun:listed i=false) (hready:∀ j ∈ deps ops i,listed j=true) (hiL:i ∉ L)
 (hs:StepX P a0 ops w0 R G F x y D i o) {next:Act→World→Prop} (hn:∀ a' w' vs',InvJ a0 ops M w0 R G F x y D P L (fun j=>listed j || j==i) a' w' vs'→next a' w'):wpOp P ops Q i next a w:=by
 have LK:=looks hok hiM hi;have hev:=h.inv.eval hok hiM hi hun hready;have hput:∀ v w',R w w'→G w'→F i v w'→PairX F x y D i v w w'→InvJ a0 ops M w0 R G F x y D P L (fun j=>listed j || j==i) (a.put o.dst v) w' (fun j=>if j=i then v else vs j):=fun v w' hR hG hFi hX=>h.put hRt hF hxy hD hok hiM hi hun hready v w' hR hG hFi hX (fun e=>absurd e hiL)
 have hs':=hs vs w h.inv.rel h.inv.glob (fun j hj=>h.inv.fact j (hready j hj));unfold wpOp;simp only [hi];cases hg:o.guard with
 | none=>
   rw [hg] at hs';rw [if_pos (by simp [Region.wanted,hg])];exact .inl (hs'.wp hev fun v w' hK=>hn _ _ _ (hput v w' hK.1.1 hK.1.2.1 hK.1.2.2 hK.2))
 | some gb=>
   obtain ⟨g,b⟩:=gb;rw [hg] at hs';obtain ⟨hgd,hgs⟩:=LK.guard g b hg;obtain ⟨d,hd⟩:=Option.isSome_iff_exists.1 hgs;have ht:=h.inv.new g d (hready g hgd) hd;have hy:yielded ops a.tmps g=match vs g with | .bool b=>some b | _=>none:=by
    unfold yielded;rw [show (ops[g]?).bind (·.dst)=some d from hd];simp only [Option.bind_some,ht];cases vs g <;> rfl
   by_cases hw:vs g=.bool b
   ·rw [if_pos (by simp [Region.wanted,hg,hy,hw])]
    exact .inl ((hs'.1 hw).wp hev fun v w' hK=>hn _ _ _ (hput v w' hK.1.1 hK.1.2.1 hK.1.2.2 hK.2))
   ·rw [if_neg (by
     simp only [Region.wanted,hg,hy];cases hv:vs g <;> simp
     rename_i b'
     intro e;exact hw (by rw [hv,e]))]
    exact hn _ _ _ (hput undef w (hRr w) h.inv.glob (hs'.2 hw).1 (hs'.2 hw).2)
theorem any_invL {M:Nat} {L:List Nat} {R:World→World→Prop} (hRr:∀ w,R w w) (hRt:∀ u v w,R u v→R v w→R u w) {G:World→Prop} {F:Nat→Value→World→Prop} (hF:∀ j v w w',R w w'→F j v w→F j v w') {x y:Nat} {D:Value→Value→World→Prop} (hxy:x=y→M≤x) (hD:∀ u v w w',R w w'→D u v w→D u v w')
 (hok:okB ops M a0.tmps.size=true) (hl:LateLooks ops M L) (hQ:∀ c a o v w,Q (.panic c) (Act.put a o v) w→Q (.panic c) a w) (hs:∀ i o,i < M→i ∉ L→ops[i]?=some o→StepX P a0 ops w0 R G F x y D i o) (hs2:∀ i o,i ∈ L→ops[i]?=some o→LateOk P a0 ops w0 R G F i o) (hxL:x ∉ L) (hyL:y ∉ L)
 (hend:∀ vs w',R w0 w'→G w'→(∀ j,j < M→F j (vs j) w')→(x < M→y < M→D (vs x) (vs y) w')→(∀ i o,i ∈ L→ops[i]?=some o→∀ W,(execOp (rho a0 ops i vs) o).run P W=.ok (.value (vs i)) W)→wpList P ops Q (ops.toList.drop M) (putAll ops M vs a0) w'):
 ∀ (fuel:Nat) (listed:Array Bool) (a:Act) (w:World) (vs:Nat→Value),listed.size=ops.size→ops.size≤fuel + (listed.toList.filter id).length→InvJ a0 ops M w0 R G F x y D P L (fun j=>listed.getD j false) a w vs→wpAny P .any ops Q fuel listed a w:=by
 have hM:=hl.size;have hfin:∀ (fuel:Nat) (listed:Array Bool) (a:Act) (w:World) (vs:Nat→Value),listed.size=ops.size→ops.size≤fuel + (listed.toList.filter id).length→(∀ j,j < M→listed.getD j false=true)→InvJ a0 ops M w0 R G F x y D P L (fun j=>listed.getD j false) a w vs→wpAny P .any ops Q fuel listed a w:=by
  intro fuel listed a w vs hsz hfu hll hI;have hfi:Firsts ops M listed:=⟨hsz,fun j hj=>by
   cases hc:listed.getD j false with
   | true=>have:=hI.inv.below j hc;simp [this]
   | false=>
     by_cases h:j < M
     ·rw [hll j h] at hc;cases hc
     ·simp [h]⟩
  have hcnt:(listed.toList.filter id).length≤M:=by
   have e1:listed.toList=listed.toList.take M ++ listed.toList.drop M:=(List.take_append_drop _ _).symm;have e2:(listed.toList.drop M).filter id=[]:=by
    refine List.filter_eq_nil_iff.2 fun x hx=>?_
    obtain ⟨j,hj,e⟩:=List.mem_iff_getElem.1 hx;simp at hj;have h1:=hfi.2 (M + j) (by omega);have h2:M + j < listed.size:=by omega
    simp [h2] at h1;simp at e;rw [← e,h1];simp
   rw [e1,List.filter_append,e2,List.append_nil];refine Nat.le_trans cnt_le (by simp;omega)
  rw [hI.inv.all hM hok hll];refine any_tailL (fun i h1 h2=>⟨fun j hj hji=>?_,(hl.wait i h1 h2).2⟩) (fun j hj d hd=>(looks hok hj (Array.getElem?_eq_getElem (show j < ops.size by omega))).before d hd) (ops.toList.drop M) M fuel listed _ w (Nat.le_refl _) rfl (by simp;omega) hfi (hend vs w hI.inv.rel hI.inv.glob (fun j hj=>hI.inv.fact j (hll j hj)) (fun h1 h2=>hI.pair (hll x h1) (hll y h2)) (fun i o hi ho=>hI.exact i o hi (hll i (hl.low i hi).1) ho));rcases (hl.wait i h1 h2).1 j hji with h | h
  ·exact h
  ·have:=(hl.low j h).1;omega
 intro fuel
 induction fuel with
 | zero=>
   intro listed a w vs hsz hfu hI;refine hfin 0 listed a w vs hsz hfu (fun j hj=>?_) hI;have h1:(listed.toList.filter id).length=listed.toList.length:=by
    have:=cnt_le (l:=listed.toList);have h2:listed.toList.length=ops.size:=by simpa using hsz
    omega
   have h2:=List.length_filter_eq_length_iff.1 h1;have h6:j < listed.size:=by omega
   have h7:=h2 listed[j] (by simp);simp [h6];simpa using h7
 | succ fuel ih=>
   intro listed a w vs hsz hfu hI;have hmr:∀ j,j < ops.size→listed.getD j false=false→(∀ d ∈ deps ops j,listed.getD d false=true)→j ∈ Region.ready .any ops listed:=fun j hjs hc hd=>by
    have hoj:ops[j]?=some ops[j]:=Array.getElem?_eq_getElem hjs;refine mem_ready.2 ⟨?_,ops[j],hoj,fun e he hb=>?_⟩
    ·have:j < listed.size:=by omega
     simp [this] at hc ⊢;exact hc
    ·refine hd e.on ?_
     simp only [deps,hoj,Option.map_some,Option.getD_some,depsOf];exact List.mem_map.2 ⟨e,List.mem_filter.2 ⟨by simpa using he,hb⟩,rfl⟩
   by_cases hlate:∃ i,i ∈ L∧listed.getD i false=false∧∀ d ∈ deps ops i,listed.getD d false=true
   ·obtain ⟨i,hiL,hun,hdep⟩:=hlate
    obtain ⟨hiM,o,ho,hg,hap⟩:=hl.low i hiL;have h6:i < listed.size:=by omega
    obtain ⟨v,hv,hFv⟩:=hs2 i o hiL ho vs w hI.inv.rel hI.inv.glob fun j hj=>hI.inv.fact j (hdep j hj)
    have hev:=hI.inv.eval hok hiM ho hun hdep;refine wpAny_first ho (fun j oj cs b hj=>Region.noSelect_spec hl.sel j oj cs b hj) (v:=v) (fun c a w h=>hQ _ _ _ _ _ h) fuel listed a w (fun j oj hj hne hju hno=>?_) (hmr i (by omega) hun hdep) (.inl ⟨by simp [Region.wanted,hg],fun W=>by rw [hev];exact hv W⟩) ?_
    ·rcases hap j oj hj with h | h | h | h
     ·exact absurd h hne
     ·have h1:=hdep j h
      have h7:j < listed.size:=by have:=(Array.getElem?_eq_some_iff.1 hj).1;omega
      simp [h7] at h1 hju;rw [h1] at hju;cases hju
     ·exfalso
      simp only [deps,hj,Option.map_some,Option.getD_some,depsOf] at h;obtain ⟨e,he,rfl⟩:=List.mem_map.1 h;obtain ⟨he1,he2⟩:=List.mem_filter.1 he;exact hno e (by simpa using he1) he2 rfl
     ·exact h
    ·have hI':=hI.put hRt hF hxy hD hok hiM ho hun hdep v w (hRr w) hI.inv.glob hFv ⟨fun e=>absurd (e ▸ hiL) hxL,fun e=>absurd (e ▸ hiL) hyL⟩ (fun _=>hv)
     refine ih _ _ w (fun j=>if j=i then v else vs j) (by simpa using hsz) (by rw [cnt_set h6 hun];omega) ?_;rw [listed_set h6];exact hI'
   by_cases hall:∀ j,j < M→listed.getD j false=true
   ·exact hfin _ listed a w vs hsz hfu hall hI
   have hleast:∃ j,j < M∧listed.getD j false=false∧∀ d ∈ deps ops j,listed.getD d false=true:=by
    refine Classical.byContradiction fun hno=>hall ?_
    have:∀ n j,j < n→j < M→listed.getD j false=true:=by
     intro n
     induction n with
     | zero=>intro j h;omega
     | succ n ihn=>
       intro j hj hjM;cases hc:listed.getD j false with
       | true=>rfl
       | false=>
         exfalso
         have hjs:j < ops.size:=by omega
         have hoj:ops[j]?=some ops[j]:=Array.getElem?_eq_getElem hjs;exact hno ⟨j,hjM,hc,fun d hd=>by have hlt:=(looks hok hjM hoj).before _ hd;exact ihn d (by omega) (by omega)⟩
    exact fun j hj=>this (j + 1) j (by omega) hj
   obtain ⟨m,hmM,hmu,hmd⟩:=hleast;have hmL:m ∉ L:=fun h=>hlate ⟨m,h,hmu,hmd⟩
   refine ⟨fun hr=>?_,fun i hi=>?_⟩
   ·have:=hmr m (by omega) hmu hmd
    rw [hr] at this;cases this
   obtain ⟨h3,o,h4,h5⟩:=mem_ready.1 hi;have h6:i < listed.size:=by have:=(Array.getElem?_eq_some_iff.1 h4).1;omega
   have hun:listed.getD i false=false:=by simp [h6] at h3 ⊢;exact h3
   have hdep:∀ j ∈ deps ops i,listed.getD j false=true:=fun j hj=>by
    simp only [deps,h4,Option.map_some,Option.getD_some,depsOf] at hj;obtain ⟨e,he,rfl⟩:=List.mem_map.1 hj;obtain ⟨he1,he2⟩:=List.mem_filter.1 he;exact h5 e (by simpa using he1) he2
   have hiM:i < M:=by
    refine Nat.lt_of_not_le fun hMi=>?_
    rcases (hl.wait i hMi (by omega)).1 m (by omega) with h | h
    ·have hcl:=clo_sub (S:=fun j=>listed.getD j false=true) (fun j hj d hd=>hI.inv.closed j hj d hd) 6 (deps ops i) hdep m h
     rw [hcl] at hmu;cases hmu
    ·exact hmL h
   have hiL:i ∉ L:=fun h=>hlate ⟨i,h,hun,hdep⟩
   refine hI.step hRr hRt hF hxy hD hok hiM h4 hun hdep hiL (hs i o hiM hiL h4) fun a' w' vs' hI'=>ih _ a' w' vs' (by simpa using hsz) ?_ ?_
   ·rw [cnt_set h6 hun];omega
   ·rw [listed_set h6];exact hI'
theorem regionL {M:Nat} (L:List Nat) {id:Nat} {w:World} (hm:P.follows .mixedOrders=true) (R:World→World→Prop) (hRr:∀ w,R w w) (hRt:∀ u v w,R u v→R v w→R u w) (hRd:∀ w:World,R w w.drew) (G:World→Prop) (F:Nat→Value→World→Prop) (hF:∀ j v w w',R w w'→F j v w→F j v w') {x y:Nat} {D:Value→Value→World→Prop} (hxy:x=y→M≤x) (hD:∀ u v w w',R w w'→D u v w→D u v w')
 (hok:okB ops M a0.tmps.size=true) (ht:tailL ops M L=true) (hQ:∀ c a o v w,Q (.panic c) (Act.put a o v) w→Q (.panic c) a w) (hGd:G w→G w.drew) (hG:G w) (hs:∀ i o,i < M→i ∉ L→ops[i]?=some o→StepX P a0 ops w R G F x y D i o) (hs2:∀ i o,i ∈ L→ops[i]?=some o→LateOk P a0 ops w R G F i o) (hxL:x ∉ L) (hyL:y ∉ L)
 (hend:∀ vs w',R w w'→G w'→(∀ j,j < M→F j (vs j) w')→(x < M→y < M→D (vs x) (vs y) w')→(∀ i o,i ∈ L→ops[i]?=some o→∀ W,(execOp (rho a0 ops i vs) o).run P W=.ok (.value (vs i)) W)→wpList P ops Q (ops.toList.drop M) (putAll ops M vs a0) w'):(Code.region id ops true).wp P Q a0 w:=by
 refine wp_region_any hm (any_invL hRr hRt hF hxy hD hok (lateLooks ht) hQ hs hs2 hxL hyL hend ops.size _ a0 w.drew (fun _=>undef) (by simp) (by omega) ?_);have hl:(fun j=>(Array.replicate ops.size false).getD j false)=fun _=>false:=by
  funext j
  rcases Nat.lt_or_ge j ops.size with h | h
  ·simp [h]
  ·have h':¬ j < ops.size:=by omega
   simp [Array.getElem?_replicate,h']
 rw [hl];exact ⟨Inv.start (hRd w) (hGd hG),fun _ _ _ h=>(by cases h),fun h=>(by cases h)⟩
inductive Kd where
 | pl | la | pa
def Kd.isLa:Kd→Bool | .la=>true | _=>false
def Kd.isPa:Kd→Bool | .pa=>true | _=>false
def idx (m:List Kd):List Nat:=(List.range m.length).filter fun i=>(m.getD i .pl).isLa
theorem mem_idx {m:List Kd} {i:Nat}:i ∈ idx m↔(m.getD i .pl).isLa=true:=by
 unfold idx;rw [List.mem_filter,List.mem_range];constructor
 ·exact fun h=>h.2
 ·intro h
  refine ⟨?_,h⟩;rcases Nat.lt_or_ge i m.length with h1 | h1
  ·exact h1
  ·rw [List.getD_eq_getElem?_getD,List.getElem?_eq_none h1] at h;cases h
def StepsJ (P:Program) (a0:Act) (ops:Array Oper) (w0:World) (R:World→World→Prop) (G:World→Prop) (F:Nat→Value→World→Prop) (x y:Nat) (D:Value→Value→World→Prop):Nat→List Oper→List Kd→Prop
 | _,[],_=>True
 | k,o :: r,.la :: m=>LateOk P a0 ops w0 R G F k o∧StepsJ P a0 ops w0 R G F x y D (k + 1) r m
 | k,o :: r,.pl :: m=>StepOk P a0 ops w0 R G F k o∧StepsJ P a0 ops w0 R G F x y D (k + 1) r m
 | k,o :: r,.pa :: m=>StepX P a0 ops w0 R G F x y D k o∧StepsJ P a0 ops w0 R G F x y D (k + 1) r m
 | _,_ :: _,[]=>False
theorem StepsJ.get' {R:World→World→Prop} {G:World→Prop} {F:Nat→Value→World→Prop} {x y:Nat} {D:Value→Value→World→Prop} (M:Nat):∀ (l:List Oper) (m:List Kd) (k:Nat),StepsJ P a0 ops w0 R G F x y D k l m→(∀ i,m.getD i .pl=.pl→k + i≠x∧k + i≠y∨M≤k + i)→k + l.length≤M→∀ j o,l[j]?=some o→((m.getD j .pl).isLa=true→LateOk P a0 ops w0 R G F (k + j) o)∧((m.getD j .pl).isLa=false→StepX P a0 ops w0 R G F x y D (k + j) o)
 | [],_,_,_,_,_,j,o,h=>by simp at h
 | z :: r,.la :: m,k,hs,hp,hM,j,o,h=>by
   cases j with
   | zero=>simp at h;subst h;exact ⟨fun _=>hs.1,fun e=>by simp [Kd.isLa] at e⟩
   | succ j=>
     have:=StepsJ.get' M r m (k + 1) hs.2 (fun i hi=>by have:=hp (i + 1) (by simpa using hi);rw [show k + 1 + i=k + (i + 1) by omega];exact this) (by simp at hM;omega) j o (by simpa using h);have e:k + 1 + j=k + (j + 1):=by omega
     rw [e] at this;exact this
 | z :: r,.pl :: m,k,hs,hp,hM,j,o,h=>by
   cases j with
   | zero=>simp at h;subst h;exact ⟨fun e=>by simp [Kd.isLa] at e,fun _=>by have h0:=hp 0 rfl;simp at hM;exact StepOk.pair (h0.resolve_right (by omega)).1 (h0.resolve_right (by omega)).2 hs.1⟩
   | succ j=>
     have:=StepsJ.get' M r m (k + 1) hs.2 (fun i hi=>by have:=hp (i + 1) (by simpa using hi);rw [show k + 1 + i=k + (i + 1) by omega];exact this) (by simp at hM;omega) j o (by simpa using h);have e:k + 1 + j=k + (j + 1):=by omega
     rw [e] at this;exact this
 | z :: r,.pa :: m,k,hs,hp,hM,j,o,h=>by
   cases j with
   | zero=>simp at h;subst h;exact ⟨fun e=>by simp [Kd.isLa] at e,fun _=>hs.1⟩
   | succ j=>
     have:=StepsJ.get' M r m (k + 1) hs.2 (fun i hi=>by have:=hp (i + 1) (by simpa using hi);rw [show k + 1 + i=k + (i + 1) by omega];exact this) (by simp at hM;omega) j o (by simpa using h);have e:k + 1 + j=k + (j + 1):=by omega
     rw [e] at this;exact this
 | _ :: _,[],_,hs,_,_,_,_,_=>hs.elim
def pairB (m:List Kd) (M x y:Nat):Bool:=decide (m.length=M) && (decide (M≤x) && decide (M≤y) || x !=y && (m.getD x .pl).isPa && (m.getD y .pl).isPa)
theorem regionJ {M:Nat} (m:List Kd) (x y:Nat) (D:Value→Value→World→Prop) {id:Nat} {w:World} {Q:Exit→Act→World→Prop} {P:Program} {ops:Array Oper} {a0:Act} (hm:P.follows .mixedOrders=true) (R:World→World→Prop) (G:World→Prop) (F:Nat→Value→World→Prop) (hRr:∀ w,R w w) (hRt:∀ u v w,R u v→R v w→R u w) (hRd:∀ w:World,R w w.drew) (hF:∀ j v w w',R w w'→F j v w→F j v w') (hD:∀ u v w w',R w w'→D u v w→D u v w')
 (hok:okB ops M a0.tmps.size=true) (ht:tailL ops M (idx m)=true) (hpair:pairB m M x y=true) (hQ:∀ c a o v w,Q (.panic c) (Act.put a o v) w→Q (.panic c) a w) (hGd:G w→G w.drew) (hG:G w) (hs:StepsJ P a0 ops w R G F x y D 0 (ops.toList.take M) m)
 (hend:∀ vs w',R w w'→G w'→(∀ j,j < M→F j (vs j) w')→(x < M→y < M→D (vs x) (vs y) w')→(∀ i o,i ∈ idx m→ops[i]?=some o→∀ W,(execOp (rho a0 ops i vs) o).run P W=.ok (.value (vs i)) W)→wpList P ops Q (ops.toList.drop M) (putAll ops M vs a0) w'):(Code.region id ops true).wp P Q a0 w:=by
 unfold pairB at hpair;simp only [Bool.and_eq_true,Bool.or_eq_true,decide_eq_true_eq,bne_iff_ne] at hpair;obtain ⟨hml,hpair⟩:=hpair;have hpa:∀ i,m.getD i .pl=.pl→i < M→i≠x∧i≠y:=fun i hi hiM=>by
  rcases hpair with h | ⟨⟨_,h1⟩,h2⟩
  ·omega
  ·exact ⟨fun e=>(by subst e;rw [hi] at h1;cases h1),fun e=>(by subst e;rw [hi] at h2;cases h2)⟩
 have hnl:∀ z,(M≤z∨(m.getD z .pl).isPa=true)→z ∉ idx m:=fun z hz h=>by
  have h1:=mem_idx.1 h;rcases hz with hz | hz
  ·rw [List.getD_eq_getElem?_getD,List.getElem?_eq_none (by omega)] at h1;cases h1
  ·cases hk:m.getD z .pl <;> rw [hk] at h1 hz <;> simp [Kd.isLa,Kd.isPa] at h1 hz
 have hget:∀ i o,i < M→ops[i]?=some o→((m.getD i .pl).isLa=true→LateOk P a0 ops w R G F i o)∧((m.getD i .pl).isLa=false→StepX P a0 ops w R G F x y D i o):=fun i o hi ho=>by
  have:∀ i,m.getD i .pl=.pl→0 + i≠x∧0 + i≠y∨M≤0 + i:=fun i hi=>by
   rw [Nat.zero_add];rcases Nat.lt_or_ge i M with h | h
   ·exact .inl (hpa i hi h)
   ·exact .inr h
  have h2:=StepsJ.get' (x:=x) (y:=y) M _ _ 0 hs this (by simp;omega) i o (by simp [List.getElem?_take,hi,ho]);simpa using h2
 refine regionL (x:=x) (y:=y) (D:=D) (idx m) hm R hRr hRt hRd G F hF ?_ hD hok ht hQ hGd hG (fun i o hi hn ho=>(hget i o hi ho).2 ?_) (fun i o hi ho=>(hget i o ((lateLooks ht).low i hi).1 ho).1 (mem_idx.1 hi)) ?_ ?_ hend
 ·intro e
  rcases hpair with h | ⟨⟨h,_⟩,_⟩
  ·exact h.1
  ·exact absurd e h
 ·cases h:(m.getD i .pl).isLa with
  | false=>rfl
  | true=>exact absurd (mem_idx.2 h) hn
 ·rcases hpair with h | ⟨⟨_,h⟩,_⟩
  ·exact hnl x (.inl h.1)
  ·exact hnl x (.inr h)
 ·rcases hpair with h | ⟨⟨_,_⟩,h⟩
  ·exact hnl y (.inl h.2)
  ·exact hnl y (.inr h)
end
end Rg
