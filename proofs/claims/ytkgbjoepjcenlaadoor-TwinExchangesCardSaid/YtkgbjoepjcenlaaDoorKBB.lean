/- Joined texts. -/
import Derived.Test.YtkgbjoepjcenlaaDoorKBA
set_option linter.unusedVariables false
set_option linter.unusedSimpArgs false
namespace Go.Proofs.YtkgbjoepjcenlaaDoor
namespace Am
def andI (t:IntKind) (a c:Int):Int:=t.wrap (BitVec.ofInt t.bits a &&& BitVec.ofInt t.bits c).toNat
def orI (t:IntKind) (a c:Int):Int:=t.wrap (BitVec.ofInt t.bits a ||| BitVec.ofInt t.bits c).toNat
def xorI (t:IntKind) (a c:Int):Int:=t.wrap (BitVec.ofInt t.bits a ^^^ BitVec.ofInt t.bits c).toNat
section
variable (P:Program) (X:Ev) (e:En) (σ:AS) (fr:List (Nat × SV)) (hp:List (Nat × Row)) (k n d nx N s ver o:Nat) (fz fs L:List Nat) (v x y z:SV) (r q:Row) (dst:Option Tmp) (b:Bool) (K:AS→Prop) (Q:Exit→AS→Prop)
@[go_sem] theorem look_cons (r):look ((k,v) :: r) n=if k=n then v else look r n:=rfl
@[go_sem] theorem look_nil:look [] n=.any:=rfl
@[go_sem] theorem lookR_cons (l):lookR ((k,r) :: l) n=if k=n then some r else lookR l n:=rfl
@[go_sem] theorem lookR_nil:lookR [] n=none:=rfl
@[go_sem] theorem putR_cons (l):putR ((k,r) :: l) n q=if k=n then (k,q) :: l else (k,r) :: putR l n q:=rfl
@[go_sem] theorem putR_nil:putR [] n q=[(n,q)]:=rfl
@[go_sem] theorem ev_tmp (t):ev fr (.tmp t)=look fr t:=rfl
@[go_sem] theorem ev_const (c):ev fr (.const c)=.v c:=rfl
@[go_sem] theorem ev_func (f):ev fr (.func f)=.v (.func (.func f) #[] #[]):=rfl
@[go_sem] theorem putF_some:putF fr v (some d)=(d,v) :: fr:=rfl
@[go_sem] theorem putF_none:putF fr v none=fr:=rfl
@[go_sem] theorem putW_some:putW hp (some (s,r))=putR hp s r:=rfl
@[go_sem] theorem putW_none:putW hp none=hp:=rfl
@[go_sem] theorem nxW_some (p):nxW nx (some p)=nx + 1:=rfl
@[go_sem] theorem nxW_none:nxW nx none=nx:=rfl
@[go_sem] theorem up_eq (R:Rs):AS.up ⟨fr,hp,nx,fz,N⟩ dst R=⟨putF fr R.r dst,putW hp R.wr,nxW nx R.wr,fz,N⟩:=rfl
@[go_sem] theorem called_eq (rows):AS.called ⟨fr,hp,nx,fz,N⟩ dst fs L v rows=⟨putF fr (ren (dst.getD 0) nx v) dst,putRs hp (wl (dst.getD 0) L rows) (rnR nx L rows),nxA nx L rows,fzA fs fz v rows,N⟩:=rfl
@[go_sem] theorem wl_nn:wl d [] []=[]:=rfl
@[go_sem] theorem wl_nc (rs):wl d [] (r :: rs)=[d]:=rfl
@[go_sem] theorem wl_cc (rs):wl d (s :: L) (r :: rs)=s :: wl d L rs:=rfl
@[go_sem] theorem rnR_nn:rnR nx [] []=[]:=rfl
@[go_sem] theorem rnR_nc (u T' k' cs rs):rnR nx [] (⟨u,T',k',cs⟩ :: rs)=[⟨nx,T',k',cs⟩]:=rfl
@[go_sem] theorem rnR_cc (rs):rnR nx (s :: L) (r :: rs)=r :: rnR nx L rs:=rfl
@[go_sem] theorem nxA_nn:nxA nx [] []=nx:=rfl
@[go_sem] theorem nxA_nc (rs):nxA nx [] (r :: rs)=nx + 1:=rfl
@[go_sem] theorem nxA_cc (rs):nxA nx (s :: L) (r :: rs)=nxA nx L rs:=rfl
@[go_sem] theorem fzA_n (rows):fzA [] fz v rows=fz:=by unfold fzA;split <;> rfl
@[go_sem] theorem fzA_c (rows):fzA (s :: fs) fz v rows=cond (frees v rows) fz (s :: fs ++ fz):=by unfold fzA;cases frees v rows <;> rfl
@[go_sem] theorem frees_eq (rows):frees v rows=(fl v && rows.all fun q=>q.cs.all fl0):=rfl
@[go_sem] theorem fl0_v (c):fl0 (.v c)=true:=rfl
@[go_sem] theorem fl0_any:fl0 .any=true:=rfl
@[go_sem] theorem fl0_own:fl0 (.own s ver n k)=true:=rfl
@[go_sem] theorem fl0_ptr:fl0 (.ptr s ver o)=true:=rfl
@[go_sem] theorem fl0_sl (c cs):fl0 (.sl n k (c :: cs))=false:=rfl
@[go_sem] theorem fl0_sl0:fl0 (.sl n k [])=true:=rfl
@[go_sem] theorem fl0_rp (cs):fl0 (.rp cs)=false:=rfl
@[go_sem] theorem fl0_s (q):fl0 (.s q)=false:=rfl
@[go_sem] theorem fl0_agg (cs):fl0 (.agg cs)=false:=rfl
@[go_sem] theorem fl0_tup (cs):fl0 (.tup cs)=false:=rfl
@[go_sem] theorem fl1_agg (cs):fl1 (.agg cs)=cs.all fl0:=rfl
@[go_sem] theorem fl1_v (c):fl1 (.v c)=true:=rfl
@[go_sem] theorem fl1_any:fl1 .any=true:=rfl
@[go_sem] theorem fl1_own:fl1 (.own s ver n k)=true:=rfl
@[go_sem] theorem fl1_ptr:fl1 (.ptr s ver o)=true:=rfl
@[go_sem] theorem fl1_sl (cs):fl1 (.sl n k cs)=fl0 (.sl n k cs):=rfl
@[go_sem] theorem fl1_rp (cs):fl1 (.rp cs)=false:=rfl
@[go_sem] theorem fl1_s (q):fl1 (.s q)=false:=rfl
@[go_sem] theorem fl_tup (cs):fl (.tup cs)=cs.all fl1:=rfl
@[go_sem] theorem fl_agg (cs):fl (.agg cs)=cs.all fl0:=rfl
@[go_sem] theorem fl_v (c):fl (.v c)=true:=rfl
@[go_sem] theorem fl_any:fl .any=true:=rfl
@[go_sem] theorem fl_own:fl (.own s ver n k)=true:=rfl
@[go_sem] theorem fl_ptr:fl (.ptr s ver o)=true:=rfl
@[go_sem] theorem fl_sl (cs):fl (.sl n k cs)=fl0 (.sl n k cs):=rfl
@[go_sem] theorem fl_rp (cs):fl (.rp cs)=false:=rfl
@[go_sem] theorem fl_s (q):fl (.s q)=false:=rfl
@[go_sem] theorem ren_v (c):ren d nx (.v c)=.v c:=rfl
@[go_sem] theorem ren_any:ren d nx .any=.any:=rfl
@[go_sem] theorem ren_sl (cs):ren d nx (.sl n k cs)=.sl n k cs:=rfl
@[go_sem] theorem ren_rp (cs):ren d nx (.rp cs)=.rp cs:=rfl
@[go_sem] theorem ren_s (q):ren d nx (.s q)=.s q:=rfl
@[go_sem] theorem ren_agg (cs):ren d nx (.agg cs)=.agg cs:=rfl
@[go_sem] theorem ren_tup (cs):ren d nx (.tup cs)=.tup (cs.map (ren1 d nx)):=rfl
@[go_sem] theorem ren_own:ren d nx (.own s ver n k)=if s=2000 then .own d nx n k else .own s ver n k:=rfl
@[go_sem] theorem ren_ptr:ren d nx (.ptr s ver o)=if s=2000 then .ptr d nx o else .ptr s ver o:=rfl
@[go_sem] theorem ren1_v (c):ren1 d nx (.v c)=.v c:=rfl
@[go_sem] theorem ren1_any:ren1 d nx .any=.any:=rfl
@[go_sem] theorem ren1_sl (cs):ren1 d nx (.sl n k cs)=.sl n k cs:=rfl
@[go_sem] theorem ren1_rp (cs):ren1 d nx (.rp cs)=.rp cs:=rfl
@[go_sem] theorem ren1_s (q):ren1 d nx (.s q)=.s q:=rfl
@[go_sem] theorem ren1_agg (cs):ren1 d nx (.agg cs)=.agg cs:=rfl
@[go_sem] theorem ren1_own:ren1 d nx (.own s ver n k)=if s=2000 then .own d nx n k else .own s ver n k:=rfl
@[go_sem] theorem ren1_ptr:ren1 d nx (.ptr s ver o)=if s=2000 then .ptr d nx o else .ptr s ver o:=rfl
@[go_sem] theorem nob_nn (ck):nob ck d fs [] [] []=True:=rfl
@[go_sem] theorem nob_n (ck L0):nob ck d fs L0 L []=True:=by cases L <;> rfl
@[go_sem] theorem nob_nc (ck L0 rs):nob ck d fs L0 [] (r :: rs)=(L0.contains d=false∧ck fs (L0 ++ [d])):=rfl
@[go_sem] theorem nob_cc (ck L0 rs):nob ck d fs L0 (s :: L) (r :: rs)=nob ck d fs L0 L rs:=rfl
@[go_sem] theorem putRs_cons (rs):putRs hp (s :: L) (r :: rs)=putRs (putR hp s r) L rs:=rfl
@[go_sem] theorem putRs_nil (rs):putRs hp [] rs=hp:=by cases rs <;> rfl
@[go_sem] theorem lntOk_n:lntOk hp fz fs []=True:=rfl
@[go_sem] theorem lntOk_c:lntOk hp fz fs (s :: L)=((lookR hp s).isSome=true∧fz.contains s=false∧fs.contains s=false∧L.contains s=false∧lntOk hp fz fs L):=rfl
@[go_sem] theorem dOk_some:dOk N (some d)=(d < N):=rfl
@[go_sem] theorem dOk_none:dOk N none=True:=rfl
@[go_sem] theorem gsv_some:gsv fr (some d)=look fr d:=rfl
@[go_sem] theorem fnOf_eq (f):fnOf (.v (.func (.func f) #[] #[]))=some f:=rfl
section
variable (ops:Array Oper) (os:List Oper) (op:Op) (ty:Nat) (pos:String) (af:Array Edge) (j:Nat)
variable (ck:List Nat→List Nat→Prop) (J:AS→List Nat→List Nat→Prop) (rd wr:List Nat) (t:List Nat) (i:Nat) (lg:Lg)
@[go_sem] theorem chain_nil:chain P X ops K [] σ rd wr=K σ:=rfl
@[go_sem] theorem chain_one:chain P X ops K (⟨dst,op,ty,pos,af,none⟩ :: os) σ rd wr=onO (chain P X ops K os) dst σ (one P X noCk (chain P X ops K os) dst σ op) (opn P (ev σ.fr) op):=rfl
@[go_sem] theorem onO_none (p:Prop):onO J dst σ p none=p:=rfl
@[go_sem] theorem opn_call (c):opn P (ev fr) (.call c)=none:=rfl
@[go_sem] theorem opn_move (a):opn P (ev fr) (.move a)=none:=rfl
@[go_sem] theorem opn_assign (a):opn P (ev fr) (.assign a)=none:=rfl
@[go_sem] theorem opn_pick (a b c):opn P (ev fr) (.pick a b c)=none:=rfl
@[go_sem] theorem opn_alloc (T):opn P (ev fr) (.alloc T)=none:=rfl
@[go_sem] theorem opn_box (T a):opn P (ev fr) (.box T a)=none:=rfl
@[go_sem] theorem opn_build (T ps):opn P (ev fr) (.build T ps)=none:=rfl
@[go_sem] theorem opn_mk (T a b):opn P (ev fr) (.makeSlice T a b)=none:=rfl
@[go_sem] theorem opn_bs (T n ps):opn P (ev fr) (.buildSlice T n ps)=none:=rfl
@[go_sem] theorem opn_load (T a):opn P (ev fr) (.load T a)=none:=rfl
@[go_sem] theorem opn_store (T a b):opn P (ev fr) (.store T a b)=none:=rfl
@[go_sem] theorem opn_nil (a):opn P (ev fr) (.nilCheck a)=none:=rfl
@[go_sem] theorem opn_un (op T a):opn P (ev fr) (.unOp op T a)=none:=rfl
@[go_sem] theorem opn_sl (T a lo hi mx):opn P (ev fr) (.slice T a lo hi mx)=none:=rfl
@[go_sem] theorem opn_fa (T a f):opn P (ev fr) (.fieldAddr T a f)=none:=rfl
@[go_sem] theorem opn_fl (T a f):opn P (ev fr) (.field T a f)=none:=rfl
@[go_sem] theorem opn_ia (T a i):opn P (ev fr) (.indexAddr T a i)=none:=rfl
@[go_sem] theorem opn_ix (T a i):opn P (ev fr) (.index T a i)=none:=rfl
@[go_sem] theorem opn_ex (a i):opn P (ev fr) (.extract a i)=none:=rfl
@[go_sem] theorem opn_cv (T U a):opn P (ev fr) (.convert T U a)=fvO P T U (ev fr a):=rfl
@[go_sem] theorem opn_bin (op T a b U):opn P (ev fr) (.binOp op T a b U)=nlO P T op (ev fr a) (ev fr b):=rfl
@[go_sem] theorem fvO_int (T U t a):fvO P T U (.v (.int t a))=none:=rfl
@[go_sem] theorem fvO_str (T U a):fvO P T U (.v (.string a))=none:=rfl
@[go_sem] theorem fvO_nil (T U a n c):fvO P T U (.v (.slice a n c))=none:=rfl
@[go_sem] theorem fvO_sl (T U cs):fvO P T U (.sl n k cs)=none:=rfl
@[go_sem] theorem fvO_own (T U):fvO P T U (.own s ver n k)=none:=rfl
@[go_sem] theorem nlO_int (T op t a):nlO P T op (.v (.int t a)) y=none:=by cases op <;> rfl
@[go_sem] theorem nlO_bool (T op):nlO P T op (.v (.bool b)) y=none:=by cases op <;> rfl
@[go_sem] theorem nlO_str (T op a):nlO P T op (.v (.string a)) y=none:=by cases op <;> rfl
@[go_sem] theorem nlO_flt (T op t a):nlO P T op (.v (.float t a)) y=none:=by cases op <;> rfl
def cvF (P:Program) (J:AS→List Nat→List Nat→Prop) (dst:Option Tmp) (σ:AS) (T U:TypeId) (t:FloatKind) (m:Nat):Prop:=dOk σ.N dst∧∃ C:Value→Prop,(∀ W:World,∃ v W',(convert T U (.float t m)).run P W=.ok v W'∧(W'=W∨W'=W.drew)∧C v)∧∀ v,C v→J ⟨putF σ.fr (.v v) dst,σ.hp,σ.nx,σ.fz,σ.N⟩ [] []
@[go_sem] theorem onO_flt (p:Prop) (T U t m):onO J dst σ p (fvO P T U (.v (.float t m)))=cvF P J dst σ T U t m:=rfl
def nlS (P:Program) (J:AS→List Nat→List Nat→Prop) (dst:Option Tmp) (σ:AS) (T:TypeId) (q:Bool) (l:Nat):Prop:=dOk σ.N dst∧(elT (P.underlying T)).isSome=true∧∀ b:Bool,(l≠0→b=q)→J ⟨putF σ.fr (.v (.bool b)) dst,σ.hp,σ.nx,σ.fz,σ.N⟩ [] []
@[go_sem] theorem onO_eql (p:Prop) (T cs):onO J dst σ p (nlO P T .eql (.sl n k cs) (.v (.slice none 0 0)))=nlS P J dst σ T false cs.length:=rfl
@[go_sem] theorem onO_neq (p:Prop) (T cs):onO J dst σ p (nlO P T .neq (.sl n k cs) (.v (.slice none 0 0)))=nlS P J dst σ T true cs.length:=rfl
def gop (oc b:Bool):SV→Prop:=gst b (cond oc (oneO P X J dst σ op) (one P X ck J dst σ op)) (dOk σ.N dst∧J ⟨putF σ.fr (.v undef) dst,σ.hp,σ.nx,σ.fz,σ.N⟩ [] [])
@[go_sem] theorem chain_gd:chain P X ops K (⟨dst,op,ty,pos,af,some (j,b)⟩ :: os) σ rd wr=gop P X σ dst op noCk (chain P X ops K os) true b (gsv σ.fr ((ops[j]?).bind (·.dst))):=rfl
@[go_sem] theorem gop_tt:gop P X σ dst op ck J false true (.v (.bool true))=one P X ck J dst σ op:=by simp [gop,gst]
@[go_sem] theorem gop_ff:gop P X σ dst op ck J false false (.v (.bool false))=one P X ck J dst σ op:=by simp [gop,gst]
@[go_sem] theorem gop_tto:gop P X σ dst op ck J true true (.v (.bool true))=onO J dst σ (one P X noCk J dst σ op) (opn P (ev σ.fr) op):=by simp [gop,gst,oneO]
@[go_sem] theorem gop_ffo:gop P X σ dst op ck J true false (.v (.bool false))=onO J dst σ (one P X noCk J dst σ op) (opn P (ev σ.fr) op):=by simp [gop,gst,oneO]
@[go_sem] theorem gop_tf (oc):gop P X σ dst op ck J oc true (.v (.bool false))=(dOk σ.N dst∧J ⟨putF σ.fr (.v undef) dst,σ.hp,σ.nx,σ.fz,σ.N⟩ [] []):=by simp [gop,gst]
@[go_sem] theorem gop_ft (oc):gop P X σ dst op ck J oc false (.v (.bool true))=(dOk σ.N dst∧J ⟨putF σ.fr (.v undef) dst,σ.hp,σ.nx,σ.fz,σ.N⟩ [] []):=by simp [gop,gst]
@[go_sem] theorem gop_un (oc):gop P X σ dst op ck J oc b (.v undef)=(dOk σ.N dst∧J ⟨putF σ.fr (.v undef) dst,σ.hp,σ.nx,σ.fz,σ.N⟩ [] []):=rfl
@[go_sem] theorem gop_u (oc vs):gop P X σ dst op ck J oc b (.v (.tuple vs))=(dOk σ.N dst∧J ⟨putF σ.fr (.v undef) dst,σ.hp,σ.nx,σ.fz,σ.N⟩ [] []):=rfl
@[go_sem] theorem dch_nil:dch P X ops t K [] i lg σ rd wr=K σ:=rfl
@[go_sem] theorem dch_one:dch P X ops t K (⟨dst,op,ty,pos,af,none⟩ :: os) i lg σ rd wr=one P X (lgCk t i (addL i rd wr lg)) (dch P X ops t K os (i + 1) (addL i rd wr lg)) dst σ op:=rfl
@[go_sem] theorem dch_gd:dch P X ops t K (⟨dst,op,ty,pos,af,some (j,b)⟩ :: os) i lg σ rd wr=gop P X σ dst op (lgCk t i (addL i rd wr lg)) (dch P X ops t K os (i + 1) (addL i rd wr lg)) false b (gsv σ.fr ((ops[j]?).bind (·.dst))):=rfl
@[go_sem] theorem addL_nn:addL i [] [] lg=lg:=rfl
@[go_sem] theorem addL_c (s):addL i (s :: rd) wr lg=(i,s :: rd,wr) :: lg:=rfl
@[go_sem] theorem addL_w (s):addL i [] (s :: wr) lg=(i,[],s :: wr) :: lg:=rfl
@[go_sem] theorem lgCk_eq:lgCk t i lg rd wr=(ckL t i (cfl lg rd wr)=true):=rfl
@[go_sem] theorem noCk_eq:noCk rd wr=True:=rfl
@[go_sem] theorem cfl_nil:cfl [] rd wr=[]:=rfl
@[go_sem] theorem cfl_cons (k a c):cfl ((k,a,c) :: lg) rd wr=cond (clash a c rd wr) (k :: cfl lg rd wr) (cfl lg rd wr):=by
 unfold cfl;rw [List.filter_cons];cases h:clash a c rd wr <;> simp [h]
@[go_sem] theorem clash_eq (a c:List Nat):clash a c rd wr=(c.any (fun s=>wr.contains s || rd.contains s) || a.any fun s=>wr.contains s):=rfl
@[go_sem] theorem ckL_nil:ckL t i []=true:=rfl
end
@[go_sem] theorem wrs_n:wrs none=[]:=rfl
@[go_sem] theorem wrs_s:wrs (some (s,r))=[s]:=rfl
variable (ck:List Nat→List Nat→Prop) (J:AS→List Nat→List Nat→Prop)
def res (ck:List Nat→List Nat→Prop) (J:AS→List Nat→List Nat→Prop) (dst:Option Tmp) (σ:AS) (R:Rs):Prop:=R.p∧dOk σ.N dst∧ck R.rd (wrs R.wr)∧J (σ.up dst R) R.rd (wrs R.wr)
@[go_sem] theorem res_eq (p:Prop) (rd wr nx'):res ck J dst ⟨fr,hp,nx,fz,N⟩ ⟨p,v,rd,wr,nx'⟩=(p∧dOk N dst∧ck rd (wrs wr)∧J ⟨putF fr v dst,putW hp wr,nxW nx wr,fz,N⟩ rd (wrs wr)):=rfl
@[go_sem] theorem one_call (f args ts):one P X ck J dst σ (.call ⟨.value f,args,ts⟩)=cal P X ck J dst σ (args.toList.map (ev σ.fr)) (fnOf (ev σ.fr f)):=rfl
@[go_sem] theorem one_bi (b args ts):one P X ck J dst σ (.call ⟨.builtin b,args,ts⟩)=res ck J dst σ (biC P (dst.getD 0) σ.fz (lookR σ.hp) σ.nx (ev σ.fr) b args.toList ts.toList):=rfl
@[go_sem] theorem one_move (a):one P X ck J dst σ (.move a)=res ck J dst σ (pu True (ev σ.fr a) σ.nx):=rfl
@[go_sem] theorem one_assign (a):one P X ck J dst σ (.assign a)=res ck J dst σ (pu True (ev σ.fr a) σ.nx):=rfl
@[go_sem] theorem one_pick (a b c):one P X ck J dst σ (.pick a b c)=res ck J dst σ (pkV (ev σ.fr a) (ev σ.fr b) (ev σ.fr c) σ.nx):=rfl
@[go_sem] theorem one_alloc (T):one P X ck J dst σ (.alloc T)=res ck J dst σ (alV T (dst.getD 0) σ.nx (zcT P T)):=rfl
@[go_sem] theorem one_box (T a):one P X ck J dst σ (.box T a)=res ck J dst σ (bxV T (dst.getD 0) σ.nx (cellsO (ev σ.fr a))):=rfl
@[go_sem] theorem one_build (T ps):one P X ck J dst σ (.build T ps)=res ck J dst σ (blV P T (ps.toList.map fun p=>(p.1,cellsO (ev σ.fr p.2))) σ.nx (P.underlying T)):=rfl
@[go_sem] theorem one_mk (T a b):one P X ck J dst σ (.makeSlice T a b)=res ck J dst σ (mkV P (dst.getD 0) σ.nx (ev σ.fr a) (ev σ.fr b) (P.underlying T)):=rfl
@[go_sem] theorem one_bs (T n ps):one P X ck J dst σ (.buildSlice T n ps)=res ck J dst σ (bsV P (dst.getD 0) σ.nx n (ps.toList.map fun p=>(p.1,cellsO (ev σ.fr p.2))) (P.underlying T)):=rfl
@[go_sem] theorem one_load (T a):one P X ck J dst σ (.load T a)=res ck J dst σ (ldV (agT P T) (szT P T) (lookR σ.hp) σ.nx (ev σ.fr a)):=rfl
@[go_sem] theorem one_store (T a b):one P X ck J dst σ (.store T a b)=res ck J dst σ (stV (szT P T) (lookR σ.hp) σ.fz σ.nx (ev σ.fr a) (cellsO (ev σ.fr b))):=rfl
@[go_sem] theorem one_nil (a):one P X ck J dst σ (.nilCheck a)=res ck J dst σ (ncV (ev σ.fr a) σ.nx):=rfl
@[go_sem] theorem one_bin (op T a b U):one P X ck J dst σ (.binOp op T a b U)=res ck J dst σ (biX op σ.nx (P.underlying T) (ev σ.fr a) (ev σ.fr b)):=rfl
@[go_sem] theorem one_un (op T a):one P X ck J dst σ (.unOp op T a)=res ck J dst σ (unV op σ.nx (ev σ.fr a)):=rfl
@[go_sem] theorem one_cv (T U a):one P X ck J dst σ (.convert T U a)=res ck J dst σ (cvX P (lookR σ.hp) σ.nx (ev σ.fr a) (P.underlying T) (P.underlying U)):=rfl
@[go_sem] theorem one_sl (T a lo hi mx):one P X ck J dst σ (.slice T a lo hi mx)=res ck J dst σ (slO P σ.nx (lo.map (ev σ.fr)) (hi.map (ev σ.fr)) (ev σ.fr a) (P.underlying T) mx):=rfl
@[go_sem] theorem one_fa (T a f):one P X ck J dst σ (.fieldAddr T a f)=res ck J dst σ (faU P f (ev σ.fr a) σ.nx (P.underlying T)):=rfl
@[go_sem] theorem one_fl (T a f):one P X ck J dst σ (.field T a f)=res ck J dst σ (flU P f σ.nx (ev σ.fr a) (P.underlying T)):=rfl
@[go_sem] theorem one_ia (T a i):one P X ck J dst σ (.indexAddr T a i)=res ck J dst σ (iaV P σ.nx (ev σ.fr a) (ev σ.fr i) (P.underlying T)):=rfl
@[go_sem] theorem one_ix (T a i):one P X ck J dst σ (.index T a i)=res ck J dst σ (ixV σ.nx (ev σ.fr a) (ev σ.fr i) (P.underlying T)):=rfl
@[go_sem] theorem one_ex (a i):one P X ck J dst σ (.extract a i)=res ck J dst σ (exV i σ.nx (ev σ.fr a)):=rfl
@[go_sem] theorem pu_eq (p:Prop):pu p v nx=⟨p,v,[],none,nx⟩:=rfl
@[go_sem] theorem pkV_eq:pkV (.v (.bool b)) x y nx=⟨True,bif b then x else y,[],none,nx⟩:=rfl
@[go_sem] theorem cond_v (c d:Value):(bif b then SV.v c else SV.v d)=.v (bif b then c else d):=by cases b <;> rfl
@[go_sem] theorem cond_b (c d:Bool):(bif b then Value.bool c else Value.bool d)=.bool (bif b then c else d):=by cases b <;> rfl
@[go_sem] theorem cond_i (t) (c d:Int):(bif b then Value.int t c else Value.int t d)=.int t (bif b then c else d):=by cases b <;> rfl
@[go_sem] theorem alV_eq (T z):alV T d nx (some z)=⟨True,.ptr d nx 0,[],some (d,⟨nx,T,z.cells.size,z.cells.toList.map .v⟩),nx + 1⟩:=rfl
@[go_sem] theorem bxV_eq (T cs):bxV T d nx (some cs)=⟨True,.ptr d nx 0,[],some (d,⟨nx,T,cs.length,cs⟩),nx + 1⟩:=rfl
@[go_sem] theorem ncV_ptr:ncV (.ptr s ver o) nx=⟨True,.ptr s ver o,[],none,nx⟩:=rfl
@[go_sem] theorem ncV_rp (cs):ncV (.rp cs) nx=⟨True,.rp cs,[],none,nx⟩:=rfl
@[go_sem] theorem faU_eq (f fs):faU P f x nx (some (.struct fs))=faF P x nx (fs[f]?):=rfl
@[go_sem] theorem faF_ptr (f:Field):faF P (.ptr s ver o) nx (some f)=⟨szT P f.type≠0,.ptr s ver (o + f.offset),[],none,nx⟩:=rfl
@[go_sem] theorem faF_rp (f:Field) (cs):faF P (.rp cs) nx (some f)=⟨szT P f.type≠0∧f.offset≤cs.length,.rp (cs.drop f.offset),[],none,nx⟩:=rfl
@[go_sem] theorem flU_eq (f cs fs):flU P f nx (.agg cs) (some (.struct fs))=flF P cs nx (fs[f]?):=rfl
@[go_sem] theorem flF_eq (f:Field) (cs):flF P cs nx (some f)=⟨f.offset + szT P f.type≤cs.length∧0 < szT P f.type∧agT P f.type≠none,partS (agT P f.type) (szT P f.type) (cs.drop f.offset),[],none,nx⟩:=rfl
@[go_sem] theorem partS_t (cs):partS (some true) k cs=.agg (cs.take k):=rfl
@[go_sem] theorem partS_f (cs):partS (some false) k cs=cs.headD .any:=rfl
@[go_sem] theorem exV_eq (i cs):exV i nx (.tup cs)=⟨i < cs.length,cs.getD i .any,[],none,nx⟩:=rfl
@[go_sem] theorem ldV_ptr (a):ldV a k (lookR hp) nx (.ptr s ver o)=ldR a k ver o s nx (lookR hp s):=rfl
@[go_sem] theorem ldR_eq (a):ldR a k ver o s nx (some r)=⟨r.ver=ver∧o + k≤r.cs.length∧0 < k∧a≠none,partS a k (r.cs.drop o),[s],none,nx⟩:=rfl
@[go_sem] theorem ldV_rp (a H cs):ldV a k H nx (.rp cs)=⟨k≤cs.length∧0 < k∧a≠none,partS a k cs,[],none,nx⟩:=rfl
@[go_sem] theorem stV_eq (new):stV k (lookR hp) fz nx (.ptr s ver o) (some new)=stR k ver o s nx fz new (lookR hp s):=rfl
@[go_sem] theorem stR_eq (new):stR k ver o s nx fz new (some r)=⟨r.ver=ver∧o + new.length≤r.cs.length∧new.length=k∧0 < k∧new.all flat=true∧fz.contains s=false,.v undef,[],some (s,⟨r.ver,r.T,r.k,ovw r.cs o new⟩),nx⟩:=rfl
@[go_sem] theorem ovw_eq (cs new:List SV):ovw cs o new=cs.take o ++ new ++ cs.drop (o + new.length):=rfl
section
variable (t u:IntKind) (a c:Int)
@[go_sem] theorem biV_add:biV .add nx (.v (.int t a)) (.v (.int u c))=⟨t=u,.v (.int t (t.wrap (a + c))),[],none,nx⟩:=rfl
@[go_sem] theorem biV_sub:biV .sub nx (.v (.int t a)) (.v (.int u c))=⟨t=u,.v (.int t (t.wrap (a - c))),[],none,nx⟩:=rfl
@[go_sem] theorem biV_mul:biV .mul nx (.v (.int t a)) (.v (.int u c))=⟨t=u,.v (.int t (t.wrap (a * c))),[],none,nx⟩:=rfl
@[go_sem] theorem biV_quo:biV .quo nx (.v (.int t a)) (.v (.int u c))=⟨t=u∧c≠0,.v (.int t (t.wrap (a.tdiv c))),[],none,nx⟩:=rfl
@[go_sem] theorem biV_rem:biV .rem nx (.v (.int t a)) (.v (.int u c))=⟨t=u∧c≠0,.v (.int t (a.tmod c)),[],none,nx⟩:=rfl
@[go_sem] theorem biV_and:biV .and nx (.v (.int t a)) (.v (.int u c))=⟨t=u,.v (.int t (andI t a c)),[],none,nx⟩:=rfl
@[go_sem] theorem biV_or:biV .or nx (.v (.int t a)) (.v (.int u c))=⟨t=u,.v (.int t (orI t a c)),[],none,nx⟩:=rfl
@[go_sem] theorem biV_xor:biV .xor nx (.v (.int t a)) (.v (.int u c))=⟨t=u,.v (.int t (xorI t a c)),[],none,nx⟩:=rfl
@[go_sem] theorem biV_shl:biV .shl nx (.v (.int t a)) (.v (.int u c))=⟨0≤c,.v (.int t (t.wrap (a * 2 ^ min c.toNat t.bits))),[],none,nx⟩:=rfl
@[go_sem] theorem biV_shr:biV .shr nx (.v (.int t a)) (.v (.int u c))=⟨0≤c,.v (.int t (a.fdiv (2 ^ min c.toNat t.bits))),[],none,nx⟩:=rfl
@[go_sem] theorem biV_eql:biV .eql nx (.v (.int t a)) (.v (.int u c))=⟨t=u,.v (.bool (decide (a=c))),[],none,nx⟩:=rfl
@[go_sem] theorem biV_neq:biV .neq nx (.v (.int t a)) (.v (.int u c))=⟨t=u,.v (.bool (!decide (a=c))),[],none,nx⟩:=rfl
@[go_sem] theorem biV_lss:biV .lss nx (.v (.int t a)) (.v (.int u c))=⟨t=u,.v (.bool (decide (a < c))),[],none,nx⟩:=rfl
@[go_sem] theorem biV_leq:biV .leq nx (.v (.int t a)) (.v (.int u c))=⟨t=u,.v (.bool (decide (a≤c))),[],none,nx⟩:=rfl
@[go_sem] theorem biV_gtr:biV .gtr nx (.v (.int t a)) (.v (.int u c))=⟨t=u,.v (.bool (decide (c < a))),[],none,nx⟩:=rfl
@[go_sem] theorem biV_geq:biV .geq nx (.v (.int t a)) (.v (.int u c))=⟨t=u,.v (.bool (decide (c≤a))),[],none,nx⟩:=rfl
@[go_sem] theorem biX_int (op T):biX op nx T (.v (.int t a)) (.v (.int u c))=biV op nx (.v (.int t a)) (.v (.int u c)):=by unfold biX;split <;> first | rfl | (rename_i h1 h2;cases h1)
@[go_sem] theorem biX_flt (op T p q i j):biX op nx T (.v (.float p i)) (.v (.float q j))=biV op nx (.v (.float p i)) (.v (.float q j)):=by unfold biX;split <;> first | rfl | (rename_i h1 h2;cases h1)
@[go_sem] theorem biX_str (op T p q):biX op nx T (.v (.string p)) (.v (.string q))=biV op nx (.v (.string p)) (.v (.string q)):=by unfold biX;split <;> first | rfl | (rename_i h1 h2;cases h1)
@[go_sem] theorem biX_eql (c d:Bool):biX .eql nx (some .bool) (.v (.bool c)) (.v (.bool d))=⟨True,.v (.bool (c==d)),[],none,nx⟩:=rfl
@[go_sem] theorem biX_neq (c d:Bool):biX .neq nx (some .bool) (.v (.bool c)) (.v (.bool d))=⟨True,.v (.bool (!(c==d))),[],none,nx⟩:=rfl
@[go_sem] theorem biV_feql (p q i j):biV .eql nx (.v (.float p i)) (.v (.float q j))=⟨p=q,.v (.bool (p.format.order i j==some .eq)),[],none,nx⟩:=rfl
@[go_sem] theorem biV_fneq (p q i j):biV .neq nx (.v (.float p i)) (.v (.float q j))=⟨p=q,.v (.bool (p.format.order i j !=some .eq)),[],none,nx⟩:=rfl
@[go_sem] theorem biV_seql (p q):biV .eql nx (.v (.string p)) (.v (.string q))=⟨True,.v (.bool (p.toList==q.toList)),[],none,nx⟩:=rfl
@[go_sem] theorem biV_sneq (p q):biV .neq nx (.v (.string p)) (.v (.string q))=⟨True,.v (.bool (!(p.toList==q.toList))),[],none,nx⟩:=rfl
@[go_sem] theorem biV_sadd (p q:ByteArray):biV .add nx (.v (.string p)) (.v (.string q))=⟨p.size + q.size≤9223372036854775807,.v (.string (p ++ q)),[],none,nx⟩:=rfl
@[go_sem] theorem cvX_int (H A B):cvX P H nx (.v (.int t a)) A B=cvV nx (.v (.int t a)) A B:=rfl
@[go_sem] theorem cvX_sl (H m cs):cvX P H nx (.sl n k cs) (some (.slice m)) (some .string)=cvB k [] True nx (byB cs) (P.underlying m):=rfl
@[go_sem] theorem cvX_own (hp m):cvX P (lookR hp) nx (.own s ver n k) (some (.slice m)) (some .string)=cvR P ver n k s nx m (lookR hp s):=rfl
@[go_sem] theorem cvX_nil (H m):cvX P H nx (.v (.slice none 0 0)) (some (.slice m)) (some .string)=cvB 1 [] True nx (some []) (P.underlying m):=rfl
@[go_sem] theorem cvR_eq (m):cvR P ver n k s nx m (some r)=cvB k [s] (r.ver=ver∧n≤r.cs.length) nx (byB (r.cs.take n)) (P.underlying m):=rfl
@[go_sem] theorem cvB_eq (rd l) (p:Prop):cvB k rd p nx (some l) (some (.int .u8))=⟨k=1∧p,.v (.string ⟨l.toArray⟩),rd,none,nx⟩:=rfl
@[go_sem] theorem unV_not:unV .not nx (.v (.bool b))=⟨True,.v (.bool (!b)),[],none,nx⟩:=rfl
@[go_sem] theorem unV_neg:unV .neg nx (.v (.int t a))=⟨True,.v (.int t (t.wrap (0 - a))),[],none,nx⟩:=rfl
@[go_sem] theorem cvV_eq (T):cvV nx (.v (.int t a)) (some T) (some (.int u))=⟨True,.v (.int u (u.wrap a)),[],none,nx⟩:=rfl
@[go_sem] theorem slO_eq (lo hi T):slO P nx lo hi x T none=slV P nx lo hi x T:=rfl
@[go_sem] theorem slV_eq (lo hi m cs):slV P nx lo hi (.sl n k cs) (some (.slice m))={ slB n k cs nx (bnd lo 0) (bnd hi n) with p:=(szT P m=k∧k≠0)∧(slB n k cs nx (bnd lo 0) (bnd hi n)).p }:=rfl
@[go_sem] theorem slB_eq (cs):slB n k cs nx (some a) (some c)=⟨0≤a∧a≤c∧c≤n,.sl (c - a).toNat k ((cs.drop (a.toNat * k)).take ((c - a).toNat * k)),[],none,nx⟩:=rfl
@[go_sem] theorem bnd_none:bnd none a=some a:=rfl
@[go_sem] theorem bnd_v:bnd (some (.v (.int t a))) c=some a:=rfl
@[go_sem] theorem iaV_sl (cs m):iaV P nx (.sl n k cs) (.v (.int t a)) (some (.slice m))=⟨(szT P m=k∧k≠0)∧0≤a∧a < n,.rp (sub cs a.toNat k),[],none,nx⟩:=rfl
@[go_sem] theorem iaV_own (m):iaV P nx (.own s ver n k) (.v (.int t a)) (some (.slice m))=⟨(szT P m=k∧k≠0)∧0≤a∧a < n,.ptr s ver (a.toNat * k),[],none,nx⟩:=rfl
end
@[go_sem] theorem lnV_sl (cs m):lnV nx (.sl n k cs) (some (.slice m))=⟨True,.v (.int .i64 n),[],none,nx⟩:=rfl
@[go_sem] theorem lnV_own (m):lnV nx (.own s ver n k) (some (.slice m))=⟨True,.v (.int .i64 n),[],none,nx⟩:=rfl
@[go_sem] theorem lnV_nil (a c m):lnV nx (.v (.slice a n c)) (some (.slice m))=⟨True,.v (.int .i64 n),[],none,nx⟩:=rfl
@[go_sem] theorem biC_len (H f T) (x':Operand):biC P d fz H nx f .len [x'] [T]=lnV nx (f x') (P.underlying T):=rfl
@[go_sem] theorem biC_ap (H f a c T U):biC P d fz H nx f .append [a,c] [T,U]=apB P d H fz nx (f c) (f a) (P.underlying T) (inT (P.underlying U)):=rfl
@[go_sem] theorem apB_f (H T):apB P d H fz nx x y T false=apD P d H fz nx x y (elT T):=rfl
@[go_sem] theorem elT_eq (m):elT (some (.slice m))=some m:=rfl
@[go_sem] theorem inT_sl (m):inT (some (.slice m))=false:=rfl
@[go_sem] theorem inT_str:inT (some .string)=false:=rfl
@[go_sem] theorem apD_own (H m):apD P d H fz nx x (.own s ver n k) (some m)=apR P ver n k s nx fz m (srV k H x) (H s):=rfl
@[go_sem] theorem apD_nil (H m):apD P d H fz nx x (.v (.slice none 0 0)) (some m)=apN P d (szT P m) nx m (srV (szT P m) H x):=rfl
@[go_sem] theorem apR_eq (m S):apR P ver n k s nx fz m S (some r)=⟨r.ver=ver∧r.cs.length=n * k∧fz.contains s=false∧r.T=m∧r.k=k∧okT P m k∧S.k=k∧S.p∧S.cs.all flat=true∧(n + S.m) * byT P m≤140737488355328∧n + S.m≤140737488355328,.own s nx (n + S.m) k,s :: S.rd,some (s,⟨nx,m,k,r.cs ++ S.cs⟩),nx + 1⟩:=rfl
@[go_sem] theorem apN_eq (m S):apN P d k nx m S=⟨okT P m k∧S.k=k∧S.p∧S.cs.all flat=true∧S.m * byT P m≤140737488355328∧S.m≤140737488355328,.own d nx S.m k,S.rd,some (d,⟨nx,m,k,S.cs⟩),nx + 1⟩:=rfl
@[go_sem] theorem srV_sl (H m cs):srV n H (.sl m k cs)=⟨m,k,cs,[],True⟩:=rfl
@[go_sem] theorem srV_own (H m):srV n H (.own s ver m k)=srR s ver m k (H s):=rfl
@[go_sem] theorem srR_eq (m):srR s ver m k (some r)=⟨m,k,r.cs.take (m * k),[s],r.ver=ver∧m * k≤r.cs.length⟩:=rfl
@[go_sem] theorem srV_nil (H):srV n H (.v (.slice none 0 0))=⟨0,n,[],[],True⟩:=rfl
@[go_sem] theorem srV_str (H c):srV n H (.v (.string c))=⟨c.size,1,c.data.toList.map fun b=>.v (.int .u8 b.toNat),[],True⟩:=rfl
@[go_sem] theorem mkV_eq (t' u' a c m):mkV P d nx (.v (.int t' a)) (.v (.int u' c)) (some (.slice m))=mkZ P d nx m a.toNat (c=a∧0≤a) (zcT P m):=rfl
@[go_sem] theorem mkZ_eq (m t' z) (p:Prop):mkZ P d nx m n p (some (.int t' z))=⟨p∧okT P m 1∧n * byT P m≤140737488355328∧n≤140737488355328,.own d nx n 1,[],some (d,⟨nx,m,1,List.replicate n (.v (.int t' z))⟩),nx + 1⟩:=rfl
@[go_sem] theorem okT_eq (m):okT P m k=(szT P m=k∧0 < k∧(zcT P m).map (·.cells.size)=some k):=rfl
@[go_sem] theorem byT_eq (m):byT P m=match (typeInfo m).run P default with | .ok i _=>i.bytes | _=>0:=rfl
def bsF (P:Program) (d nx len m:Nat):Option (List SV)→Rs
 | some cs=>⟨szT P m≠0∧len * szT P m≤16777216∧zcT P m≠none,.own d nx len (szT P m),[],some (d,⟨nx,m,szT P m,cs⟩),nx + 1⟩
 | none=>bad nx
@[go_sem] theorem bsV_eq (m ps):bsV P d nx n ps (some (.slice m))=bsF P d nx n m (fillS (fun i=>some (i * szT P m,szT P m)) (List.replicate (n * szT P m) .any) ps):=by
 cases h:fillS (fun i=>some (i * szT P m,szT P m)) (List.replicate (n * szT P m) .any) ps <;> simp [bsV,bsF,h]
@[go_sem] theorem bsF_eq (m cs):bsF P d nx n m (some cs)=⟨szT P m≠0∧n * szT P m≤16777216∧zcT P m≠none,.own d nx n (szT P m),[],some (d,⟨nx,m,szT P m,cs⟩),nx + 1⟩:=rfl
@[go_sem] theorem biC_min (H f a c ts):biC P d fz H nx f .min [a,c] ts=mmV false nx (f a) (f c):=rfl
@[go_sem] theorem biC_max (H f a c ts):biC P d fz H nx f .max [a,c] ts=mmV true nx (f a) (f c):=rfl
@[go_sem] theorem mmV_f (t u a c):mmV false nx (.v (.int t a)) (.v (.int u c))=⟨t=u,.v (.int t (min a c)),[],none,nx⟩:=rfl
@[go_sem] theorem mmV_t (t u a c):mmV true nx (.v (.int t a)) (.v (.int u c))=⟨t=u,.v (.int t (max a c)),[],none,nx⟩:=rfl
@[go_sem] theorem cellsO_agg (cs):cellsO (.agg cs)=some cs:=rfl
@[go_sem] theorem cellsO_vagg (cs):cellsO (.v (.agg cs))=some (cs.toList.map .v):=rfl
@[go_sem] theorem cellsO_int (t a):cellsO (.v (.int t a))=some [.v (.int t a)]:=rfl
@[go_sem] theorem cellsO_bool:cellsO (.v (.bool b))=some [.v (.bool b)]:=rfl
@[go_sem] theorem cellsO_str (a):cellsO (.v (.string a))=some [.v (.string a)]:=rfl
@[go_sem] theorem cellsO_slice (a c):cellsO (.v (.slice a n c))=some [.v (.slice a n c)]:=rfl
@[go_sem] theorem cellsO_ptr0 (a):cellsO (.v (.pointer a))=some [.v (.pointer a)]:=rfl
@[go_sem] theorem cellsO_sl (cs):cellsO (.sl n k cs)=some [.sl n k cs]:=rfl
@[go_sem] theorem cellsO_ptr:cellsO (.ptr s ver o)=some [.ptr s ver o]:=rfl
@[go_sem] theorem cellsO_own:cellsO (.own s ver n k)=some [.own s ver n k]:=rfl
@[go_sem] theorem cellsO_rp (cs):cellsO (.rp cs)=some [.rp cs]:=rfl
@[go_sem] theorem cellsO_s (q):cellsO (.s q)=some [.s q]:=rfl
@[go_sem] theorem flat_int (t a):flat (.v (.int t a))=true:=rfl
@[go_sem] theorem flat_bool:flat (.v (.bool b))=true:=rfl
@[go_sem] theorem flat_str (a):flat (.v (.string a))=true:=rfl
@[go_sem] theorem flat_slice (a c):flat (.v (.slice a n c))=true:=rfl
@[go_sem] theorem flat_ptr0 (a):flat (.v (.pointer a))=true:=rfl
@[go_sem] theorem flat_sl (cs):flat (.sl n k cs)=true:=rfl
@[go_sem] theorem flat_ptr:flat (.ptr s ver o)=true:=rfl
@[go_sem] theorem flat_own:flat (.own s ver n k)=true:=rfl
@[go_sem] theorem flat_rp (cs):flat (.rp cs)=true:=rfl
@[go_sem] theorem flat_s (q):flat (.s q)=true:=rfl
@[go_sem] theorem aw_skip:aw P X e .skip Q σ=Q .normal σ:=rfl
@[go_sem] theorem aw_rgn (id ops):aw P X e (.region id ops b) Q σ=rgn P X e id ops (Q .normal) σ Q b:=rfl
@[go_sem] theorem rgn_f (id ops):rgn P X e id ops K σ Q false=chain P X ops K ops.toList σ [] []:=rfl
@[go_sem] theorem aw_seq (c c'):aw P X e (.seq c c') Q σ=aw P X e c (Th (aw P X e c' Q) Q) σ:=rfl
@[go_sem] theorem aw_cond (c t f):aw P X e (.cond c t f) Q σ=cnd (aw P X e t Q) (aw P X e f Q) σ (ev σ.fr c):=rfl
@[go_sem] theorem aw_block (id c):aw P X e (.block id c) Q σ=aw P X e c (InB id Q) σ:=rfl
@[go_sem] theorem aw_exit (id):aw P X e (.exit id) Q σ=Q (.exit id) σ:=rfl
@[go_sem] theorem aw_ret:aw P X e .ret Q σ=Q .ret σ:=rfl
@[go_sem] theorem aw_loop (c):aw P X e (.loop c) Q σ=AW P X e (.loop c) Q σ:=rfl
@[go_sem] theorem Th_n:Th K Q .normal σ=K σ:=rfl
@[go_sem] theorem Th_e (i):Th K Q (.exit i) σ=Q (.exit i) σ:=rfl
@[go_sem] theorem Th_r:Th K Q .ret σ=Q .ret σ:=rfl
@[go_sem] theorem InB_n (i):InB i Q .normal σ=Q .normal σ:=rfl
@[go_sem] theorem InB_e (i j):InB i Q (.exit j) σ=if j=i then Q .normal σ else Q (.exit j) σ:=rfl
@[go_sem] theorem InB_r (i):InB i Q .ret σ=Q .ret σ:=rfl
@[go_sem] theorem cnd_t (T E:AS→Prop):cnd T E σ (.v (.bool true))=T σ:=by simp [cnd]
@[go_sem] theorem cnd_f (T E:AS→Prop):cnd T E σ (.v (.bool false))=E σ:=by simp [cnd]
@[go_sem] theorem fin_n (rs C vs oo):fin P rs C vs oo .normal σ=endA C vs σ (rs.map (resS P σ)) (oS oo (retS ((rs.map (resS P σ)).map (·.2)))):=rfl
@[go_sem] theorem fin_r (rs C vs oo):fin P rs C vs oo .ret σ=endA C vs σ (rs.map (resS P σ)) (oS oo (retS ((rs.map (resS P σ)).map (·.2)))):=rfl
@[go_sem] theorem oS_f:oS false v=none:=rfl
@[go_sem] theorem oS_tup (cs):oS true (.tup cs)=cs.findSome? oS1:=rfl
@[go_sem] theorem oS_own:oS true (.own s ver n k)=if s < 1000 then some s else none:=rfl
@[go_sem] theorem oS_ptr:oS true (.ptr s ver o)=if s < 1000 then some s else none:=rfl
@[go_sem] theorem oS_v (c):oS true (.v c)=none:=rfl
@[go_sem] theorem oS_sl (cs):oS true (.sl n k cs)=none:=rfl
@[go_sem] theorem oS1_own:oS1 (.own s ver n k)=if s < 1000 then some s else none:=rfl
@[go_sem] theorem oS1_ptr:oS1 (.ptr s ver o)=if s < 1000 then some s else none:=rfl
@[go_sem] theorem oS1_v (c):oS1 (.v c)=none:=rfl
@[go_sem] theorem oS1_sl (cs):oS1 (.sl n k cs)=none:=rfl
@[go_sem] theorem oS1_agg (cs):oS1 (.agg cs)=none:=rfl
@[go_sem] theorem endA_n (rs C vs):endA C vs σ rs none=endK C vs σ rs:=rfl
@[go_sem] theorem endA_s (rs C vs):endA C vs σ rs (some s)=endO C vs s σ rs:=rfl
@[go_sem] theorem endO_eq (rs C vs):endO C vs s σ rs=(resP rs∧lentC σ.hp vs 1000∧σ.fz.contains s=false∧outC C (retX σ.hp s) s (retS (rs.map (·.2))) (lentR (retX σ.hp s) σ.hp vs 1000) (if s < 1000 then lookR σ.hp s else none)):=rfl
@[go_sem] theorem outC_s (C H rows):outC C H s v rows (some r)=C (outS H s r.ver v) (rows ++ [⟨0,r.T,r.k,r.cs.map (cv H 6)⟩]):=rfl
@[go_sem] theorem outS_v (H c):outS H s ver (.v c)=.v c:=rfl
@[go_sem] theorem outS_sl (H cs):outS H s ver (.sl n k cs)=.sl n k cs:=rfl
@[go_sem] theorem outS_agg (H cs):outS H s ver (.agg cs)=.agg (cs.map (cv H 5)):=rfl
@[go_sem] theorem outS_tup (H cs):outS H s ver (.tup cs)=.tup (cs.map (out1 H s ver)):=rfl
@[go_sem] theorem outS_own (H u t):outS H s ver (.own t u n k)=if t=s∧u=ver then .own 2000 0 n k else cv H 6 (.own t u n k):=rfl
@[go_sem] theorem outS_ptr (H u t):outS H s ver (.ptr t u o)=if t=s∧u=ver then .ptr 2000 0 o else cv H 6 (.ptr t u o):=rfl
@[go_sem] theorem out1_v (H c):out1 H s ver (.v c)=.v c:=rfl
@[go_sem] theorem out1_sl (H cs):out1 H s ver (.sl n k cs)=.sl n k cs:=rfl
@[go_sem] theorem out1_agg (H cs):out1 H s ver (.agg cs)=.agg (cs.map (cv H 5)):=rfl
@[go_sem] theorem out1_own (H u t):out1 H s ver (.own t u n k)=if t=s∧u=ver then .own 2000 0 n k else cv H 6 (.own t u n k):=rfl
@[go_sem] theorem out1_ptr (H u t):out1 H s ver (.ptr t u o)=if t=s∧u=ver then .ptr 2000 0 o else cv H 6 (.ptr t u o):=rfl
@[go_sem] theorem retX_eq (s'):retX hp s s'=if s'=s then none else retH hp s':=rfl
@[go_sem] theorem resS_t (t):resS P σ (.tmp t)=(True,look σ.fr t):=rfl
@[go_sem] theorem resS_c (a T):resS P σ (.cell a T)=((ldV (agT P T) (szT P T) (lookR σ.hp) σ.nx (look σ.fr a)).p,(ldV (agT P T) (szT P T) (lookR σ.hp) σ.nx (look σ.fr a)).r):=rfl
@[go_sem] theorem resP_cons (p:Prop) (l):resP ((p,v) :: l)=(p∧resP l):=rfl
@[go_sem] theorem resP_nil:resP []=True:=rfl
@[go_sem] theorem retS_one:retS [v]=v:=rfl
@[go_sem] theorem retS_two (l):retS (v :: x :: l)=.tup (v :: x :: l):=rfl
@[go_sem] theorem lentC_nil:lentC hp [] n=True:=rfl
@[go_sem] theorem lentC_cons (l):lentC hp (k :: l) n=((lookR hp n).map (·.ver)=some k∧lentC hp l (n + 1)):=rfl
@[go_sem] theorem lentR_nil (H):lentR H hp [] n=[]:=rfl
@[go_sem] theorem lentR_cons (H l):lentR H hp (k :: l) n=lnR H (lookR hp n) :: lentR H hp l (n + 1):=rfl
@[go_sem] theorem lnR_eq (H):lnR H (some r)=⟨r.ver,r.T,r.k,r.cs.map (cv H 6)⟩:=rfl
@[go_sem] theorem endK_eq (C vs rs):endK C vs σ rs=(resP rs∧lentC σ.hp vs 1000∧C (cv (retH σ.hp) 6 (retS (rs.map (·.2)))) (lentR (retH σ.hp) σ.hp vs 1000)):=rfl
@[go_sem] theorem retH_eq:retH hp s=if s < 1000 then lookR hp s else none:=rfl
@[go_sem] theorem frzH_eq:frzH hp fs s=if fs.contains s=true∧s < 1000 then lookR hp s else none:=rfl
section
variable (H:Nat→Option Row)
@[go_sem] theorem cv_v (c):cv H (n + 1) (.v c)=.v c:=rfl
@[go_sem] theorem cv_sl (m cs):cv H (n + 1) (.sl m k cs)=.sl m k cs:=rfl
@[go_sem] theorem cv_rp (cs):cv H (n + 1) (.rp cs)=.rp cs:=rfl
@[go_sem] theorem cv_s (q):cv H (n + 1) (.s q)=.s q:=rfl
@[go_sem] theorem cv_agg (cs):cv H (n + 1) (.agg cs)=.agg (cs.map (cv H n)):=rfl
@[go_sem] theorem cv_tup (cs):cv H (n + 1) (.tup cs)=.tup (cs.map (cv H n)):=rfl
def cvO (f:SV→SV) (v m k:Nat):Option Row→SV
 | some r=>if r.ver=v∧r.k=k∧m * k≤r.cs.length then .sl m k ((r.cs.take (m * k)).map f) else .any
 | none=>.any
def cvP (f:SV→SV) (v o:Nat):Option Row→SV
 | some r=>if r.ver=v∧o < r.cs.length then .rp ((r.cs.drop o).map f) else .any
 | none=>.any
@[go_sem] theorem cv_own (m):cv H (n + 1) (.own s ver m k)=cvO (cv H n) ver m k (H s):=by unfold cv cvO;cases H s <;> rfl
@[go_sem] theorem cv_ptr:cv H (n + 1) (.ptr s ver o)=cvP (cv H n) ver o (H s):=by unfold cv cvP;cases H s <;> rfl
@[go_sem] theorem cvO_eq (f m):cvO f ver m k (some r)=if r.ver=ver∧r.k=k∧m * k≤r.cs.length then .sl m k ((r.cs.take (m * k)).map f) else .any:=rfl
@[go_sem] theorem cvP_eq (f):cvP f ver o (some r)=if r.ver=ver∧o < r.cs.length then .rp ((r.cs.drop o).map f) else .any:=rfl
end
@[go_sem] theorem sites_nil:sites n []=[]:=rfl
@[go_sem] theorem sites_ptr (l):sites n (.ptr s ver o :: l)=.ptr n ver o :: sites (n + 1) l:=rfl
@[go_sem] theorem sites_v (c l):sites n (.v c :: l)=.v c :: sites n l:=rfl
@[go_sem] theorem sites_sl (m cs l):sites n (.sl m k cs :: l)=.sl m k cs :: sites n l:=rfl
@[go_sem] theorem sites_agg (cs l):sites n (.agg cs :: l)=.agg cs :: sites n l:=rfl
@[go_sem] theorem sites_rp (cs l):sites n (.rp cs :: l)=.rp cs :: sites n l:=rfl
@[go_sem] theorem sites_s (q l):sites n (.s q :: l)=.s q :: sites n l:=rfl
@[go_sem] theorem num_cons {α:Type} (a:α) (l):num n (a :: l)=(n,a) :: num (n + 1) l:=rfl
@[go_sem] theorem num_nil {α:Type}:num n ([]:List α)=[]:=rfl
@[go_sem] theorem szT_eq (T):szT P T=match (sizeOf T).run P default with | .ok n _=>n | _=>0:=rfl
@[go_sem] theorem agT_eq (T):agT P T=match (isAgg T).run P default with | .ok n _=>some n | _=>none:=rfl
@[go_sem] theorem zcT_eq (T):zcT P T=match (zeroValue T).run P default with | .ok n _=>some n | _=>none:=rfl
@[go_sem] theorem blV_s (t ps fs'):blV P t ps nx (some (.struct fs'))=blS P fs' ps nx (zcT P t):=rfl
theorem blS_eq (fs' ps z):blS P fs' ps nx (some z)=match fillS (fun i=>(fs'[i]?).map fun f=>(f.offset,szT P f.type)) (z.cells.toList.map .v) ps with
 | some cs=>pu (fs'.toList.all (fun f=>decide (szT P f.type≠0))=true) (.agg cs) nx
 | none=>bad nx:=rfl
attribute [go_sem] blS_eq
@[go_sem] theorem fillS_nil (pl cs):fillS pl cs []=some cs:=rfl
theorem fillS_cons (pl cs i new rest):fillS pl cs ((i,some new) :: rest)=match pl i with
 | some (off,size)=>if new.length=size∧off + size≤cs.length then fillS pl (ovw cs off new) rest else none
 | none=>none:=rfl
attribute [go_sem] fillS_cons
end
theorem ifk {T E:AS→Prop} {σ:AS} {b:Bool} (h1:b=true→T σ) (h2:b=false→E σ):cnd T E σ (.v (.bool b)):=⟨h1,h2⟩
theorem ifd {T E:AS→Prop} {σ:AS} {p:Prop} [Decidable p] (h1:p→T σ) (h2:¬ p→E σ):cnd T E σ (.v (.bool (decide p))):=⟨fun h=>h1 (of_decide_eq_true h),fun h=>h2 (of_decide_eq_false h)⟩
section
variable {P:Program} {X:Ev} {σ:AS} {dst:Option Tmp} {J:AS→List Nat→List Nat→Prop} {ck:List Nat→List Nat→Prop} {op:Op} {b c oc:Bool}
theorem gdd {p:Prop} [Decidable p] (h1:p→gop P X σ dst op ck J oc b (.v (.bool true))) (h2:¬ p→gop P X σ dst op ck J oc b (.v (.bool false))):gop P X σ dst op ck J oc b (.v (.bool (decide p))):=by
 by_cases h:p
 ·have:=h1 h;rwa [decide_eq_true h]
 ·have:=h2 h;rwa [decide_eq_false h]
theorem ifn {T E:AS→Prop} {σ:AS} {p:Prop} [Decidable p] (h1:¬ p→T σ) (h2:p→E σ):cnd T E σ (.v (.bool (!decide p))):=⟨fun h=>h1 (by simpa using h),fun h=>h2 (by simpa using h)⟩
theorem rg {P:Program} {X:Ev} {e:En} {σ:AS} {ops:Array Oper} {id:Nat} {K:AS→Prop} {Q:Exit→AS→Prop} (hm:P.follows .mixedOrders=true) (hb:drB ops (tab ops)=true) (h:dch P X ops (tab ops) (Q .normal) ops.toList 0 [] σ [] []):rgn P X e id ops K σ Q true:=drawn hm (tab ops) hb h
theorem cl {args:List SV} {f:FuncId} {C:SV→List Row→Prop} (fs L:List Nat) (hac:AC P X f (args.map (arg σ.hp fs L)) (lnt σ.hp fs L) C) (hd:dOk σ.N dst∧lntOk σ.hp σ.fz fs L∧ck fs L) (h:∀ r rows,C r rows→nob ck (dst.getD 0) fs L L rows∧J (σ.called dst fs L r rows) fs (wl (dst.getD 0) L rows)):cal P X ck J dst σ args (some f):=⟨hd.1,fs,L,C,hac,hd.2.1,hd.2.2,fun r rows hC _=>h r rows hC⟩
end
end Am
end Go.Proofs.YtkgbjoepjcenlaaDoor
namespace Go.Proofs.YtkgbjoepjcenlaaDoor
namespace Am
def bys (l:List UInt8):List SV:=l.map fun b=>.v (.int .u8 (b.toNat:Int))
section
variable (l m:List UInt8) (n i:Nat)
@[go_sem] theorem bys_len:(bys l).length=l.length:=by simp [bys]
@[go_sem] theorem bys_nil:bys []=[]:=rfl
@[go_sem] theorem bys_take:(bys l).take n=bys (l.take n):=by simp [bys,List.map_take]
@[go_sem] theorem bys_drop:(bys l).drop n=bys (l.drop n):=by simp [bys,List.map_drop]
@[go_sem] theorem bys_app:bys l ++ bys m=bys (l ++ m):=by simp [bys]
@[go_sem] theorem bys_byB:byB (bys l)=some l:=by
 induction l with
 | nil=>rfl
 | cons c l ih=>
   show (byB (bys l)).map (UInt8.ofNat (c.toNat:Int).toNat :: ·)=_
   rw [ih]
   simp
@[go_sem] theorem bys_flat:(bys l).all flat=true:=by simp [bys,flat]
@[go_sem] theorem bys_fl:(bys l).all fl0=true:=by simp [bys,fl0]
@[go_sem] theorem bys_cv (H):(bys l).map (cv H (n + 1))=bys l:=by simp [bys,cv]
@[go_sem] theorem bys_sub (h:i < l.length):sub (bys l) i 1=[.v (.int .u8 (l[i].toNat:Int))]:=by
 unfold sub bys
 rw [Nat.mul_one,List.drop_eq_getElem_cons (by simpa using h)]
 simp
end
abbrev iv (n:Int):SV:=.v (.int .i64 n)
abbrev bov (b:Bool):SV:=.v (.bool b)
end Am
end Go.Proofs.YtkgbjoepjcenlaaDoor
