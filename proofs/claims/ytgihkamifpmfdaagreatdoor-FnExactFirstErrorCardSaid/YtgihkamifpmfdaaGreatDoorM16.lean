/- Part 16. No condition. -/
import Derived.Test.YtgihkamifpmfdaaGreatDoorM15
namespace Go.Proofs.YtgihkamifpmfdaaGreatDoor
open Go.RowKit
set_option linter.unusedVariables false
set_option linter.unusedSimpArgs false
def upn (f:Nat→AV) (k:Nat) (v:AV):Nat→AV:=fun t=>bif Nat.beq t k then v else f t
theorem B0 (f:Nat→AV) (k:Nat) (v:AV):upn f k v=upd f k v:=by
 funext t
 unfold upn upd
 have:Nat.beq t k=(t==k):=by
  by_cases h:t=k
  ·subst h;simp[Nat.beq_refl]
  ·rw[beq_eq_false_iff_ne.2 h]
   cases hq:Nat.beq t k with
   |false=>rfl
   |true=>exact absurd (Nat.eq_of_beq_eq_true hq) h
 rw[this]
theorem U0 (f:Nat→AV) (k:Nat) (v:AV):upn f k v k=v:=by rw[B0,Aw]
theorem dF (f:Nat→AV) {k t:Nat} (v:AV) (h:t≠k):upn f k v t=f t:=by rw[B0,BE _ _ h]
theorem K3 {lo d k:Nat} {f:Nat→AV} {v:AV} (h1:lo≤k) (h2:k≤d):Dy lo d (upn f k v)=Dy lo d f:=by rw[B0,HI h1 h2]
def fls (c:Cx) (T:Nat):Option (List (Nat×Sh)):=match c.ty T with
 |some { kd:=.st fl,.. }=>some fl
 |_=>none
def elS (c:Cx) (T:Nat):Option Sh:=match c.ty T with
 |some { kd:=.sl _ s,.. }=>some s
 |_=>none
def R3 (c:Cx) (T:Nat):Bool:=match c.ty T with
 |some { kd:=.str,.. }=>true
 |_=>false
def shT (c:Cx) (T:Nat):Option Sh:=(c.ty T).map TI.sh
structure FO (c:Cx) (M:List Nat) (o:Oper) (S S1:St) (sk:Sk):Prop where
 ok:okP c M o S
 nx:nx c M o S=S1
 sk:(B5 c M o S).sk=sk
structure CO (c:Cx) (G:List Nat) (o:Oper) (S S1:St) (sk:Sk):Prop where
 ex:∃(x:Operand) (args:Array Operand) (argTypes:Array TypeId) (g:Nat) (caps:List AV) (fn:Func) (body:Code) (as':List AV) (r:AV),o.op=.call { callee:=.value x,args,argTypes }∧(∀k,o.dst=some k→k<S.n)∧evT c 0 S x=.fn g caps∧okO c 0 x∧CU c.P g fn body∧argTypes.toList.length=args.toList.length∧(∀x∈argTypes.toList.zip args.toList,okO c x.1 x.2)∧(gvn G args.toList).Nodup∧
  (argTypes.toList.zip args.toList).map (fun x=>Cr c G S x.1 x.2)++caps=as'∧(∀h,CS c.P g as' h r h)∧(⟨S.n,B1 (BD S.tm (gvn G args.toList)) o.dst r,S.hp⟩:St)=S1∧(⟨gvn G args.toList,.val⟩:Sk)=sk
theorem Cz {c:Cx} {G:List Nat} {S:St} {T:Nat} {x:Operand} (h:gvn G [x]=[]):Cr c G S T x=evT c T S x:=by
 cases x with
 |tmp t=>
  cases hq:G.contains t with
  |true=>rw[show gvn G [.tmp t]=[t] by simp only[gvn,List.flatMap_cons,List.flatMap_nil,hq,cond_true,List.append_nil]] at h;exact absurd h (by simp)
  |false=>simp only[Cr,hq];rfl
 |_=>rfl
theorem Ch {G:List Nat}:∀{xs:List Operand},gvn G xs=[]→∀x∈xs,gvn G [x]=[]
 |[],_,_,hx=>by simp at hx
 |y::ys,h,x,hx=>by
  have e:gvn G (y::ys)=gvn G [y]++gvn G ys:=by
   cases y with
   |tmp t=>simp only[gvn];cases G.contains t<;>simp
   |_=>simp[gvn]
  rw[e,List.append_eq_nil_iff] at h
  rcases List.mem_cons.1 hx with rfl|hx
  ·exact h.1
  ·exact Ch h.2 x hx
section
variable {c:Cx} {M G:List Nat} {o:Oper} {n:Nat} {f:Nat→AV} {hp:HP} {k t:Nat}
theorem B8 {k n:Nat} (h:Nat.ble (k+1) n=true):k<n:=Nat.le_of_ble_eq_true h
theorem Fml {v:Value} (ho:o.op=.move (.tmp t):=by rfl) (hx:f t=.d (.lf v):=by rfl) (hd:o.dst=some k:=by rfl) (hm:mvB M (some k)=false:=by rfl) (hk:Nat.ble (k+1) n=true:=by rfl):FO c M o ⟨n,f,hp⟩ ⟨n,upn f k (.d (.lf v)),hp⟩ ⟨[],.val⟩:=by
 have hk:=B8 hk
 refine⟨?_,?_,?_⟩
 ·simp only[okP,cls,ho,hd,hm,cond_false];exact⟨fun _ h=>by cases h;exact hk,by simp,trivial⟩
 ·simp only[nx,nxP,cls,val,ho,hd,hm,cond_false,B0,evT,hx,AV.vw,DD.vw,BD,B1]
 ·simp only[B5,Fsk.sk,Ef.kd,cls,ho,hd,hm,cond_false]
theorem Fmv {x y:DD} (ho:o.op=.move (.tmp t):=by rfl) (hx:f t=.d x:=by rfl) (hd:o.dst=some k:=by rfl) (hm:mvB M (some k)=false:=by rfl) (hy:x.vw=y:=by first|(simp[-List.map_take];rfl)|rfl) (hk:Nat.ble (k+1) n=true:=by rfl):FO c M o ⟨n,f,hp⟩ ⟨n,upn f k (.d y),hp⟩ ⟨[],.val⟩:=by
 have hk:=B8 hk
 subst hy
 refine⟨?_,?_,?_⟩
 ·simp only[okP,cls,ho,hd,hm,cond_false];exact⟨fun _ h=>by cases h;exact hk,by simp,trivial⟩
 ·simp only[nx,nxP,cls,val,ho,hd,hm,cond_false,B0,evT,hx,AV.vw,DD.vw,BD,B1]
 ·simp only[B5,Fsk.sk,Ef.kd,cls,ho,hd,hm,cond_false]
theorem Fac {v:Value} {y:Value} (ho:o.op=.assign (.const v):=by rfl) (hv:cst c o.type v=.d (.lf y):=by rfl) (hd:o.dst=some k:=by rfl) (hok:okO c o.type (.const v):=by first|trivial|(simp;done)|fail) (hk:Nat.ble (k+1) n=true:=by rfl):FO c M o ⟨n,f,hp⟩ ⟨n,upn f k (.d (.lf y)),hp⟩ ⟨[],.val⟩:=by
 have hk:=B8 hk
 refine⟨?_,?_,?_⟩
 ·simp only[okP,cls,ho,hd,tmO];exact⟨fun _ h=>by cases h;exact hk,by simp,hok⟩
 ·simp only[nx,nxP,cls,val,ho,hd,B0,tkT,hv,tmO,BD,B1]
 ·simp[B5,Fsk.sk,Ef.kd,cls,ho]
theorem Fmc {v:Value} {y:Value} (ho:o.op=.move (.const v):=by rfl) (hv:cst c o.type v=.d (.lf y):=by rfl) (hd:o.dst=some k:=by rfl) (hok:okO c o.type (.const v):=by first|trivial|(simp;done)|fail) (hk:Nat.ble (k+1) n=true:=by rfl):FO c M o ⟨n,f,hp⟩ ⟨n,upn f k (.d (.lf y)),hp⟩ ⟨[],.val⟩:=by
 have hk:=B8 hk
 have e:(bif mvB M (some k) then tmO (Operand.const v) else [])=[]:=by cases mvB M (some k)<;>rfl
 have e2:(bif mvB M (some k) then tkT c o.type ⟨n,f,hp⟩ (.const v) else evT c o.type ⟨n,f,hp⟩ (.const v))=cst c o.type v:=by cases mvB M (some k)<;>rfl
 refine⟨?_,?_,?_⟩
 ·simp only[okP,cls,ho,hd,e];exact⟨fun _ h=>by cases h;exact hk,by simp,hok⟩
 ·simp only[nx,nxP,cls,val,ho,hd,B0,e,e2,hv,BD,B1]
 ·simp only[B5,Fsk.sk,Ef.kd,cls,ho,hd,e]
theorem Fal {v:Value} (ho:o.op=.assign (.tmp t):=by rfl) (hx:f t=.d (.lf v):=by rfl) (hd:o.dst=some k:=by rfl) (hk:Nat.ble (k+1) n=true:=by rfl):FO c M o ⟨n,f,hp⟩ ⟨n,upn f k (.d (.lf v)),hp⟩ ⟨[t],.val⟩:=by
 have hk:=B8 hk
 have e:BD f [t]=f:=by
  funext q;rw[DQ];split
  ·rename_i h;simp only[List.mem_singleton] at h;subst h;rw[hx];rfl
  ·rfl
 refine⟨?_,?_,?_⟩
 ·simp[okP,cls,ho,hd,hk]
 ·simp only[nx,nxP,cls,val,ho,hd,B0,tkT,hx,tmO,e,B1]
 ·simp[B5,Fsk.sk,Ef.kd,cls,ho]
theorem FfE {T i:Nat} {fs:List DD} {fl:List (Nat×Sh)} {x:DD} (ho:o.op=.fieldAddr T (.tmp t) i:=by rfl) (hx:f t=.el (.st fs):=by rfl) (hd:o.dst=some k:=by rfl) (hi:fs[i]? =some x:=by rfl) (hT:fls c T=some fl:=by rfl) (hs:DD.shs fs=fl.map Prod.snd:=by first|rfl|(simp;done)|fail) (hk:Nat.ble (k+1) n=true:=by rfl):FO c M o ⟨n,f,hp⟩ ⟨n,upn f k (.el x),hp⟩ ⟨[],.val⟩:=by
 have hk:=B8 hk
 have hl:i<fl.length:=by
  have h1:=(List.getElem?_eq_some_iff.1 hi).1
  have h2:=congrArg List.length hs
  simp[DD.shs_eq] at h2;omega
 unfold fls at hT
 split at hT
 ·rename_i sh b z zc fl' he
  cases hT
  have hg:fs.getD i default=x:=by rw[List.getD_eq_getElem?_getD,hi];rfl
  refine⟨?_,?_,?_⟩
  ·simp[okP,cls,ho,hd,hk,he,hx,hs,hl]
  ·simp only[nx,nxP,cls,val,ho,hd,B0,evT,hx,AV.vw,TM,hg,BD,B1]
  ·simp[B5,Fsk.sk,Ef.kd,cls,ho,hx]
 ·cases hT
theorem FfP {T i lv q:Nat} {fs:List DD} {fl:List (Nat×Sh)} (ho:o.op=.fieldAddr T (.tmp t) i:=by rfl) (hx:f t=.pt lv q []:=by rfl) (hd:o.dst=some k:=by rfl) (hc:hpg hp lv q=some (.d (.st fs)):=by rfl) (hT:fls c T=some fl:=by rfl) (hi:Nat.ble (i+1) fl.length=true:=by rfl) (hs:DD.shs fs=fl.map Prod.snd:=by first|rfl|(simp;done)|fail) (hk:Nat.ble (k+1) n=true:=by rfl):FO c M o ⟨n,f,hp⟩ ⟨n,upn f k (.pt lv q [i]),hp⟩ ⟨[],.ld lv q⟩:=by
 have hk:=B8 hk
 have hi:=B8 hi
 unfold fls at hT
 split at hT
 ·rename_i sh b z zc fl' he
  cases hT
  have h2:(DD.shs fs)[i]? =some ((fl.map Prod.snd)[i]'(by simpa using hi)):=by rw[hs];exact List.getElem?_eq_getElem _
  refine⟨?_,?_,?_⟩
  ·simp only[okP,cls,ho,hd,he,okO,evT,hx,AV.vw,hc]
   refine⟨fun _ h=>by cases h;exact hk,by simp,trivial,hi,_,rfl,fun off h=> ?_⟩
   simp only[DD.sh,C8,Option.some.injEq,List.nil_append] at h ⊢
   subst h
   rw[h2]
   simp[EB,hs]
  ·simp[nx,nxP,cls,val,ho,hd,B0,hx]
  ·simp[B5,Fsk.sk,Ef.kd,cls,ho,hx]
 ·cases hT
theorem FlE {T:Nat} {y:DD} (ho:o.op=.load T (.tmp t):=by rfl) (hx:f t=.el y:=by rfl) (hd:o.dst=some k:=by rfl) (hs:shT c T=some y.sh:=by first|rfl|(simp[shT];done)|fail) (hk:Nat.ble (k+1) n=true:=by rfl):FO c M o ⟨n,f,hp⟩ ⟨n,upn f k (.d y),hp⟩ ⟨[],.val⟩:=by
 have hk:=B8 hk
 unfold shT at hs
 cases he:c.ty T with
 |none=>rw[he] at hs;cases hs
 |some ti=>
  rw[he] at hs
  simp only[Option.map_some,Option.some.injEq] at hs
  refine⟨?_,?_,?_⟩
  ·simp[okP,cls,ho,hd,hk,he,hx,hs]
  ·simp[nx,nxP,cls,val,ho,hd,B0,hx]
  ·simp[B5,Fsk.sk,Ef.kd,cls,ho,hx]
theorem FlP {T lv q:Nat} {p:List Nat} {cn:AV} {x y:DD} (ho:o.op=.load T (.tmp t):=by rfl) (hx:f t=.pt lv q p:=by rfl) (hd:o.dst=some k:=by rfl) (hm:mvB M (some k)=false:=by rfl) (hc:hpg hp lv q=some cn:=by rfl) (hr:rdA cn p=.d x:=by rfl) (hs:shT c T=some x.sh:=by first|rfl|(simp[shT];done)|fail) (hy:x.vw=y:=by first|(simp[-List.map_take];rfl)|rfl) (hk:Nat.ble (k+1) n=true:=by rfl):FO c M o ⟨n,f,hp⟩ ⟨n,upn f k (.d y),hp⟩ ⟨[],.ld lv q⟩:=by
 have hk:=B8 hk
 subst hy
 unfold shT at hs
 cases he:c.ty T with
 |none=>rw[he] at hs;cases hs
 |some ti=>
  rw[he] at hs
  simp only[Option.map_some,Option.some.injEq] at hs
  refine⟨?_,?_,?_⟩
  ·simp only[okP,cls,ho,hd,he,okO,evT,hx,AV.vw,hc,hr,AV.csh,hs,hm]
   exact⟨fun _ h=>by cases h;exact hk,by simp,trivial,trivial,fun h=>by cases h⟩
  ·simp only[nx,ho,hd,evT,hx,AV.vw,hc,hm,ldX,hr,cond_false,B0,B1]
  ·simp only[B5,ho,hd,evT,hx,AV.vw,hc,hm,cond_false,Fsk.sk,Ef.kd]
theorem FxE {T j m:Nat} {ob:Bool} {s:Sh} {es:List DD} {α:Type} {l:List α} {g:α→DD} {kk:IntKind} {y:DD} (ho:o.op=.indexAddr T (.tmp t) (.tmp j):=by rfl) (hx:f t=.d (.sl ob s es):=by rfl) (hj:f j=.d (.lf (.int kk (m:Int))):=by rfl) (hd:o.dst=some k:=by rfl) (hv:DD.vws es=l.map g:=by first|(simp[-List.map_take];rfl)|rfl) (hT:elS c T=some s:=by rfl) (hm:m<l.length:=by first|assumption|omega|(simp[H];done)|grind) (hy:g (l[m]'hm)=y:=by first|(simp[-List.map_take];rfl)|rfl) (hk:Nat.ble (k+1) n=true:=by rfl):FO c M o ⟨n,f,hp⟩ ⟨n,upn f k (.el y),hp⟩ ⟨[],.val⟩:=by
 have hk:=B8 hk
 subst hy
 unfold elS at hT
 split at hT
 ·rename_i sh b z zc e s' he
  cases hT
  have hg:(l.map g).getD m default=g l[m]:=Nw hm
  refine⟨?_,?_,?_⟩
  ·simp[okP,cls,ho,hd,hk,he,hx,hj,hv,So,hm]
  ·simp[nx,nxP,cls,val,ho,hd,B0,hx,hj,hv,hm]
  ·simp[B5,Fsk.sk,Ef.kd,cls,ho,hx]
 ·cases hT
theorem Fln {T m:Nat} {ob:Bool} {s:Sh} {es:List DD} (ho:o.op=.call { callee:=.builtin .len,args:= #[.tmp t],argTypes:= #[T] }:=by rfl) (hx:f t=.d (.sl ob s es):=by rfl) (hd:o.dst=some k:=by rfl) (hT:(elS c T).isSome=true:=by rfl) (hm:es.length=m:=by first|(simp[-List.map_take];rfl)|rfl) (hk:Nat.ble (k+1) n=true:=by rfl):FO c M o ⟨n,f,hp⟩ ⟨n,upn f k (dI' m),hp⟩ ⟨[],.val⟩:=by
 have hk:=B8 hk
 subst hm
 unfold elS at hT
 split at hT
 ·rename_i sh b z zc e s' he
  refine⟨?_,?_,?_⟩
  ·simp[okP,cls,ho,hd,hk,he,hx]
  ·simp[nx,nxP,cls,val,ho,hd,B0,hx,DD.vws_eq]
  ·simp[B5,Fsk.sk,Ef.kd,cls,ho]
 ·cases hT
theorem Fls {T:Nat} {s:BA'} (ho:o.op=.call { callee:=.builtin .len,args:= #[.tmp t],argTypes:= #[T] }:=by rfl) (hx:f t=dS' s:=by rfl) (hd:o.dst=some k:=by rfl) (hT:R3 c T=true:=by rfl) (hk:Nat.ble (k+1) n=true:=by rfl):FO c M o ⟨n,f,hp⟩ ⟨n,upn f k (dI' (s.size:Int)),hp⟩ ⟨[],.val⟩:=by
 have hk:=B8 hk
 unfold R3 at hT
 split at hT
 ·rename_i he
  refine⟨?_,?_,?_⟩
  ·simp[okP,cls,ho,hd,hk,he,hx]
  ·simp[nx,nxP,cls,val,ho,hd,B0,hx]
  ·simp[B5,Fsk.sk,Ef.kd,cls,ho]
 ·cases hT
theorem Fbi {op:BinOp} {T yT:Nat} {x y:Operand} {u v w:Value} (ho:o.op=.binOp op T x y yT:=by rfl) (hx:evT c 0 ⟨n,f,hp⟩ x=.d (.lf u):=by rfl) (hy:evT c 0 ⟨n,f,hp⟩ y=.d (.lf v):=by rfl) (hd:o.dst=some k:=by rfl) (hb:okB op u v:=by first|rfl|trivial) (ox:okO c 0 x:=by first|trivial|(simp;done)|fail) (oy:okO c 0 y:=by first|trivial|(simp;done)|fail) (hv:FN op u v=w:=by first|(simp(disch:=first|(simp;done)|omega) [H,BH];rfl)|rfl) (hk:Nat.ble (k+1) n=true:=by rfl):FO c M o ⟨n,f,hp⟩ ⟨n,upn f k (.d (.lf w)),hp⟩ ⟨[],.val⟩:=by
 have hk:=B8 hk
 subst hv
 refine⟨?_,?_,?_⟩
 ·simp only[okP,cls,ho,hd,hx,hy];exact⟨fun _ h=>by cases h;exact hk,by simp,ox,oy,.inl hb⟩
 ·simp only[nx,nxP,cls,val,ho,hd,B0,hx,hy,BD,B1]
 ·simp[B5,Fsk.sk,Ef.kd,cls,ho]
theorem Fnt {T:Nat} {x:Operand} {b:Bool} (ho:o.op=.unOp .not T x:=by rfl) (hx:evT c 0 ⟨n,f,hp⟩ x=dB' b:=by rfl) (hd:o.dst=some k:=by rfl) (ox:okO c 0 x:=by trivial) (hk:Nat.ble (k+1) n=true:=by rfl):FO c M o ⟨n,f,hp⟩ ⟨n,upn f k (dB' (!b)),hp⟩ ⟨[],.val⟩:=by
 have hk:=B8 hk
 refine⟨?_,?_,?_⟩
 ·simp only[okP,cls,ho,hd,hx,AV.bl];exact⟨fun _ h=>by cases h;exact hk,by simp,ox,trivial⟩
 ·simp only[nx,nxP,cls,val,ho,hd,B0,hx,BD,B1]
 ·simp[B5,Fsk.sk,Ef.kd,cls,ho]
theorem Fpt {g x y:Operand} {v:DD} (ho:o.op=.pick g x y:=by rfl) (hg:evT c 0 ⟨n,f,hp⟩ g=dB' true:=by rfl) (hx:evT c o.type ⟨n,f,hp⟩ x=.d v:=by rfl) (hd:o.dst=some k:=by rfl) (og:okO c 0 g:=by trivial) (ox:okO c o.type x:=by trivial) (oy:okO c o.type y:=by trivial) (hk:Nat.ble (k+1) n=true:=by rfl):FO c M o ⟨n,f,hp⟩ ⟨n,upn f k (.d v),hp⟩ ⟨[],.val⟩:=by
 have hk:=B8 hk
 have hv:val c M o ⟨n,f,hp⟩=.d v:=by
  simp only[val,ho,hg,hx]
  split<;>simp_all
 refine⟨?_,?_,?_⟩
 ·simp only[okP,hv];simp only[cls,ho,hd,hg,hx];exact⟨fun _ h=>by cases h;exact hk,by simp,og,ox,oy,rfl⟩
 ·have:nx c M o ⟨n,f,hp⟩=nxP c M o ⟨n,f,hp⟩:=by simp only[nx,ho]
  rw[this];simp only[nxP,hv];simp only[cls,ho,hd,B0,BD,B1]
 ·simp only[B5,Fsk.sk,Ef.kd,cls,ho]
theorem Fpf {g x y:Operand} {v:DD} (ho:o.op=.pick g x y:=by rfl) (hg:evT c 0 ⟨n,f,hp⟩ g=dB' false:=by rfl) (hx:evT c o.type ⟨n,f,hp⟩ y=.d v:=by rfl) (hd:o.dst=some k:=by rfl) (og:okO c 0 g:=by trivial) (ox:okO c o.type x:=by trivial) (oy:okO c o.type y:=by trivial) (hk:Nat.ble (k+1) n=true:=by rfl):FO c M o ⟨n,f,hp⟩ ⟨n,upn f k (.d v),hp⟩ ⟨[],.val⟩:=by
 have hk:=B8 hk
 have hv:val c M o ⟨n,f,hp⟩=.d v:=by
  simp only[val,ho,hg,hx]
  split<;>simp_all
 refine⟨?_,?_,?_⟩
 ·simp only[okP,hv];simp only[cls,ho,hd,hg,hx];exact⟨fun _ h=>by cases h;exact hk,by simp,og,ox,oy,rfl⟩
 ·have:nx c M o ⟨n,f,hp⟩=nxP c M o ⟨n,f,hp⟩:=by simp only[nx,ho]
  rw[this];simp only[nxP,hv];simp only[cls,ho,hd,B0,BD,B1]
 ·simp only[B5,Fsk.sk,Ef.kd,cls,ho]
theorem Fex {i:Nat} {lv:List AV} {x y:DD} (ho:o.op=.extract (.tmp t) i:=by rfl) (hx:f t=.tp lv:=by rfl) (hd:o.dst=some k:=by rfl) (hm:mvB M (some k)=false:=by rfl) (hi:lv[i]? =some (.d x):=by rfl) (hy:x.vw=y:=by first|(simp[-List.map_take];rfl)|rfl) (hk:Nat.ble (k+1) n=true:=by rfl):FO c M o ⟨n,f,hp⟩ ⟨n,upn f k (.d y),hp⟩ ⟨[],.val⟩:=by
 have hk:=B8 hk
 subst hy
 have hl:=(List.getElem?_eq_some_iff.1 hi).1
 have e:∀l:List AV,(AV.vws l)=l.map AV.vw:=fun l=>by induction l with
  |nil=>rfl
  |cons a l ih=>simp[AV.vws,ih]
 have hg:(AV.vws lv).getD i .un=.d x.vw:=by rw[e,List.getD_eq_getElem?_getD,List.getElem?_map,hi];rfl
 refine⟨?_,?_,?_⟩
 ·simp[okP,cls,ho,hd,hk,hx,AV.vws_length,hl]
 ·simp only[nx,nxP,cls,val,ho,hd,B0,evT,hx,AV.vw,hg,BD,B1]
 ·simp[B5,Fsk.sk,Ef.kd,cls,ho]
theorem Fis {T m:Nat} {x i:Operand} {s:BA'} {kk:IntKind} (ho:o.op=.index T x i:=by rfl) (hx:evT c 0 ⟨n,f,hp⟩ x=dS' s:=by rfl) (hj:evT c 0 ⟨n,f,hp⟩ i=.d (.lf (.int kk (m:Int))):=by rfl) (hd:o.dst=some k:=by rfl) (hT:R3 c T=true:=by rfl) (hm:m<s.size:=by first|assumption|omega|(simp[H];done)|grind) (ox:okO c 0 x:=by trivial) (oi:okO c 0 i:=by first|trivial|(simp;done)|fail) (hk:Nat.ble (k+1) n=true:=by rfl):FO c M o ⟨n,f,hp⟩ ⟨n,upn f k (.d (.lf (.int .u8 ((bt s m:Nat):Int)))),hp⟩ ⟨[],.val⟩:=by
 have hk:=B8 hk
 unfold R3 at hT
 split at hT
 ·rename_i he
  refine⟨?_,?_,?_⟩
  ·simp only[okP,cls,ho,hd,he,hx,hj,So,Int.toNat_natCast];exact⟨fun _ h=>by cases h;exact hk,by simp,ox,oi,by omega,hm⟩
  ·simp only[nx,nxP,cls,val,ho,hd,B0,hx,hj,BD,B1,Int.toNat_natCast,bt]
  ·simp[B5,Fsk.sk,Ef.kd,cls,ho]
 ·cases hT
theorem Fsl {T m:Nat} {j:Nat} {ob:Bool} {s:Sh} {es:List DD} {α:Type} {l:List α} {g:α→DD} {kk:IntKind} (ho:o.op=.slice T (.tmp t) none (some (.tmp j)) none:=by rfl) (hx:f t=.d (.sl ob s es):=by rfl) (hj:f j=.d (.lf (.int kk (m:Int))):=by rfl) (hd:o.dst=some k:=by rfl) (hv:DD.vws es=l.map g:=by first|(simp[-List.map_take];rfl)|rfl) (hT:elS c T=some s:=by rfl) (hm:m≤l.length:=by first|assumption|omega|(simp[H];done)|grind) (hk:Nat.ble (k+1) n=true:=by rfl):FO c M o ⟨n,f,hp⟩ ⟨n,upn f k (.d (.sl false s ((l.take m).map g))),hp⟩ ⟨[],.val⟩:=by
 have hk:=B8 hk
 unfold elS at hT
 split at hT
 ·rename_i sh b z zc e s' he
  cases hT
  refine⟨?_,?_,?_⟩
  ·simp only[okP,cls,ho,hd,he,evT,hx,AV.vw,DD.vw,hv]
   exact⟨fun _ h=>by cases h;exact hk,by simp,trivial,trivial,trivial,trivial,0,m,.i64,rfl,.inr ⟨kk,by simp[evT,hj]⟩,Nat.zero_le _,by simpa using hm⟩
  ·simp[nx,nxP,cls,val,ho,hd,B0,hx,hj,hv,List.map_take]
  ·simp[B5,Fsk.sk,Ef.kd,cls,ho]
 ·cases hT
theorem C1 {g T1:Nat} {x1:Operand} {d1 y1:DD} {pre:Prop} {r r':AV} (ho:o.op=.call { callee:=.value (.func g),args:= #[x1],argTypes:= #[T1] }:=by rfl) (hd:o.dst=some k:=by rfl) (hG:gvn G [x1]=[]:=by rfl) (h1:evT c T1 ⟨n,f,hp⟩ x1=.d d1:=by rfl) (e1:d1=y1:=by first|(simp(disch:=first|(simp;done)|omega) [-List.map_take,H,BH];rfl)|rfl) (o1:okO c T1 x1:=by first|trivial|(simp;done)|fail) (hct:Ct c g [.d y1] pre r:=by exact inferInstance) (hp0:pre:=by first|trivial|omega|(simp only[H];done)|(simp only[H];first|trivial|omega|grind)|grind) (er:r=r':=by first|(simp only[H];rfl)|rfl) (hk:Nat.ble (k+1) n=true:=by rfl):CO c G o ⟨n,f,hp⟩ ⟨n,upn f k r',hp⟩ ⟨[],.val⟩:=by
 have hk:=B8 hk
 obtain⟨fn,body,hfn⟩:=hct.ok
 subst e1 er
 exact⟨⟨_,_,_,g,[],fn,body,_,r,ho,fun _ h=>by rw[hd] at h;cases h;exact hk,rfl,trivial,hfn,rfl,fun x hx=>by(simp only[List.zip_cons_cons,List.zip_nil_right,List.mem_cons,List.not_mem_nil,or_false] at hx);rcases hx with rfl<;>assumption,by simp only[hG];exact List.nodup_nil,by simp only[List.zip_cons_cons,List.zip_nil_right,List.map_cons,List.map_nil,List.append_nil,Cz (Ch hG x1 (by simp)),h1],fun h=>hct.cs hp0 h,by simp only[hG,hd,BD,B1,B0],by simp only[hG]⟩⟩
theorem C2 {g T1 T2:Nat} {x1 x2:Operand} {d1 y1 d2 y2:DD} {pre:Prop} {r r':AV} (ho:o.op=.call { callee:=.value (.func g),args:= #[x1,x2],argTypes:= #[T1,T2] }:=by rfl) (hd:o.dst=some k:=by rfl) (hG:gvn G [x1,x2]=[]:=by rfl) (h1:evT c T1 ⟨n,f,hp⟩ x1=.d d1:=by rfl) (e1:d1=y1:=by first|(simp(disch:=first|(simp;done)|omega) [-List.map_take,H,BH];rfl)|rfl) (o1:okO c T1 x1:=by first|trivial|(simp;done)|fail) (h2:evT c T2 ⟨n,f,hp⟩ x2=.d d2:=by rfl) (e2:d2=y2:=by first|(simp(disch:=first|(simp;done)|omega) [-List.map_take,H,BH];rfl)|rfl) (o2:okO c T2 x2:=by first|trivial|(simp;done)|fail) (hct:Ct c g [.d y1,.d y2] pre r:=by exact inferInstance) (hp0:pre:=by first|trivial|omega|(simp only[H];done)|(simp only[H];first|trivial|omega|grind)|grind) (er:r=r':=by first|(simp only[H];rfl)|rfl) (hk:Nat.ble (k+1) n=true:=by rfl):CO c G o ⟨n,f,hp⟩ ⟨n,upn f k r',hp⟩ ⟨[],.val⟩:=by
 have hk:=B8 hk
 obtain⟨fn,body,hfn⟩:=hct.ok
 subst e1 e2 er
 exact⟨⟨_,_,_,g,[],fn,body,_,r,ho,fun _ h=>by rw[hd] at h;cases h;exact hk,rfl,trivial,hfn,rfl,fun x hx=>by(simp only[List.zip_cons_cons,List.zip_nil_right,List.mem_cons,List.not_mem_nil,or_false] at hx);rcases hx with rfl|rfl<;>assumption,by simp only[hG];exact List.nodup_nil,by simp only[List.zip_cons_cons,List.zip_nil_right,List.map_cons,List.map_nil,List.append_nil,Cz (Ch hG x1 (by simp)),Cz (Ch hG x2 (by simp)),h1,h2],fun h=>hct.cs hp0 h,by simp only[hG,hd,BD,B1,B0],by simp only[hG]⟩⟩
theorem C3 {g T1 T2 T3:Nat} {x1 x2 x3:Operand} {d1 y1 d2 y2 d3 y3:DD} {pre:Prop} {r r':AV} (ho:o.op=.call { callee:=.value (.func g),args:= #[x1,x2,x3],argTypes:= #[T1,T2,T3] }:=by rfl) (hd:o.dst=some k:=by rfl) (hG:gvn G [x1,x2,x3]=[]:=by rfl) (h1:evT c T1 ⟨n,f,hp⟩ x1=.d d1:=by rfl) (e1:d1=y1:=by first|(simp(disch:=first|(simp;done)|omega) [-List.map_take,H,BH];rfl)|rfl) (o1:okO c T1 x1:=by first|trivial|(simp;done)|fail) (h2:evT c T2 ⟨n,f,hp⟩ x2=.d d2:=by rfl) (e2:d2=y2:=by first|(simp(disch:=first|(simp;done)|omega) [-List.map_take,H,BH];rfl)|rfl) (o2:okO c T2 x2:=by first|trivial|(simp;done)|fail) (h3:evT c T3 ⟨n,f,hp⟩ x3=.d d3:=by rfl) (e3:d3=y3:=by first|(simp(disch:=first|(simp;done)|omega) [-List.map_take,H,BH];rfl)|rfl) (o3:okO c T3 x3:=by first|trivial|(simp;done)|fail) (hct:Ct c g [.d y1,.d y2,.d y3] pre r:=by exact inferInstance) (hp0:pre:=by first|trivial|omega|(simp only[H];done)|(simp only[H];first|trivial|omega|grind)|grind) (er:r=r':=by first|(simp only[H];rfl)|rfl) (hk:Nat.ble (k+1) n=true:=by rfl):CO c G o ⟨n,f,hp⟩ ⟨n,upn f k r',hp⟩ ⟨[],.val⟩:=by
 have hk:=B8 hk
 obtain⟨fn,body,hfn⟩:=hct.ok
 subst e1 e2 e3 er
 exact⟨⟨_,_,_,g,[],fn,body,_,r,ho,fun _ h=>by rw[hd] at h;cases h;exact hk,rfl,trivial,hfn,rfl,fun x hx=>by(simp only[List.zip_cons_cons,List.zip_nil_right,List.mem_cons,List.not_mem_nil,or_false] at hx);rcases hx with rfl|rfl|rfl<;>assumption,by simp only[hG];exact List.nodup_nil,by simp only[List.zip_cons_cons,List.zip_nil_right,List.map_cons,List.map_nil,List.append_nil,Cz (Ch hG x1 (by simp)),Cz (Ch hG x2 (by simp)),Cz (Ch hG x3 (by simp)),h1,h2,h3],fun h=>hct.cs hp0 h,by simp only[hG,hd,BD,B1,B0],by simp only[hG]⟩⟩
theorem C4 {g T1 T2 T3 T4:Nat} {x1 x2 x3 x4:Operand} {d1 y1 d2 y2 d3 y3 d4 y4:DD} {pre:Prop} {r r':AV} (ho:o.op=.call { callee:=.value (.func g),args:= #[x1,x2,x3,x4],argTypes:= #[T1,T2,T3,T4] }:=by rfl) (hd:o.dst=some k:=by rfl) (hG:gvn G [x1,x2,x3,x4]=[]:=by rfl) (h1:evT c T1 ⟨n,f,hp⟩ x1=.d d1:=by rfl) (e1:d1=y1:=by first|(simp(disch:=first|(simp;done)|omega) [-List.map_take,H,BH];rfl)|rfl) (o1:okO c T1 x1:=by first|trivial|(simp;done)|fail) (h2:evT c T2 ⟨n,f,hp⟩ x2=.d d2:=by rfl) (e2:d2=y2:=by first|(simp(disch:=first|(simp;done)|omega) [-List.map_take,H,BH];rfl)|rfl) (o2:okO c T2 x2:=by first|trivial|(simp;done)|fail) (h3:evT c T3 ⟨n,f,hp⟩ x3=.d d3:=by rfl) (e3:d3=y3:=by first|(simp(disch:=first|(simp;done)|omega) [-List.map_take,H,BH];rfl)|rfl) (o3:okO c T3 x3:=by first|trivial|(simp;done)|fail) (h4:evT c T4 ⟨n,f,hp⟩ x4=.d d4:=by rfl) (e4:d4=y4:=by first|(simp(disch:=first|(simp;done)|omega) [-List.map_take,H,BH];rfl)|rfl) (o4:okO c T4 x4:=by first|trivial|(simp;done)|fail) (hct:Ct c g [.d y1,.d y2,.d y3,.d y4] pre r:=by exact inferInstance) (hp0:pre:=by first|trivial|omega|(simp only[H];done)|(simp only[H];first|trivial|omega|grind)|grind) (er:r=r':=by first|(simp only[H];rfl)|rfl) (hk:Nat.ble (k+1) n=true:=by rfl):CO c G o ⟨n,f,hp⟩ ⟨n,upn f k r',hp⟩ ⟨[],.val⟩:=by
 have hk:=B8 hk
 obtain⟨fn,body,hfn⟩:=hct.ok
 subst e1 e2 e3 e4 er
 exact⟨⟨_,_,_,g,[],fn,body,_,r,ho,fun _ h=>by rw[hd] at h;cases h;exact hk,rfl,trivial,hfn,rfl,fun x hx=>by(simp only[List.zip_cons_cons,List.zip_nil_right,List.mem_cons,List.not_mem_nil,or_false] at hx);rcases hx with rfl|rfl|rfl|rfl<;>assumption,by simp only[hG];exact List.nodup_nil,by simp only[List.zip_cons_cons,List.zip_nil_right,List.map_cons,List.map_nil,List.append_nil,Cz (Ch hG x1 (by simp)),Cz (Ch hG x2 (by simp)),Cz (Ch hG x3 (by simp)),Cz (Ch hG x4 (by simp)),h1,h2,h3,h4],fun h=>hct.cs hp0 h,by simp only[hG,hd,BD,B1,B0],by simp only[hG]⟩⟩
theorem C2f {g T1 T2 q:Nat} {x1 x2:Operand} {d1 y1:DD} {cs cs':List AV} {pre:Prop} {r r':AV} (ho:o.op=.call { callee:=.value (.func g),args:= #[x1,x2],argTypes:= #[T1,T2] }:=by rfl) (hd:o.dst=some k:=by rfl) (hG:gvn G [x1,x2]=[]:=by rfl) (h1:evT c T1 ⟨n,f,hp⟩ x1=.d d1:=by rfl) (h2:evT c T2 ⟨n,f,hp⟩ x2=.fn q cs:=by rfl) (e1:d1=y1:=by first|(simp(disch:=first|(simp;done)|omega) [-List.map_take,H,BH];rfl)|rfl) (e2:cs=cs':=by first|(simp[-List.map_take];rfl)|rfl) (o1:okO c T1 x1:=by first|trivial|(simp;done)|fail) (o2:okO c T2 x2:=by first|trivial|(simp;done)|fail) (hct:Ct c g [.d y1,.fn q cs'] pre r:=by exact inferInstance) (hp0:pre:=by first|trivial|omega|(simp only[H];done)|(simp only[H];first|trivial|omega|grind)|grind) (er:r=r':=by first|(simp only[H];rfl)|rfl) (hk:Nat.ble (k+1) n=true:=by rfl):CO c G o ⟨n,f,hp⟩ ⟨n,upn f k r',hp⟩ ⟨[],.val⟩:=by
 have hk:=B8 hk
 obtain⟨fn,body,hfn⟩:=hct.ok
 subst e1 e2 er
 exact⟨⟨_,_,_,g,[],fn,body,_,r,ho,fun _ h=>by rw[hd] at h;cases h;exact hk,rfl,trivial,hfn,rfl,fun x hx=>by(simp only[List.zip_cons_cons,List.zip_nil_right,List.mem_cons,List.not_mem_nil,or_false] at hx);rcases hx with rfl|rfl<;>assumption,by simp only[hG];exact List.nodup_nil,by simp only[List.zip_cons_cons,List.zip_nil_right,List.map_cons,List.map_nil,List.append_nil,Cz (Ch hG x1 (by simp)),Cz (Ch hG x2 (by simp)),h1,h2],fun h=>hct.cs hp0 h,by simp only[hG,hd,BD,B1,B0],by simp only[hG]⟩⟩
end
attribute [simp] U0 dF
