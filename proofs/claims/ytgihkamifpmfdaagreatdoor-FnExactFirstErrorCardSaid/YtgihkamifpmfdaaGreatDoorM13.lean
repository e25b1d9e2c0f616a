/- Part 13. No condition. -/
import Derived.Test.YtgihkamifpmfdaaGreatDoorM12
import Derived.Shelf.Strings.OnBuilder
namespace Go.Proofs.YtgihkamifpmfdaaGreatDoor
open Go.RowKit Go.Shelf Tryz
set_option linter.unusedVariables false
set_option linter.unusedSimpArgs false
set_option maxRecDepth 100000

theorem O7 (place:Nat→Option (Nat×Nat)) (hp:∀i,place i=some (i,1)):∀(vs:List Value) (c1 z:List Value),(∀v∈vs,v.oneCell'=true)→z.length=vs.length→
  Go.Instr.fill place (c1++z).toArray ((List.range' c1.length vs.length).zip vs)=some (c1++vs).toArray
 |[],c1,z,_,hz=>by
  have:z=[]:=List.eq_nil_of_length_eq_zero (by simpa using hz)
  subst this;simp[Go.Instr.fill]
 |v::vs,c1,[],_,hz=>by simp at hz
 |v::vs,c1,z0::z,hv,hz=>by
  have h1:v.cells=[v].toArray:=by have:=hv v (by simp);cases v<;>first|rfl|simp[Value.oneCell'] at this
  have ih:=O7 place hp vs (c1++[v]) z (fun x hx=>hv x (by simp[hx])) (by simpa using hz)
  have h2:=O8 place c1.length c1.length 1 v [v] h1 (hp _) rfl c1 [z0] z rfl rfl ((List.range' (c1.length+1) vs.length).zip vs)
  simp only[List.length_append,List.length_singleton] at ih
  simp only[List.length_cons,List.range'_succ,List.zip_cons_cons]
  have e1:c1++z0::z=c1++([z0]++z):=by simp
  have e2:c1++([v]++z)=c1++[v]++z:=by simp
  rw[e1,h2,e2,ih]
  simp
def AV.isF:AV→Prop
 | .fn _ _=>True
 |_=>False
theorem QX {w:World} {F:Nat→Nat} {Θ:Ty}:∀(l:List AV) (vs:List Value),(∀a∈l,a.isF)→rvS w F Θ l vs []→∀v∈vs,v.oneCell'=true
 |[],vs,_,h,v,hv=>by
  simp only[rvS] at h
  rw[h.1] at hv;simp at hv
 |a::l,vs,hl,h,v,hv=>by
  simp only[rvS] at h
  obtain⟨u,r,b1,b2,rfl,hb,h1,h2⟩:=h
  obtain⟨rfl,rfl⟩:=List.append_eq_nil_iff.1 hb.symm
  rcases List.mem_cons.1 hv with rfl|hv
  ·have:=hl a (by simp)
   cases a<;>simp only[AV.isF] at this
   simp only[rv] at h1
   obtain⟨vs,rfl, -⟩:=h1
   rfl
  ·exact QX l r (fun x hx=>hl x (by simp[hx])) h2 v hv
theorem US {w:World} {F:Nat→Nat} {Θ:Ty} {own:Who→List Nat} {S:St} {a:Act} (h:Rel w F Θ own S a):∀ts:List Nat,rvS w F Θ (ts.map fun t=>(S.tm t).vw) (ts.map fun t=>a.eval (.tmp t)) []
 |[]=>by simp[rvS]
 |t::ts=>by
  simp only[List.map_cons,rvS]
  exact⟨_,_,[],[],rfl,rfl,rv.view _ _ _ (h.tm t),US h ts⟩
theorem WL.opFr {c:Cx} {ops:Array Oper} {o:Oper} {l:List Oper} {S:St} {K:St→Prop} (hg:o.guard=none) {k0:Nat} (hd:o.dst=some k0) (hk:k0<S.n) (T:Nat) (ts:List Nat) {ps:Array (Nat×Operand)} (ho:o.op=.buildSlice T ts.length ps) (hps:ps.toList=(List.range' 0 ts.length).zip (ts.map .tmp))
  {e:Nat} (hu:c.P.underlying T=some (.slice e)) {ii:TypeInfo} (hi:c.P.info? e=some ii) (hsz:ii.size=1) {z:Value} (hz:ii.zero=some z) (hzc:z.cells.size=1) (hn:ts.length≤1000) (h0:0<ts.length) {fs:List AV} (hf:(ts.map fun t=>(S.tm t).vw)=fs) (hfF:∀a∈fs,a.isF)
  {S1:St} (e1:(⟨S.n,upd S.tm k0 (.fr fs),S.hp⟩:St)=S1) (kk:WL c ops l S1 K):WL c ops (o::l) S K:=fun is hi2=>by
 subst e1
 cases is with
 |nil=>simp at hi2
 |cons i is=>
  simp only[List.map_cons,List.cons.injEq] at hi2
  intro w F Θ own a hR Q hQ
  simp only[wpOps,hi2.1]
  have hv:=US hR ts
  rw[hf] at hv
  have hone:=QX fs _ hfF hv
  have hlen:=rvS.length fs _ _ hv
  rw[List.length_map] at hlen
  let vs:=ts.map fun t=>a.eval (.tmp t)
  have hvl:vs.length=ts.length:=by simp[vs]
  have hrun:(execOp a.eval o).run c.P w=.ok (.value (.slice (some ⟨w.heap.size,0,none⟩) ts.length ts.length)) (w.alloc (.cells vs.toArray e)):=by
   have hfill:=O7 (fun i=>some (i*1,1)) (fun i=>by simp) vs [] (List.replicate ts.length (z.cells[0]!)) hone (by simp[vs])
   simp only[List.nil_append,List.length_nil,hvl] at hfill
   have hzip:∀(ns:List Nat) (us:List Nat),(ns.zip (us.map Operand.tmp)).map (fun x=>(x.1,a.eval x.2))=ns.zip (us.map fun t=>a.eval (.tmp t)):=by
    intro ns us
    induction us generalizing ns with
    |nil=>simp
    |cons u us ih=>cases ns with
     |nil=>simp
     |cons n ns=>simp[ih]
   have hz2:(ps.map fun (i,x)=>(i,a.eval x)).toList=(List.range' 0 ts.length).zip vs:=by
    rw[Array.toList_map,hps];exact hzip _ _
   have hne:¬ts.length=0:=by omega
   have h24:¬16777216<ts.length:=by omega
   have hcells:((Array.range ts.length).map fun i=>z.cells[i % 1]!)=(List.replicate ts.length (z.cells[0]!)).toArray:=by
    apply Array.ext
    ·simp
    ·intro j h1 h2
     simp[Nat.mod_one]
   unfold execOp
   simp only[ho,Go.Instr.buildSlice,Sem.run_bind,run_underlying hu,Result.andThen_ok]
   simp[sizeOf,typeInfo,hi,hsz,newRow,h24,hne,zeroValue,hz,hzc,hcells]
   have hq:List.map (fun x=>(x.fst,a.eval x.snd)) ps.toList=(List.range' 0 ts.length).zip vs:=by rw[hps];exact hzip _ _
   have hz0:z.cells[0]! =z.cells[0]:=getElem!_pos z.cells 0 (by omega)
   have hf2:=hfill
   rw[hz0] at hf2
   have ef:(fun i:Nat=>some (i*1,1))=fun i=>some (i,1):=by funext i;simp
   rw[ef] at hf2
   have er:(List.replicate ts.length z.cells[0]).toArray=Array.replicate ts.length z.cells[0]:=by simp
   rw[er] at hf2
   rw[hq,hf2]
   simp
  have kp:=(Fi (w:=w) (F:=F) (o:=.cells vs.toArray e) (n:=ts.length) (fun _=>False) hR.top).kp (bs:=[]) (by simp) (by simp)
  have hat:(w.alloc (.cells vs.toArray e)).heap[w.heap.size]? =some (.cells vs.toArray e (0,0)):=KI rfl
  have hv2:rv (w.alloc (.cells vs.toArray e)) (upd F w.heap.size ts.length) Θ (.fr fs) (.slice (some ⟨w.heap.size,0,none⟩) ts.length ts.length) []:=by
   simp only[rv]
   refine⟨trivial,w.heap.size,vs,by rw[←hlen],by unfold maxLen;omega,?_,rvS.keep (fun _ _ _ h=>h) fs vs [] hv kp,by rw[Aw];omega⟩
   intro j u hu
   rw[cell_of_row _ _ _ _ e (0,0) hat]
   simpa using hu
  obtain⟨own',hR2,hS2⟩:=Rel.fin hR o.dst (fun q hq=>by rw[hd] at hq;cases hq;exact hk) [] (.fr fs) _ [] (Fi (n:=ts.length) _ hR.top) (Gd hR.top) hv2 List.nodup_nil (by simp) (by simp)
  have hw:Region.wanted o (yielded ops a.tmps)=true:=Dz (c:=c) hR (by unfold wnt;rw[hg])
  rw[if_pos hw]
  have e3:(⟨S.n,B1 (BD S.tm []) o.dst (.fr fs),S.hp⟩:St)=⟨S.n,upd S.tm k0 (.fr fs),S.hp⟩:=by rw[hd];rfl
  rw[e3] at hR2
  refine .inl ?_
  unfold Oper.wp
  rw[hrun]
  exact kk is hi2.2 _ _ Θ own' _ hR2 Q fun S' a' w' F' Θ' own'' g1 g2 g3=>hQ S' a' w' F' Θ' own'' g1 g2 (hS2.trans g3)
theorem Uy {w:World} {F:Nat→Nat} {Θ:Ty}:∀(l:List AV) (vs:List Value),rvS w F Θ l vs []→∀(j:Nat) (a:AV),l[j]? =some a→∃v,vs[j]? =some v∧rv w F Θ a v []
 |[],_,_,j,a,h=>by simp at h
 |b::l,vs,h,j,a,ha=>by
  simp only[rvS] at h
  obtain⟨v,r,b1,b2,rfl,hb,h1,h2⟩:=h
  obtain⟨rfl,rfl⟩:=List.append_eq_nil_iff.1 hb.symm
  cases j with
  |zero=>simp only[List.getElem?_cons_zero,Option.some.injEq] at ha;subst ha;exact⟨v,rfl,h1⟩
  |succ j=>simpa using Uy l r h2 j a (by simpa using ha)
theorem WL.lenFr {c:Cx} {ops:Array Oper} {o:Oper} {l:List Oper} {S:St} {K:St→Prop} (hg:o.guard=none) {k0:Nat} (hd:o.dst=some k0) (hk:k0<S.n) (T:Nat) (x:Operand) (ho:o.op=.call { callee:=.builtin .len,args:= #[x],argTypes:= #[T] }) {e:Nat} (hu:c.P.underlying T=some (.slice e)) {fs:List AV} (hx:evT c 0 S x=.fr fs) (ox:okO c 0 x)
  {S1:St} (e1:(⟨S.n,upd S.tm k0 (.d (.lf (.int .i64 (fs.length:Int)))),S.hp⟩:St)=S1) (kk:WL c ops l S1 K):WL c ops (o::l) S K:=
 WL.opVal hg hd hk _ (fun w F Θ own a hR => by
  have hv:=BU (T:=0) hR ox
  rw[hx] at hv
  simp only[rv] at hv
  obtain⟨-,b,vs,h1,h2, -⟩:=hv
  refine⟨.int .i64 fs.length,?_,?_⟩
  ·unfold execOp
   simp[ho,h1,resolve,invoke,builtin,Builtin.len_,run_underlying hu,goInt]
  ·unfold maxLen at h2
   exact Dr (by simp[BK,IntKind.min,IntKind.max,IntKind.bits,IntKind.signed];omega)) e1 kk
theorem WL.ixFr {c:Cx} {ops:Array Oper} {o:Oper} {l:List Oper} {S:St} {K:St→Prop} (hg:o.guard=none) {k0:Nat} (hd:o.dst=some k0) (hk:k0<S.n) (T:Nat) (x i:Operand) (ho:o.op=.indexAddr T x i) {e:Nat} (hu:c.P.underlying T=some (.slice e)) {ii:TypeInfo} (hi:c.P.info? e=some ii) (hsz:ii.size=1) {fs:List AV} (hx:evT c T S x=.fr fs) (ox:okO c T x) {ki:IntKind} (j:Nat) (hj:evT c 0 S i=.d (.lf (.int ki (j:Int)))) (oi:okO c 0 i) {f:AV} (hf:fs[j]? =some f)
  {S1:St} (e1:(⟨S.n,upd S.tm k0 (.ep f),S.hp⟩:St)=S1) (kk:WL c ops l S1 K):WL c ops (o::l) S K:=
 WL.opVal hg hd hk (.ep f) (fun w F Θ own a hR => by
  have hv:=BU (T:=T) hR ox
  rw[hx] at hv
  simp only[rv] at hv
  obtain⟨-,b,vs,h1,h2,h3,h4,h5⟩:=hv
  obtain⟨q4, -⟩:=CM hR hj oi
  have hlt:=(List.getElem?_eq_some_iff.1 hf).1
  obtain⟨u,g1,g2⟩:=Uy fs vs h4 j f hf
  refine⟨.pointer (some ⟨b,j,none⟩),?_,?_⟩
  ·unfold execOp
   have hl:0≤(j:Int)∧(j:Int)<(fs.length:Int):=⟨by omega,by omega⟩
   simp[ho,h1,q4,Go.Instr.indexAt,asIntOf,run_underlying hu,hl,sizeOf,typeInfo,hi,hsz,Addr.add_lit,hlt]
  ·simp only[rv]
   refine⟨trivial,b,j,u,rfl,?_,g2,by omega⟩
   intro q y hq
   have hq0:q=0:=by have:=(List.getElem?_eq_some_iff.1 hq).1;simpa using this
   subst hq0
   have:=h3 j u g1
   simp at hq
   subst hq
   simpa using this) e1 kk
theorem WL.ldEp {c:Cx} {ops:Array Oper} {o:Oper} {l:List Oper} {S:St} {K:St→Prop} (hg:o.guard=none) {k0:Nat} (hd:o.dst=some k0) (hk:k0<S.n) (T:Nat) (x:Operand) (ho:o.op=.load T x) (hT:(isAgg T).run c.P=fun w=> .ok false w) {f:AV} (hx:evT c 0 S x=.ep f) (ox:okO c 0 x)
  {S1:St} (e1:(⟨S.n,upd S.tm k0 f,S.hp⟩:St)=S1) (kk:WL c ops l S1 K):WL c ops (o::l) S K:=
 WL.opVal hg hd hk f (fun w F Θ own a hR => by
  have hv:=BU (T:=0) hR ox
  rw[hx] at hv
  simp only[rv] at hv
  obtain⟨-,b,off,u,h1,h2,h3, -⟩:=hv
  have hc:=h2 0 u rfl
  simp only[Nat.add_zero] at hc
  refine⟨u,?_,h3⟩
  unfold execOp
  have hr:(isAgg T).run c.P w=.ok false w:=by rw[hT]
  simp[ho,h1,Go.Instr.loadAt,Go.Instr.sureAddr,loadVar,hr,load,Sem.run,hc]) e1 kk
class Ct (c:Cx) (g:Nat) (as':List AV) (pre:outParam Prop) (r:outParam AV):Prop where
 ok:∃fn body,CU c.P g fn body
 cs:pre→∀h,CS c.P g as' h r h
theorem fk1 {c:Cx} {g:Nat} {fn:Func} (h:c.P.funcs[g]? =some fn) (hb:fn.body.isSome=true:=by rfl) (hnm:(fn.name== "runtime.NumGoroutine")=false:=by rfl):∃fn body,CU c.P g fn body:=by
 obtain⟨b,h1⟩:=fok (c:=c) h hb hnm
 exact⟨fn,b,h1⟩
def Hr (o:Oper):Bool:=match o.op with
 | .call { callee:=.value _,.. }=>true
 |_=>false
structure Two (p q:Prop):Prop where
 l:p
 r:q
structure RG (p:Prop):Prop where
 r:p
structure LF (p:Prop):Prop where
 r:p
structure RF (p q:Prop):Prop where
 r:p→q
structure RL (c:Cx) (rs:List ResultVar) (S:St) (r:AV):Prop where
 ok:∀x∈rs,LN c S x∧(JM S x).nz
 nd:(rs.map (Fa S)).Nodup
 eq : (match rs.map (fun x => (JM S x).dn) with
  |[x]=>x
  |l=> .tp l)=r
structure RQ (c:Cx) (rs:List ResultVar) (h':HP) (r:AV) (e:Exit) (S:St):Prop where
 e:e=.normal∨e=.ret
 h:∃f1,S.hp=f1::upH h'
 r:RL c rs S r
theorem RL.res {c:Cx} {fn:Func} {rs:List ResultVar} {S:St} {r:AV} (hr:fn.results.toList=rs) (h:RL c rs S r):Res c fn S r:=by
 unfold Res
 rw[hr]
 exact⟨h.ok,h.nd,h.eq.symm⟩
theorem Xe {c:Cx} {f:Nat} {fn:Func} {body:Code} {args:List AV} {h h':HP} {r:AV} (hget:c.P.funcs[f]? =some fn) (hbd:fn.body=some body) (n:Nat) (rs:List ResultVar) (hW:W c body ⟨n,tl (mkl 0 args),al []::upH h⟩ (RQ c rs h' r)) (hrs:fn.results.toList=rs:=by rfl) (hn:fn.ntmps=n:=by rfl) (hlen:args.length≤n:=by simp) (hnm:(fn.name== "runtime.NumGoroutine")=false:=by rfl):CS c.P f args h r h':=
 Ze hget hbd n (hW.mono fun e S q=>⟨q.e,q.h,q.r.res hrs⟩) hn hlen hnm
def vwR:List ResultVar→St→St
 |[],S=>S
 | .tmp t::l,S=>vwR l ⟨S.n,upd S.tm t (S.tm t).vw,S.hp⟩
 | .cell t _::l,S=>match S.tm t with
  | .pt 0 k []=>match hpg S.hp 0 k with
   |some (.d x)=>vwR l ⟨S.n,S.tm,hps S.hp 0 k (some (.d x.vw))⟩
   |_=>vwR l S
  |_=>vwR l S
theorem d7 (S:St) (ts:List Nat):Wz S ⟨S.n,BD S.tm ts,S.hp⟩:=fun w F Θ own a hR=>by
 obtain⟨own2,g1,g2⟩:=hR.fin none (by simp) ts .un undef [] (Ks.refl _ _ _) hR.top (by simp only[rv]) List.nodup_nil (by simp) (by simp)
 exact⟨F,Θ,own2,g1,g2⟩
theorem d6 {S:St} {k:Nat} {x:DD} (hk:hpg S.hp 0 k=some (.d x)):Wz S ⟨S.n,S.tm,hps S.hp 0 k (some (.d x.vw))⟩:=fun w F Θ own a hR=>by
 have hl:=M9 _ _ _ _ hk
 let own':Who→List Nat:=fun y=>if y=.h 0 k then [] else own y
 have o1:∀y b,b∈own' y→b∈own y:=fun y b hb=>by
  have hb':b∈(if y=.h 0 k then [] else own y):=hb
  split at hb'
  ·simp at hb'
  ·exact hb'
 have o2:∀y,y≠ .h 0 k→own' y=own y:=fun y hy=>if_neg hy
 refine⟨F,Θ,own',⟨hR.n,hR.df,fun t=>by rw[o2 _ (by simp)];exact hR.tm t,fun lv q hq=> ?_,fun lv q cn hq=> ?_,fun y=> ?_,fun y z hyz b hb hc=>hR.dj y z hyz b (o1 y b hb) (o1 z b hc),fun y b hb=>hR.lt y b (o1 y b hb),hR.top,hR.gl⟩,⟨Ks.refl _ _ _,fun y b hb=> .inl ⟨y,o1 y b hb⟩,fun _ _=>rfl⟩⟩
 ·rw[CG] at hq
  split at hq
  ·cases hq
  ·rename_i hne
   have hne2:¬(Who.h lv q=.h 0 k):=fun e=>by cases e;exact hne ⟨rfl,rfl,hl⟩
   obtain⟨h1,h2,h3⟩:=hR.hn lv q hq
   exact⟨h1,by rw[o2 _ hne2];exact h2,by rw[o2 _ (by simp)];exact h3⟩
 ·rw[CG] at hq
  split at hq
  ·rename_i he
   obtain⟨rfl,rfl, -⟩:=he
   cases hq
   obtain⟨b,s,cur,ty,g1,g2,g3,g4,g5,g6⟩:=hR.hs _ _ _ hk
   refine⟨b,s,cur,ty,g1,by rw[o2 _ (by simp)];exact g2,g3,by simpa[AV.csh,DD.sh_vw] using g4,g5,?_⟩
   have:own' (.h 0 q)=[]:=if_pos rfl
   rw[this]
   simp only[rc] at g6 ⊢
   exact rp.view _ _ _ g6
  ·rename_i hne
   have hne2:¬(Who.h lv q=.h 0 k):=fun e=>by cases e;exact hne ⟨rfl,rfl,hl⟩
   obtain⟨b,s,cur,ty,g1,g2,g3,g4,g5,g6⟩:=hR.hs _ _ _ hq
   exact⟨b,s,cur,ty,g1,by rw[o2 _ (by simp)];exact g2,g3,g4,g5,by rw[o2 _ hne2];exact g6⟩
 ·show(if _ then _ else _:List Nat).Nodup
  split
  ·exact List.nodup_nil
  ·exact hR.nd _
theorem Wz.trans {S S1 S2:St} (h:Wz S S1) (k:Wz S1 S2):Wz S S2:=fun w F Θ own a hR=>by
 obtain⟨F1,T1,o1,h1,h2⟩:=h w F Θ own a hR
 obtain⟨F2,T2,o2,k1,k2⟩:=k w F1 T1 o1 a h1
 exact⟨F2,T2,o2,k1,h2.trans k2⟩
theorem Ix:∀(rs:List ResultVar) (S:St),Wz S (vwR rs S)
 |[],S=>Wz.refl S
 | .tmp t::l,S=>(d7 S [t]).trans (Ix l _)
 | .cell t T::l,S=>by
  unfold vwR
  split
  ·split
   ·rename_i x hx;exact(d6 hx).trans (Ix l _)
   ·exact Ix l S
  ·exact Ix l S
theorem Xev {c:Cx} {f:Nat} {fn:Func} {body:Code} {args:List AV} {h h':HP} {r:AV} (hget:c.P.funcs[f]? =some fn) (hbd:fn.body=some body) (n:Nat) (rs:List ResultVar) (hW:W c body ⟨n,tl (mkl 0 args),al []::upH h⟩ (fun e S=>RQ c rs h' r e (vwR rs S))) (hrs:fn.results.toList=rs:=by rfl) (hn:fn.ntmps=n:=by rfl) (hlen:args.length≤n:=by simp) (hnm:(fn.name== "runtime.NumGoroutine")=false:=by rfl):CS c.P f args h r h':=
 Xe hget hbd n rs (W.after hW fun e S q=>⟨_,Ix rs S,q⟩) hrs hn hlen hnm
section
variable {c:Cx} {ops:Array Oper} {o:Oper} {l:List Oper} {S S1:St} {K:St→Prop} {acc:List Sk} {D:List (Option Nat)} {Q:Exit→St→Prop}
theorem Xo (M:List Nat) (k:WL c ops l S1 K) (hi:Hr o=false:=by rfl) (hg:o.guard=none:=by rfl) (h:okP c M o S:=by(simp(disch:=first|(simp;done)|omega) [M,H,BH])<;>first|done|omega|grind) (e:nx c M o S=S1:=by first|(simp(disch:=first|(simp;done)|omega) [M,H,BH];rfl)|rfl):WL c ops (o::l) S K:=WL.op M hg h e k
theorem WL.got {P:Prop} (h:∀(w:World) (F:Nat→Nat) (Θ:Ty) (own:Who→List Nat) (a:Act),Rel w F Θ own S a→P) (k:P→WL c ops l S K):WL c ops l S K:=fun is hi w F Θ own a hR Q hQ=>k (h w F Θ own a hR) is hi w F Θ own a hR Q hQ
theorem Bm {α:Type} (f:α→Nat) {l:List α} {k:Nat} (h:k<l.length):f l[k]≤szL f l:=Ae f (gm h)
theorem Ip {T:Nat} {x:Operand} {n:Int} {w:World} {F:Nat→Nat} {Θ:Ty} {own:Who→List Nat} {a:Act} (hR:Rel w F Θ own S a) (ox:okO c T x) (hx:evT c T S x=dI' n): -9223372036854775808≤n∧n≤9223372036854775807:=by
 have h:=BU hR ox
 rw[hx] at h
 simp only[rv,rp] at h
 obtain⟨cs,⟨-,h, -⟩, -⟩:=h
 exact h
theorem Xlt (M:List Nat) {T yT:Nat} {x y:Operand} {n m:Int} (k:RF ((-9223372036854775808≤n∧n≤9223372036854775807)∧(-9223372036854775808≤m∧m≤9223372036854775807)) (WL c ops l S1 K)) (ho:o.op=.binOp .lss T x y yT:=by rfl) (hx:evT c 0 S x=dI' n:=by rfl) (hy:evT c 0 S y=dI' m:=by rfl) (hg:o.guard=none:=by rfl)
  (h:okP c M o S:=by(simp(disch:=first|(simp;done)|omega) [M,H,BH])<;>first|done|omega|grind) (e:nx c M o S=S1:=by first|(simp(disch:=first|(simp;done)|omega) [M,H,BH];rfl)|rfl):WL c ops (o::l) S K:=by
 have h':=h
 unfold okP at h'
 rw[ho] at h'
 exact WL.got (fun w F Θ own a hR=>⟨Ip hR h'.2.2.1 hx,Ip hR h'.2.2.2.1 hy⟩) fun f=>WL.op M hg h e (k.r f)
theorem Xl (ts:List Nat) {f:Operand} {args:Array Operand} {argTypes:Array TypeId} {g:Nat} {cs as':List AV} {pre:Prop} {r:AV} (k:WL c ops l S1 K)
  (ho:o.op=.call { callee:=.value f,args,argTypes }:=by rfl) (hg:o.guard=none:=by rfl) (hf:evT c 0 S f=.fn g cs:=by rfl) (of:okO c 0 f:=by simp) (hd:∀k,o.dst=some k→k<S.n:=by simp) (hTs:argTypes.toList.length=args.toList.length:=by rfl) (hok:∀x∈argTypes.toList.zip args.toList,okO c x.1 x.2:=by simp) (hn:(gvn ts args.toList).Nodup:=by simp[G])
  (ha:(argTypes.toList.zip args.toList).map (fun x=>Cr c ts S x.1 x.2)++cs=as':=by first|(simp(disch:=first|(simp;done)|omega) [M,G,H,BH];rfl)|rfl) (hct:Ct c g as' pre r:=by exact inferInstance) (hp:pre:=by first|trivial|omega|(simp only[H];first|trivial|omega|grind)|grind)
  (e:(⟨S.n,B1 (BD S.tm (gvn ts args.toList)) o.dst r,S.hp⟩:St)=S1:=by first|(simp(disch:=first|(simp;done)|omega) [M,G,H,BH];rfl)|rfl):WL c ops (o::l) S K:=by
 obtain⟨fn,body,hfn⟩:=hct.ok
 exact WL.call ts f args argTypes ho hg hd hf of hfn hTs hok hn ha (hct.cs hp _) e k
theorem Xk (ts:List Nat) (hD:ops.toList.map (·.dst)=D) {j kg:Nat} {bg:Bool} (hg:o.guard=some (j,bg)) (hj:D[j]? =some (some kg)) {f:Operand} {args:Array Operand} {argTypes:Array TypeId} {g:Nat} {cs as':List AV} {pre:Prop} {r:AV} (k:WL c ops l S1 K)
  (ho:o.op=.call { callee:=.value f,args,argTypes }:=by rfl) (hk:S.tm kg=.d (.lf (.bool bg)):=by rfl) (hf:evT c 0 S f=.fn g cs:=by rfl) (of:okO c 0 f:=by simp) (hd:∀k,o.dst=some k→k<S.n:=by simp) (hTs:argTypes.toList.length=args.toList.length:=by rfl) (hok:∀x∈argTypes.toList.zip args.toList,okO c x.1 x.2:=by simp) (hn:(gvn ts args.toList).Nodup:=by simp[G])
  (ha:(argTypes.toList.zip args.toList).map (fun x=>Cr c ts S x.1 x.2)++cs=as':=by first|(simp(disch:=first|(simp;done)|omega) [M,G,H,BH];rfl)|rfl) (hct:Ct c g as' pre r:=by exact inferInstance) (hp:pre:=by first|trivial|omega|(simp only[H];first|trivial|omega|grind)|grind)
  (e:(⟨S.n,B1 (BD S.tm (gvn ts args.toList)) o.dst r,S.hp⟩:St)=S1:=by first|(simp(disch:=first|(simp;done)|omega) [M,G,H,BH];rfl)|rfl):WL c ops (o::l) S K:=by
 obtain⟨fn,body,hfn⟩:=hct.ok
 exact WL.callG hD j kg bg hg hj hk ts f args argTypes ho hd hf of hfn hTs hok hn ha (hct.cs hp _) e k
theorem Xn (hD:ops.toList.map (·.dst)=D) {j k:Nat} {b:Bool} (hg:o.guard=some (j,b)) (hj:D[j]? =some (some k)) (kk:WL c ops l S1 K) (hk:S.tm k=dB' (!b)∨S.tm k=.tp []:=by first|exact .inl rfl|exact .inr rfl) (hd:∀k,o.dst=some k→k<S.n:=by simp) (e:(⟨S.n,B1 S.tm o.dst (.tp []),S.hp⟩:St)=S1:=by first|(simp[H];rfl)|rfl):WL c ops (o::l) S K:=WL.no2 hD j k b hg hj hk hd e kk
theorem Xg (M:List Nat) (hD:ops.toList.map (·.dst)=D) {j k:Nat} {b:Bool} (hg:o.guard=some (j,b)) (hj:D[j]? =some (some k)) (kk:WL c ops l S1 K) (hi:Hr o=false:=by rfl) (hk:S.tm k=dB' b:=by rfl) (h:okP c M o S:=by(simp(disch:=first|(simp;done)|omega) [M,H,BH])<;>first|done|omega|grind) (e:nx c M o S=S1:=by first|(simp(disch:=first|(simp;done)|omega) [M,H,BH];rfl)|rfl):WL c ops (o::l) S K:=WL.opG M hD j k b hg hj hk h e kk
theorem Xs (hD:ops.toList.map (·.dst)=D) {j k:Nat} {b q:Bool} {S2:St} (hg:o.guard=some (j,b)) (hj:D[j]? =some (some k)) (hq:S.tm k=dB' q) (hk:Two (q=true→WL c ops (o::l) S1 K) (q=false→WL c ops (o::l) S2 K)) (e1:(⟨S.n,upd S.tm k (dB' true),S.hp⟩:St)=S1:=by first|(simp[H];rfl)|rfl) (e2:(⟨S.n,upd S.tm k (dB' false),S.hp⟩:St)=S2:=by first|(simp[H];rfl)|rfl):WL c ops (o::l) S K:=by
 subst e1 e2
 exact WL.split k q hq hk.l hk.r
theorem Xc {g:Operand} {x y:Code} {b:Bool} (hg:evT c 0 S g=dB' b) (h:Two (b=true→W c x S Q) (b=false→W c y S Q)) (og:okO c 0 g:=by trivial):W c (.cond g x y) S Q:=W.condS b hg og h.l h.r
theorem Xb {i:Nat} {x:Code} (h:W c x S (TV i Q)):W c (.block i x) S Q:=W.block h
theorem go {i:Nat} {Q':Exit→St→Prop} {S':St}:TV i Q' (.exit i) S'=Q' .normal S':=if_pos rfl
theorem gn {i j:Nat} {Q':Exit→St→Prop} {S':St} (h:(j==i)=false):TV i Q' (.exit j) S'=Q' (.exit j) S':=if_neg (by simpa using h)
theorem YP {i:Nat} {K':St→Prop} {Q':Exit→St→Prop} {S':St}:DE K' Q' (.exit i) S'=Q' (.exit i) S':=rfl
theorem YO {K':St→Prop} {Q':Exit→St→Prop} {S':St}:DE K' Q' .normal S'=K' S':=rfl
theorem Xx {i : Nat} {P : Prop} (h : P) (e : Q (.exit i) S = P := by
 repeat (first|refine go.trans ?_|refine(gn rfl).trans ?_|refine YP.trans ?_)
 first|exact YO|rfl):W c (.exit i) S Q:=W.exit (by rw[e];exact h)
theorem Xr {rs:List ResultVar} {h':HP} {r:AV} (k:RL c rs S r) (e:Q .ret S=RQ c rs h' r .ret S:=by rfl) (hh:∃f1,S.hp=f1::upH h':=by exact⟨_,rfl⟩):W c .ret S Q:=W.ret (by rw[e];exact⟨.inr rfl,hh,k⟩)
theorem Xrn {rs:List ResultVar} {h':HP} {r:AV} (k:RL c rs S r) (hh:∃f1,S.hp=f1::upH h':=by exact⟨_,rfl⟩):RQ c rs h' r .normal S:=⟨.inl rfl,hh,k⟩
theorem Xd {D:List (Option Nat)} {id:Nat} (hD:ops.toList.map (·.dst)=D) (h:RG (∀(ops':Array Oper) (K:St→Prop),ops'.toList.map (·.dst)=D→(∀S',Q .normal S'→K S')→WL c ops' ops.toList S K)):W c (.region id ops false) S Q:=W.regJ0 hD h.r
theorem XDd {D:List (Option Nat)} {id:Nat} (hm:c.P.follows .mixedOrders=true) (hD:ops.toList.map (·.dst)=D) (h:RG (∀K:St→Prop,ops.toList.map (·.dst)=D→(∀S',Q .normal S'→K S')→DL c ops [] ops.toList S K)):W c (.region id ops true) S Q:=W.regDJ0 hm hD h.r
theorem Xf {rs:List ResultVar} {r v:AV} (k:LF (v=r)) (ok:∀x∈rs,LN c S x∧(JM S x).nz:=by simp[M]) (nd:(rs.map (Fa S)).Nodup:=by simp) (e:(match rs.map (fun x=>(JM S x).dn) with|[x]=>x|l=> .tp l)=v:=by first|(simp(disch:=first|(simp;done)|omega) [M,H,BH];rfl)|rfl):RL c rs S r:=⟨ok,nd,e.trans k.r⟩
theorem Xrv {rs:List ResultVar} {h':HP} {r:AV} {S1:St} (k:RL c rs S1 r) (e0:Q .ret S=RQ c rs h' r .ret (vwR rs S):=by rfl) (e:vwR rs S=S1:=by first|(simp(disch:=first|(simp;done)|omega) [vwR,M,H];rfl)|rfl) (hh:∃f1,S1.hp=f1::upH h':=by exact⟨_,rfl⟩):W c .ret S Q:=W.ret (by rw[e0];subst e;exact⟨.inr rfl,hh,k⟩)
theorem XDo (M:List Nat) {sk:Sk} (k:DL c ops (acc++[sk]) l S1 K) (hi:Hr o=false:=by rfl) (hg:o.guard=none:=by rfl) (h:okP c M o S:=by(simp(disch:=first|(simp;done)|omega) [M,H,BH])<;>first|done|omega|grind) (e:nx c M o S=S1:=by first|(simp(disch:=first|(simp;done)|omega) [M,H,BH];rfl)|rfl) (hsk:(B5 c M o S).sk=sk:=by first|(simp[B5,Fsk.sk,Ef.kd,M];done)|(simp[B5,Fsk.sk,Ef.kd,M];rfl)|rfl):DL c ops acc (o::l) S K:=DL.opS M hg h e sk hsk k
theorem XDl (ts:List Nat) {f:Operand} {args:Array Operand} {argTypes:Array TypeId} {g:Nat} {cs as':List AV} {pre:Prop} {r:AV} (k:DL c ops (acc++[⟨gvn ts args.toList,.val⟩]) l S1 K)
  (ho:o.op=.call { callee:=.value f,args,argTypes }:=by rfl) (hg:o.guard=none:=by rfl) (hf:evT c 0 S f=.fn g cs:=by rfl) (of:okO c 0 f:=by simp) (hd:∀k,o.dst=some k→k<S.n:=by simp) (hTs:argTypes.toList.length=args.toList.length:=by rfl) (hok:∀x∈argTypes.toList.zip args.toList,okO c x.1 x.2:=by simp) (hn:(gvn ts args.toList).Nodup:=by simp[G])
  (ha:(argTypes.toList.zip args.toList).map (fun x=>Cr c ts S x.1 x.2)++cs=as':=by first|(simp(disch:=first|(simp;done)|omega) [M,G,H,BH];rfl)|rfl) (hct:Ct c g as' pre r:=by exact inferInstance) (hp:pre:=by first|trivial|omega|(simp only[H];first|trivial|omega|grind)|grind)
  (e:(⟨S.n,B1 (BD S.tm (gvn ts args.toList)) o.dst r,S.hp⟩:St)=S1:=by first|(simp(disch:=first|(simp;done)|omega) [M,G,H,BH];rfl)|rfl):DL c ops acc (o::l) S K:=by
 obtain⟨fn,body,hfn⟩:=hct.ok
 exact DL.call ts f args argTypes ho hg hd hf of hfn hTs hok hn ha (fun h=>hct.cs hp h) e k
theorem XDn (hD:ops.toList.map (·.dst)=D) {j k:Nat} {b:Bool} (hg:o.guard=some (j,b)) (hj:D[j]? =some (some k)) (kk:DL c ops (acc++[⟨[],.val⟩]) l S1 K) (hk:S.tm k=dB' (!b)∨S.tm k=.tp []:=by first|exact .inl rfl|exact .inr rfl) (hd:∀k,o.dst=some k→k<S.n:=by simp) (e:(⟨S.n,B1 S.tm o.dst (.tp []),S.hp⟩:St)=S1:=by first|(simp[H];rfl)|rfl):DL c ops acc (o::l) S K:=DL.no2 hD j k b hg hj hk hd e kk
theorem XDg (M:List Nat) (hD:ops.toList.map (·.dst)=D) {j k:Nat} {b:Bool} (hg:o.guard=some (j,b)) (hj:D[j]? =some (some k)) {sk:Sk} (kk:DL c ops (acc++[sk]) l S1 K) (hi:Hr o=false:=by rfl) (hk:S.tm k=dB' b:=by rfl) (h:okP c M o S:=by(simp(disch:=first|(simp;done)|omega) [M,H,BH])<;>first|done|omega|grind) (e:nx c M o S=S1:=by first|(simp(disch:=first|(simp;done)|omega) [M,H,BH];rfl)|rfl) (hsk:(B5 c M o S).sk=sk:=by first|(simp[B5,Fsk.sk,Ef.kd,M];done)|(simp[B5,Fsk.sk,Ef.kd,M];rfl)|rfl):DL c ops acc (o::l) S K:=DL.opGs M hD j k b hg hj hk h e sk hsk kk
theorem XDs (hD:ops.toList.map (·.dst)=D) {j k:Nat} {b q:Bool} {S2:St} (hg:o.guard=some (j,b)) (hj:D[j]? =some (some k)) (hq:S.tm k=dB' q) (hk:Two (q=true→DL c ops acc (o::l) S1 K) (q=false→DL c ops acc (o::l) S2 K)) (e1:(⟨S.n,upd S.tm k (dB' true),S.hp⟩:St)=S1:=by first|(simp[H];rfl)|rfl) (e2:(⟨S.n,upd S.tm k (dB' false),S.hp⟩:St)=S2:=by first|(simp[H];rfl)|rfl):DL c ops acc (o::l) S K:=by
 subst e1 e2
 exact DL.split k q hq hk.l hk.r
end
structure RE {σ:Type} (S0:St) (ts ks:List Nat) (V H:Nat→σ→List (Nat×AV)) (n:Nat) (I:Nat→σ→Prop) (rd:St→σ) (k:Nat) (S:St):Prop where
 lt:k<n
 i:I (k+1) (rd S)
 z:Wz S (stk S0 ts ks (V (k+1) (rd S)) (H (k+1) (rd S)))
theorem W.loopR {c:Cx} {x:Code} {Q:Exit→St→Prop} {S:St} {h:HP} {σ:Type} (ts ks:List Nat) (V H:Nat→σ→List (Nat×AV)) (n:Nat) (I:Nat→σ→Prop) (rd:St→σ) (hh:S.hp.tail=upH h) (h0:Ge S (V 0 (rd S)++tls S ts) (H 0 (rd S)++hls (hd S) ks)) (i0:I 0 (rd S))
  (hb:∀k,k≤n→∀s,I k s→∀T,stk S ts ks (V k s) (H k s)=T→W c x T (DE (RE S ts ks V H n I rd k) Q)):W c (.loop x) S Q:=by
 have key:∀m k s,k+m=n→I k s→WR c x Q (m+1) (stk S ts ks (V k s) (H k s)):=by
  intro m
  induction m with
  |zero=>
   intro k s hk hi
   refine(hb k (by omega) s hi _ rfl).mono fun e S' hq=> ?_
   cases e with
   |normal=>have:=hq.lt;omega
   |_=>exact hq
  |succ m ih=>
   intro k s hk hi
   refine W.after (hb k (by omega) s hi _ rfl) fun e S1 hq=> ?_
   cases e with
   |normal=>exact⟨_,hq.z,ih (k+1) _ (by omega) hq.i⟩
   |exit id=>exact⟨S1,Wz.refl S1,hq⟩
   |goto l=>exact⟨S1,Wz.refl S1,hq⟩
   |ret=>exact⟨S1,Wz.refl S1,hq⟩
   |panic ch=>exact⟨S1,Wz.refl S1,hq⟩
   |outgrown=>exact⟨S1,Wz.refl S1,hq⟩
 exact W.ahead (Wz.to hh hh rfl h0) (W.rounds _ (key n 0 (rd S) (by omega) i0))
def avI:AV→Int
 | .d (.lf (.int _ n))=>n
 |_=>0
def avB:AV→Bool
 | .d (.lf (.bool b))=>b
 |_=>false
def avS:AV→BA'
 | .d (.lf (.string s))=>s
 |_=>⟨#[]⟩
def avE:AV→List DD
 | .d (.sl _ _ es)=>es
 |_=>[]
theorem Xle {σ:Type} {S0 S:St} {h:HP} {ts ks:List Nat} {V H:Nat→σ→List (Nat×AV)} {n:Nat} {I:Nat→σ→Prop} {rd:St→σ} {k:Nat} {s:σ} (i:LF (I (k+1) s)) (e:rd S=s:=by first|rfl|(simp(disch:=first|(simp;done)|omega) [M,H,BH];rfl)) (lt:k<n:=by omega) (hh:S.hp.tail=upH h:=by rfl) (h0:S0.hp.tail=upH h:=by rfl) (hn:S.n=S0.n:=by rfl)
  (z:Ge S (V (k+1) s++tls S0 ts) (H (k+1) s++hls (hd S0) ks):=by first|(simp[M,H];done)|(simp[M,H, *];done)):RE S0 ts ks V H n I rd k S:=by
 subst e
 exact⟨lt,i.r,Wz.to hh h0 hn z⟩
theorem GO {P A : Prop} (k : A) (h : A → P := by
 first
  |exact fun k=>WL.nil (hK _ k)
  |exact fun k=>Xl G k
  |exact fun k=>Xlt M k
  |exact fun k=>Xo M k
  |exact fun k=>Xn hD rfl rfl k
  |exact fun k=>Xg M hD rfl rfl k
  |exact fun k=>Xk G hD rfl rfl k
  |exact fun k=>Xs hD rfl rfl rfl k
  |exact fun k=>W.seq k
  |exact fun k=>Xd rfl k
  |exact fun k=>Xc rfl k
  |exact fun k=>Xb k
  |exact fun k=>Xx k
  |exact fun k=>W.skip k
  |exact fun k=>Xle k
  |exact fun k=>Xr k
  |exact fun k=>Xrv k
  |exact fun k=>Xf k
  |exact fun k=>Xrvn k
  |exact fun k=>Xrn k
  |exact fun k=>DL.nil (by decide+kernel) (hK _ k)
  |exact fun k=>XDl G k
  |exact fun k=>XDo M k
  |exact fun k=>XDn hD rfl rfl k
  |exact fun k=>XDg M hD rfl rfl k
  |exact fun k=>XDk G hD rfl rfl k
  |exact fun k=>XDs hD rfl rfl rfl k
  |exact fun k=>XDd rfl rfl k):P:=h k
theorem HN {P R : Prop} {Q : Prop} (hb : P) (H : Q) (h : P → Q → R := by
 first
  |exact fun (a:(_:Nat)<_) b=>AI a b
  |exact fun (a:(_:Int)<_) b=>AI a b
  |exact fun (a:(_:Bool)=_) b=>AI a b
  |exact fun (a:¬_) b=>AI a b
  |exact fun _ b=>b):R:=h hb H
def fs {α β:Type} (f:Nat→α→Option β):Nat→List α→Option β
 |_,[]=>none
 |i,x::l=>match f i x with
  |some b=>some b
  |none=>fs f (i+1) l
theorem Ay {α β:Type} {f:Nat→α→Option β} {l:List α} {k:Nat} (h:k<l.length):fs f k (l.drop k)=match f k l[k] with
  |some b=>some b
  |none=>fs f (k+1) (l.drop (k+1)):=by
 rw[List.drop_eq_getElem_cons h];rfl
theorem As {α β:Type} (f:Nat→α→Option β) (k:Nat) {l:List α} {j:Nat} (h:l.length≤j):fs f k (l.drop j)=none:=by
 rw[List.drop_eq_nil_of_le h];rfl
theorem It {α β:Type} {f:Nat→α→Option β}:∀{l:List α} {i:Nat},(∀k (h:k<l.length),f (i+k) l[k]=none)→fs f i l=none
 |[],_,_=>rfl
 |x::l,i,h=>by
  have h0:=h 0 (by simp)
  simp only[Nat.add_zero,List.getElem_cons_zero] at h0
  rw[fs,h0]
  refine It fun k hk=> ?_
  have:=h (k+1) (by simpa using hk)
  rw[show i+1+k=i+(k+1) by omega];simpa using this
theorem ME {α β:Type} {f:Nat→α→Option β} {b:β}:∀{l:List α} {i:Nat},fs f i l=some b→∃k,∃h:k<l.length,f (i+k) l[k]=some b∧∀j (hj:j<k),f (i+j) (l[j]'(Nat.lt_trans hj h))=none
 |[],_,h=>by simp[fs] at h
 |x::l,i,h=>by
  rw[fs] at h
  cases hx:f i x with
  |some y=>
   rw[hx] at h
   exact⟨0,by simp,by simpa[hx] using h,fun j hj=>by omega⟩
  |none=>
   rw[hx] at h
   obtain⟨k,h1,h2,h3⟩:=ME h
   refine⟨k+1,by simpa using h1,by rw[show i+(k+1)=i+1+k by omega];simpa using h2,fun j hj=> ?_⟩
   cases j with
   |zero=>simpa using hx
   |succ j=>have:=h3 j (by omega);rw[show i+(j+1)=i+1+j by omega];simpa using this
attribute [simp] avI avB avS avE
section
variable {c:Cx} {o:Oper} {S:St}
theorem NM {w:World} {F:Nat→Nat} {Θ:Ty}:∀(l:List AV) (vs:List Value) (bs:List Nat),rvS w F Θ l vs bs→∀i,i<l.length→∃v b,vs[i]? =some v∧rv w F Θ (l.getD i .un) v b∧List.Sublist b bs
 |[],_,_,_,i,hi=>by simp at hi
 |a::l,vs,bs,h,i,hi=>by
  simp only[rvS] at h
  obtain⟨v,r,b1,b2,rfl,rfl,g1,g2⟩:=h
  cases i with
  |zero=>exact⟨v,b1,rfl,by simpa using g1,List.sublist_append_left _ _⟩
  |succ i=>
   obtain⟨v',b,k1,k2,k3⟩:=NM l r b2 g2 i (by simpa using hi)
   exact⟨v',b,by simpa using k1,by simpa using k2,k3.trans (List.sublist_append_right _ _)⟩
theorem QC (hd:∀k,o.dst=some k→k<S.n) {t i:Nat} {lv:List AV} (ho:o.op=.extract (.tmp t) i) (hx:S.tm t=.tp lv) (hi:i<lv.length):Snd c o S ⟨S.n,B1 (BD S.tm [t]) o.dst (lv.getD i .un),S.hp⟩:=by
 intro w F Θ own a hR
 have hv:=hR.tm t
 rw[hx] at hv
 simp only[rv] at hv
 obtain⟨vs,e1,h1⟩:=hv
 obtain⟨v,b,k1,k2,k3⟩:=NM lv vs _ h1 i hi
 have hrun:(execOp a.eval o).run c.P w=.ok (.value v) w:=by
  unfold execOp
  have e2:a.eval (.tmp t)=.tuple vs.toArray:=e1
  simp[ho,e2,Go.Instr.extract,k1]
 obtain⟨own',g1,g2⟩:=hR.fin o.dst hd [t] (lv.getD i .un) v b (Ks.refl _ _ _) hR.top k2 (k3.nodup (hR.nd _)) (fun x hx=> .inl ⟨t,by simp,k3.subset hx⟩) (fun x hx=>hR.lt _ x (k3.subset hx))
 exact⟨v,w,F,Θ,own',.inl hrun,g1,g2⟩
end
section
variable {c:Cx} {ops:Array Oper} {o:Oper} {l:List Oper} {S S1:St} {K:St→Prop}
theorem Cs (M:List Nat) {t i:Nat} {lv:List AV} (k:WL c ops l S1 K) (ho:o.op=.extract (.tmp t) i:=by rfl) (hm:mvB M o.dst=true:=by rfl) (hg:o.guard=none:=by rfl) (hx:S.tm t=.tp lv:=by rfl) (hi:i<lv.length:=by simp) (hd:∀k,o.dst=some k→k<S.n:=by simp)
  (e:(⟨S.n,B1 (BD S.tm [t]) o.dst (lv.getD i .un),S.hp⟩:St)=S1:=by first|(simp[H];rfl)|rfl):WL c ops (o::l) S K:=
 WL.cons (OS.op (by unfold wnt;rw[hg]) (QC hd ho hx hi)) (by rw[e];exact k)
end
theorem Rel.freezeB {w:World} {F:Nat→Nat} {Θ:Ty} {own:Who→List Nat} {S:St} {a:Act} (h:Rel w F Θ own S a) (t k:Nat) (ht:S.tm t=.pt 0 k []) (x:DD) (hk:hpg S.hp 0 k=some (.d x))
  (S':St) (hn:S'.n=S.n) (htm:∀u,u≠t→S'.tm u=S.tm u∨S'.tm u=.un) (ht':S'.tm t=.el x.vw) (hhp:∀lv q,¬(lv=0∧q=k)→hpg S'.hp lv q=hpg S.hp lv q) (hk':hpg S'.hp 0 k=none)
  (hnt:∀u,u≠t→(S'.tm u).npt (fun q=>q=k)) (hnh:∀lv q cn,hpg S'.hp lv q=some cn→cn.npt (fun q=>q=k)):∃F' Θ' own',Rel w F' Θ' own' S' a∧Stp w F Θ own w F' Θ' own':=by
 classical
 obtain⟨b,s0,cur,ty,z1,z2,z3,z4,z5,z6⟩:=h.hs 0 k _ hk
 have hvt:=h.tm t
 rw[ht] at hvt
 simp only[rv] at hvt
 obtain⟨ho,b',s1,off,y1,y2,y3⟩:=hvt
 rw[z1] at y1
 simp only[Option.some.injEq,Prod.mk.injEq] at y1
 obtain⟨rfl,rfl⟩:=y1
 rw[EB] at y2
 cases y2
 simp only[rc] at z6
 let F':=upd F b cur.size
 have hks:Ks w F w F' (fun x=>x=b):=by
  have e:w.setRow b cur=w:=setRow_self w b cur ty (0,0) z5
  have:=M2 (F:=F) (n:=cur.size) (arr:=cur) z5 (by omega) (fun _ _=>rfl)
  rwa [e] at this
 let Θ':Ty:=fun lv q=>if lv=0∧q=k then none else Θ lv q
 have hT:∀lv q,¬(lv=0∧q=k)→Θ' lv q=Θ lv q:=fun lv q hn=>if_neg hn
 have hTT:∀lv q (x:Nat×Sh),Θ lv q=some x→Θ lv q=some x:=fun _ _ _ q=>q
 let own':Who→List Nat:=fun x=>match x with
  | .t u=>if u=t then [] else if S'.tm u=S.tm u then own (.t u) else []
  | .h lv q=>if lv=0∧q=k then [] else own (.h lv q)
  | .l lv q=>if lv=0∧q=k then [] else own (.l lv q)
 have kp:∀x,x≠ .l 0 k→Kp w F w F' (own x):=fun x hx=>hks.kp (h.lt x) (fun q hq e=>h.dj (.l 0 k) x (Ne.symm hx) q (by rw[z2,e];simp) hq)
 have kp0:Kp w F w F' []:=hks.kp (by simp) (by simp)
 have src:∀x y,y∈own' x→x≠ .t t∧x≠ .h 0 k∧x≠ .l 0 k∧y∈own x:=by
  intro x y hy
  cases x with
  |t u=>
   simp only[own'] at hy
   split at hy
   ·simp at hy
   ·rename_i e
    split at hy
    ·exact⟨by simpa using e,by simp,by simp,hy⟩
    ·simp at hy
  |h lv q=>
   simp only[own'] at hy
   split at hy
   ·simp at hy
   ·rename_i e;exact⟨by simp,by simpa using e,by simp,hy⟩
  |l lv q=>
   simp only[own'] at hy
   split at hy
   ·simp at hy
   ·rename_i e;exact⟨by simp,by simp,by simpa using e,hy⟩
 refine⟨F',Θ',own',⟨h.n.trans hn.symm,h.df,fun u=> ?_,fun lv q hq=> ?_,fun lv q cn hq=> ?_,fun x=> ?_,fun x y hxy z hx hy=> ?_,fun x z hz=> ?_,fun z hz=> ?_,h.gl.ks hks⟩,⟨⟨rfl,rfl,rfl,Nat.le_refl _,hks.cell,hks.mono,fun z hz hne=>hks.out z hz (fun e=>hne ⟨.l 0 k,by rw[z2,e];simp⟩)⟩,fun x z hz=> ?_,fun lv q=>if_neg (by simp)⟩⟩
 ·by_cases hu:u=t
  ·subst hu
   rw[ht']
   simp only[rv]
   refine⟨if_pos rfl,b,0,cur.toList,y3,fun j u hu=> ?_,rp.view x _ _ (rp.keep x _ _ z6 (kp _ (by simp))),?_⟩
   ·rw[cell_of_row w b _ cur ty (0,0) z5,Nat.zero_add]
    simpa using hu
   ·show _≤upd F b cur.size b
    rw[Aw];simp
  ·have hnp:=hnt u hu
   rcases htm u hu with e|e
   ·have:own' (.t u)=own (.t u):=by show(if _ then _ else if _ then _ else _)=_;rw[if_neg hu,if_pos e]
    rw[this]
    rw[e] at hnp ⊢
    exact rv.drop hT _ _ _ hnp (rv.keep hTT _ _ _ (h.tm u) (kp _ (by simp)))
   ·rw[e]
    by_cases e2:S'.tm u=S.tm u
    ·have:own' (.t u)=own (.t u):=by show(if _ then _ else if _ then _ else _)=_;rw[if_neg hu,if_pos e2]
     rw[this]
     have h3:=h.tm u
     rw[←e2,e] at h3
     simpa only[rv] using h3
    ·have:own' (.t u)=[]:=by show(if _ then _ else if _ then _ else _)=_;rw[if_neg hu,if_neg e2]
     rw[this]
     simp only[rv]
 ·by_cases e:lv=0∧q=k
  ·exact⟨if_pos e,if_pos e,if_pos e⟩
  ·rw[hhp lv q e] at hq
   obtain⟨h1,h2,h3⟩:=h.hn lv q hq
   exact⟨(if_neg e).trans h1,(if_neg e).trans h2,(if_neg e).trans h3⟩
 ·have e:¬(lv=0∧q=k):=by
   rintro ⟨rfl,rfl⟩
   rw[hk'] at hq;cases hq
  have hnp:=hnh lv q cn hq
  rw[hhp lv q e] at hq
  obtain⟨b2,s2,cur2,t2,h1,h2,h3,h4,h5,h6⟩:=h.hs lv q cn hq
  have hne:b2≠b:=fun e2=>h.dj (.l lv q) (.l 0 k) (by simpa using e) b2 (by rw[h2];simp) (by rw[z2,e2];simp)
  refine⟨b2,s2,cur2,t2,(if_neg e).trans h1,(if_neg e).trans h2,(BE _ _ hne).trans h3,h4,h5,?_⟩
  have:own' (.h lv q)=own (.h lv q):=if_neg e
  rw[this]
  exact rc.drop hT _ _ _ hnp (rc.keep hTT _ _ _ h6 (kp _ (by simp)))
 ·cases x with
  |t u=>
   show(if _ then _ else if _ then _ else _:List Nat).Nodup
   split
   ·exact List.nodup_nil
   ·split
    ·exact h.nd _
    ·exact List.nodup_nil
  |h lv q=>show(if _ then _ else _:List Nat).Nodup;split;exact List.nodup_nil;exact h.nd _
  |l lv q=>show(if _ then _ else _:List Nat).Nodup;split;exact List.nodup_nil;exact h.nd _
 ·exact h.dj x y hxy z (src x z hx).2.2.2 (src y z hy).2.2.2
 ·exact h.lt _ z (src x z hz).2.2.2
 ·have hb:b<w.heap.size:=h.lt (.l 0 k) b (by rw[z2];simp)
  exact(BE _ _ (by omega)).trans (h.top z hz)
 ·exact .inl ⟨_,(src x z hz).2.2.2⟩
theorem Oh {S:St} {f:Nat→Option AV} {h:HP} (t k:Nat) (x:DD) (L L2:List (Nat×AV)) (hh:S.hp=f::upH h) (ht:S.tm t=.pt 0 k []) (hk:f k=some (.d x))
  (h1:∀p∈L,p.1≠t∧S.tm p.1=p.2∧p.2.cl L2) (h2:∀p∈L2,p.1≠k∧f p.1=some p.2∧p.2.cl L2):Wz S ⟨S.n,tl ((t,.el x.vw)::L),al L2::upH h⟩:=by
 intro w F Θ own a hR
 have hk2:al L2 k=none:=by
  cases hq:al L2 k with
  |none=>rfl
  |some v=>exact absurd rfl (h2 _ (D4 L2 k v hq)).1
 have hL:∀u v,al L u=some v→S.tm u=v∧v.cl L2:=fun u v hq=>(h1 _ (D4 L u v hq)).2
 have npk:∀v:AV,v.cl L2→v.npt (fun q=>q=k):=by
  have key:∀v:AV,v.npt (fun q=>hpg (al L2::upH h) 0 q=none)→v.npt (fun q=>q=k):=by
   intro v
   refine AV.npt_mono (fun q e=> ?_) v
   subst e;exact hk2
  exact fun v hv=>key v (AV.cl_npt v hv)
 -- contents that do not look at the row:those that are Ho;all others are forgotten first
 have hw:Wk S ⟨S.n,fun u=>if u=t then .pt 0 k [] else tl L u,(fun q=>if q=k then f k else al L2 q)::upH h⟩:=by
  refine⟨rfl,fun u=> ?_,fun lv q=> ?_,fun u=> ?_,fun lv q cn hq=> ?_⟩
  ·show(if u=t then _ else _)=_∨_
   by_cases hu:u=t
   ·subst hu;rw[if_pos rfl];exact .inl ht.symm
   ·rw[if_neg hu]
    show(al L u).getD .un=_∨(if u=t then _ else _)=_
    rw[if_neg hu]
    show _∨(al L u).getD .un=_
    cases hq:al L u with
    |none=>exact .inr rfl
    |some v=>exact .inl (hL u v hq).1.symm
  ·rw[hh]
   cases lv with
   |zero=>
    show(if q=k then f k else al L2 q)=f q∨_
    by_cases hq:q=k
    ·subst hq;rw[if_pos rfl];exact .inl rfl
    ·rw[if_neg hq]
     cases hq2:al L2 q with
     |none=>exact .inr ⟨rfl,by show(if q=k then f k else al L2 q)=none;rw[if_neg hq];exact hq2⟩
     |some v=>exact .inl (h2 _ (D4 L2 q v hq2)).2.1.symm
   |succ lv=>exact .inl rfl
  ·show(if u=t then _ else _:AV).npt _
   have mono : ∀ v : AV, v.cl L2 → v.npt (fun q => (if q = k then f k else al L2 q) = none) := fun v hv => AV.npt_mono (fun q e => by
    show al L2 q=none
    by_cases hq:q=k
    ·subst hq;exact hk2
    ·rw[if_neg hq] at e;exact e) v (AV.cl_npt (h:=upH h) v hv)
   by_cases hu:u=t
   ·rw[if_pos hu]
    simp only[AV.npt]
    intro _ e
    have e':(if k=k then f k else al L2 k)=none:=e
    rw[if_pos rfl,hk] at e';cases e'
   ·rw[if_neg hu]
    show((al L u).getD .un).npt _
    cases hq:al L u with
    |none=>trivial
    |some v=>exact mono v (hL u v hq).2
  ·have mono : ∀ v : AV, v.cl L2 → v.npt (fun q => (if q = k then f k else al L2 q) = none) := fun v hv => AV.npt_mono (fun q e => by
    show al L2 q=none
    by_cases hq:q=k
    ·subst hq;exact hk2
    ·rw[if_neg hq] at e;exact e) v (AV.cl_npt (h:=upH h) v hv)
   cases lv with
   |zero=>
    have hq':(if q=k then f k else al L2 q)=some cn:=hq
    by_cases hqk:q=k
    ·rw[if_pos hqk,hk] at hq'
     cases hq';trivial
    ·rw[if_neg hqk] at hq'
     exact mono cn (h2 _ (D4 L2 q cn hq')).2.2
   |succ lv=>
    have hq':hpg (upH h) lv q=some cn:=hq
    rw[DM] at hq'
    cases hh2:hpg h lv q with
    |none=>rw[hh2] at hq';cases hq'
    |some c0=>
     rw[hh2] at hq'
     simp only[Option.map_some,Option.some.injEq] at hq'
     subst hq'
     exact AV.npt_up _ c0
 obtain⟨Θ1,own1,r1,r2⟩:=hR.weak hw
 obtain ⟨F2, Θ2, own2, m1, m2⟩ := r1.freezeB t k (if_pos rfl) x (by show (if k = k then f k else _) = _; rw [if_pos rfl]; exact hk) ⟨S.n, tl ((t, .el x.vw) :: L), al L2 :: upH h⟩ rfl (fun u hu => by
   left
   show((al ((t,_)::L) u).getD .un)=(if u=t then _ else _)
   rw[if_neg hu]
   simp only[al,beq_eq_false_iff_ne.2 hu,cond_false]
   rfl) (by simp [tl, al]) (fun lv q hne => by
   cases lv with
   |zero=>
    show al L2 q=(if q=k then f k else al L2 q)
    rw[if_neg (fun e=>hne ⟨rfl,e⟩)]
   | succ lv => rfl) hk2 (fun u hu => by
   show((al ((t,_)::L) u).getD .un).npt _
   simp only[al,beq_eq_false_iff_ne.2 hu,cond_false]
   cases hq:al L u with
   |none=>trivial
   | some v => exact npk v (hL u v hq).2) (fun lv q cn hq => by
   cases lv with
   |zero=>exact npk cn (h2 _ (D4 L2 q cn hq)).2.2
   |succ lv=>
    have hq':hpg (upH h) lv q=some cn:=hq
    rw[DM] at hq'
    cases hh2:hpg h lv q with
    |none=>rw[hh2] at hq';cases hq'
    |some c0=>
     rw[hh2] at hq'
     simp only[Option.map_some,Option.some.injEq] at hq'
     subst hq'
     exact AV.npt_up _ c0)
 exact⟨F2,Θ2,own2,m1,r2.trans m2⟩
theorem W.frzB {c:Cx} {code:Code} {S:St} {Q:Exit→St→Prop} {h:HP} (t k:Nat) (x:DD) (ts ks:List Nat) (hh:S.hp.tail=upH h) (h0:S.hp≠[]) (ht:S.tm t=.pt 0 k []) (hk:hd S k=some (.d x))
  (h1:∀p∈tls S ts,p.1≠t∧p.2.cl (hls (hd S) ks)) (h2:∀p∈hls (hd S) ks,p.1≠k∧p.2.cl (hls (hd S) ks)) {T:St} (e:(⟨S.n,tl ((t,.el x.vw)::tls S ts),al (hls (hd S) ks)::S.hp.tail⟩:St)=T) (w:W c code T Q):W c code S Q:=by
 subst e
 have e1:S.hp=hd S::upH h:=by rw[←hh];exact Vy h0
 rw[hh] at w
 refine W.ahead (Oh t k x (tls S ts) (hls (hd S) ks) e1 ht hk (fun p hp=>⟨(h1 p hp).1,?_,(h1 p hp).2⟩) (fun p hp=>⟨(h2 p hp).1,Gz _ _ p hp,(h2 p hp).2⟩)) w
 obtain⟨t, -,rfl⟩:=List.mem_map.1 hp
 rfl
section
variable {α β γ:Type} [DecidableEq γ]
def Ez (f:β→Nat):List β→Nat
 |[]=>0
 |c::l=>f c+Ez f l
theorem NE (f g:β→Nat):∀l:List β,Ez (fun c=>f c+g c) l=Ez f l+Ez g l
 |[]=>rfl
 |c::l=>by simp only[Ez,NE f g l];omega
theorem SS (l:List β):Ez (fun _:β=>0) l=0:=by induction l<;>simp_all [Ez]
theorem ND (g:β→γ) (y:γ):∀l:List β,(l.map g).Nodup→Ez (fun c=>if y=g c then 1 else 0) l≤1
 |[],_=>by simp[Ez]
 |c::l,h=>by
  simp only[List.map_cons,List.nodup_cons] at h
  have ih:=ND g y l h.2
  simp only[Ez]
  by_cases e:y=g c
  ·have:Ez (fun c=>if y=g c then 1 else 0) l=0:=by
    have:∀m:List β,(∀c∈m,y≠g c)→Ez (fun c=>if y=g c then 1 else 0) m=0:=by
     intro m;induction m with
     |nil=>intro _;rfl
     |cons d m ih=>intro hm;simp only[Ez];rw[if_neg (hm d (by simp)),ih (fun c hc=>hm c (by simp[hc]))]
    exact this l (fun d hd q=>h.1 (by rw[←e,q];exact List.mem_map_of_mem hd))
   rw[this,if_pos e];omega
  ·rw[if_neg e];omega
theorem JF (g:β→γ) (f:α→γ) (cs:List β) (h:(cs.map g).Nodup):∀a:List α,Ez (fun c=>a.countP fun x=>decide (f x=g c)) cs≤a.length
 |[]=>by simp[SS]
 |x::a=>by
  have ih:=JF g f cs h a
  have h1:=ND g (f x) cs h
  have e:(fun c=>(x::a).countP fun x=>decide (f x=g c))=fun c=>(a.countP fun x=>decide (f x=g c))+if f x=g c then 1 else 0:=by
   funext c;rw[List.countP_cons];simp
  rw[e,NE,List.length_cons];omega
theorem NC (f:β→Nat):∀l:List β,(∀c∈l,1≤f c)→Ez f l≤l.length→∀c∈l,f c=1
 |[],_,_,c,hc=>by simp at hc
 |d::l,h1,h2,c,hc=>by
  have hl:l.length≤Ez f l:=by
   have:∀m:List β,(∀c∈m,1≤f c)→m.length≤Ez f m:=by
    intro m;induction m with
    |nil=>intro _;simp
    |cons d m ih=>intro hm;simp only[Ez,List.length_cons];have:=hm d (by simp);have:=ih (fun c hc=>hm c (by simp[hc]));omega
   exact this l (fun c hc=>h1 c (by simp[hc]))
  simp only[Ez,List.length_cons] at h2
  have hd:=h1 d (by simp)
  rcases List.mem_cons.1 hc with rfl|hc
  ·omega
  ·exact NC f l (fun c hc=>h1 c (by simp[hc])) (by omega) c hc
theorem W9 (g:β→γ) (f:α→γ) (q:β→α→Bool) (cs:List β) (a:List α) (hn:(cs.map g).Nodup) (hl:a.length=cs.length):
  (∀c∈cs,(a.countP fun x=>decide (f x=g c) && q c x)=1)↔(∀c∈cs,∃x,a.find? (fun x=>decide (f x=g c))=some x∧q c x=true):=by
 have hs:=JF g f cs hn a
 have one:(∀c∈cs,1≤a.countP fun x=>decide (f x=g c))→∀c∈cs,(a.countP fun x=>decide (f x=g c))=1:=fun h=>NC _ cs h (by omega)
 constructor
 ·intro h c hc
  have h1 := one (fun d hd => by
   have:=h d hd
   have h2:(a.countP fun x=>decide (f x=g d) && q d x)≤a.countP fun x=>decide (f x=g d):=List.countP_mono_left (fun x _ hx=>by simp at hx ⊢;exact hx.1)
   omega) c hc
  cases hf:a.find? (fun x=>decide (f x=g c)) with
  |none=>
   rw[List.find?_eq_none] at hf
   have:(a.countP fun x=>decide (f x=g c))=0:=List.countP_eq_zero.2 (fun x hx=>hf x hx)
   omega
  |some x=>
   refine⟨x,rfl,?_⟩
   have h2:=h c hc
   -- the element that is counted
   obtain⟨y,hy,hy2⟩:=List.countP_pos_iff.1 (show 0<a.countP fun x=>decide (f x=g c) && q c x by omega)
   simp only[Bool.and_eq_true,decide_eq_true_eq] at hy2
   have key:∀l:List α,(l.countP fun x=>decide (f x=g c))≤1→y∈l→l.find? (fun x=>decide (f x=g c))=some x→x=y:=by
    intro l;induction l with
    |nil=>intro _ hy;simp at hy
    |cons z l ih=>
     intro hc1 hy hf
     rw[List.countP_cons] at hc1
     by_cases e:f z=g c
     ·rw[List.find?_cons_of_pos (by simpa using e)] at hf
      cases hf
      rcases List.mem_cons.1 hy with rfl|hy
      ·rfl
      ·have:0<l.countP fun x=>decide (f x=g c):=List.countP_pos_iff.2 ⟨y,hy,by simpa using hy2.1⟩
       simp[e] at hc1;have:=hc1 y hy;exact absurd hy2.1 this
     ·rw[List.find?_cons_of_neg (by simpa using e)] at hf
      rcases List.mem_cons.1 hy with rfl|hy
      ·exact absurd hy2.1 e
      ·exact ih (by simp[e] at hc1 ⊢;exact hc1) hy hf
   rw[key a (by omega) hy hf];exact hy2.2
 ·intro h c hc
  have h1 := one (fun d hd => by
   obtain⟨x,hx, -⟩:=h d hd
   have h2:=List.find?_some hx
   have h3:=List.mem_of_find?_eq_some hx
   exact List.countP_pos_iff.2 ⟨x,h3,h2⟩) c hc
  obtain⟨x,hx,hq⟩:=h c hc
  have h2:=List.find?_some hx
  have h3:=List.mem_of_find?_eq_some hx
  have h4:0<a.countP fun x=>decide (f x=g c) && q c x:=List.countP_pos_iff.2 ⟨x,h3,by simp only[h2,hq,Bool.and_self]⟩
  have h5:(a.countP fun x=>decide (f x=g c) && q c x)≤a.countP fun x=>decide (f x=g c):=List.countP_mono_left (fun x _ hx=>by simp at hx ⊢;exact hx.1)
  omega
end
def cM:Ren:=⟨fun|156=>41|165=>100|166=>101|169=>102|240=>163|241=>164|276=>242|277=>243|n=>n,fun|0=>0|3=>3|4=>4|5=>5|9=>9|20=>20|37=>68|72=>153|70=>151|75=>156|127=>237|164=>295|31=>39|76=>157|80=>159|n=>n,fun|n=>n⟩
theorem T6:Go.Proofs.Lays.n156 prog cM:={
 mixed:=by kernel_rfl
 f156:=func41.trans (congrArg some (by kernel_rfl))
 f165:=func100.trans (congrArg some (by kernel_rfl))
 f166:=func101.trans (congrArg some (by kernel_rfl))
 f169:=func102.trans (congrArg some (by kernel_rfl))
 f240:=func163.trans (congrArg some (by kernel_rfl))
 f241:=func164.trans (congrArg some (by kernel_rfl))
 f276:=func242.trans (congrArg some (by kernel_rfl))
 f277:=func243.trans (congrArg some (by kernel_rfl))
 t0:=underlying0
 a0:=Tryz.isAgg0
 z0:=Tryz.sizeOf0
 v0:=Tryz.zeroValue0
 t3:=underlying3
 a3:=Tryz.isAgg3
 z3:=Tryz.sizeOf3
 v3:=Tryz.zeroValue3
 t4:=underlying4
 a4:=Tryz.isAgg4
 z4:=Tryz.sizeOf4
 v4:=Tryz.zeroValue4
 t9:=underlying9
 a9:=Tryz.isAgg9
 z9:=Tryz.sizeOf9
 v9:=Tryz.zeroValue9
 t20:=underlying20
 a20:=Tryz.isAgg20
 z20:=Tryz.sizeOf20
 v20:=Tryz.zeroValue20
 t31:=underlying39
 a31:=Tryz.isAgg39
 z31:=Tryz.sizeOf39
 v31:=Tryz.zeroValue39
 t37:=underlying68
 a37:=Tryz.isAgg68
 z37:=Tryz.sizeOf68
 v37:=Tryz.zeroValue68
 t70:=underlying151
 a70:=Tryz.isAgg151
 z70:=Tryz.sizeOf151
 v70:=Tryz.zeroValue151
 t72:=underlying153
 a72:=Tryz.isAgg153
 z72:=Tryz.sizeOf153
 v72:=Tryz.zeroValue153
 t75:=underlying156
 a75:=Tryz.isAgg156
 z75:=Tryz.sizeOf156
 v75:=Tryz.zeroValue156
 t76:=underlying157
 a76:=Tryz.isAgg157
 z76:=Tryz.sizeOf157
 v76:=Tryz.zeroValue157
 t127:=underlying237
 a127:=Tryz.isAgg237
 z127:=Tryz.sizeOf237
 v127:=Tryz.zeroValue237
 t164:=underlying295
 a164:=Tryz.isAgg295
 z164:=Tryz.sizeOf295
 v164:=Tryz.zeroValue295 }
theorem ZP:Builder.Extra prog cM:={
 sizeBuilder:=by kernel_rfl
 liesBuilder:=by kernel_rfl
 t5:=underlying5
 a5:=Tryz.isAgg5
 z5:=Tryz.sizeOf5
 v5:=Tryz.zeroValue5
 infoByte:=by kernel_rfl
 cellsByte:=by kernel_rfl
 sizeByte:=by kernel_rfl
 neB5:=by decide }
def jnB (b:BA') (l:List BA'):BA':=⟨(Lib.join (l.map (·.data.toList)) b.data.toList).toArray⟩
theorem kL (a c d b:BA'):jnB b [a,c,d]=a++b++c++b++d:=by
 apply ByteArray.ext
 apply Array.ext'
 simp[jnB,Lib.join_cons,Lib.joinTail,ByteArray.data_append]
theorem kK (a c d e b:BA'):jnB b [a,c,d,e]=a++b++c++b++d++b++e:=by
 apply ByteArray.ext
 apply Array.ext'
 simp[jnB,Lib.join_cons,Lib.joinTail,ByteArray.data_append]
theorem kJ (b:BA') (l:List BA'):(jnB b l).size=(Lib.join (l.map (·.data.toList)) b.data.toList).length:=by
 show(Lib.join (l.map (·.data.toList)) b.data.toList).toArray.size=_
 simp
theorem Z1 {w:World} {F:Nat→Nat} (hF:∀b,w.heap.size≤b→F b=0) {l:List BA'} {cs:List Value} (h:rp w F (.sl false .one (l.map dS)) cs []) (h0:0<l.length):
  ∃b off cap,cs=[.slice (some ⟨b,off,none⟩) l.length cap]∧l.length≤cap∧b<w.heap.size∧∀k (hk:k<l.length),w.cell? ⟨b,off+k,none⟩=some (.string l[k]):=by
 simp only[rp] at h
 obtain⟨hs,hp,a,cap,h1,h2,h3,h4,h5⟩:=h
 rcases h5 with ⟨-,h5, -⟩|⟨b,off,r,ha,he,hf,h6⟩
 ·have:l=[]:=by simpa using h5
  subst this;simp at h0
 ·refine⟨b,off,cap,by rw[h1,ha];simp,by simpa using h2,?_,fun k hk=> ?_⟩
  ·rcases Nat.lt_or_ge b w.heap.size with q|q
   ·exact q
   ·have:=hF b q
    simp[Sh.w] at hf;omega
  ·obtain⟨c,bk,g1,g2, -⟩:=rpE.get (l.map dS) off r hs he k (dS l[k]) (by simp[List.getElem?_eq_getElem hk])
   have e:dS l[k]=.lf (.string l[k]):=rfl
   rw[e] at g2
   simp only[rp] at g2
   rw[g2.1] at g1
   have:=g1 0 (.string l[k]) rfl
   simpa[Sh.w] using this
theorem ZS (l:List BA') (b:BA') (hl:l.length≤1000) (hs:(jnB b l).size≤1073741824) (w:World) (g off cap:Nat) (hc:l.length≤cap) (hg:g<w.heap.size)
  (hE:∀k (hk:k<l.length),w.cell? ⟨g,off+k,none⟩=some (.string l[k])):
  Calls prog 18 #[.slice (some ⟨g,off,none⟩) l.length cap,.string b] w fun e w'=>e=.returned (.string (jnB b l))∧Below w.heap.size w w':=by
 rw[kJ] at hs
 go_enter func18,Tryz.ntmps18
 go_wp2_with fail
 refine(Any.strings_Join T6 ZP g off cap l b w (fun j x hx=> ?_) hg (by omega) hc (Nat.le_trans hs (by decide))).mono ?_
 ·obtain⟨hj,rfl⟩:=List.getElem?_eq_some_iff.1 hx
  exact hE j hj
 rintro e w' ⟨rfl,hB⟩
 go_wp2
 go_ret
 exact⟨rfl,hB⟩
theorem R8 (l:List BA') (b:BA') (h0:0<l.length) (hl:l.length≤1000) (hs:(jnB b l).size≤1073741824) (h:HP):CS cx.P 18 [.d (.sl false .one (l.map dS)),dS' b] h (dS' (jnB b l)) h:=by
 refine CS.ofVal (c:=cx) (args:=[.sl false .one (l.map dS),.lf (.string b)]) (v:=.string (jnB b l)) (fun w F=>⟨?_,rfl⟩) (fun w vs ⟨F,hF,_,hn,hv⟩=> ?_) h
 ·simp only[rp,BK]
  exact⟨trivial,by unfold maxLen;omega,trivial⟩
 ·obtain⟨c0,q0,e0⟩:=hv 0 _ rfl
  obtain⟨c1,q1,e1⟩:=hv 1 _ rfl
  have ev:(DD.sl false .one (l.map dS)).vw=.sl false .one (l.map dS):=by simp only[DD.vw,DD.vws_eq,List.map_map];rfl
  rw[ev] at q0
  simp only[DD.vw,rp] at q1
  obtain⟨rfl, -⟩:=q1
  obtain⟨g,off,cap,rfl,hc,hg,hE⟩:=Z1 hF q0 h0
  match vs,hn,e0,e1 with
  |[u,v],_,e0,e1=>
   simp[DD.mk] at e0 e1
   subst e0;subst e1
   exact ZS l b hl hs w g off cap hc hg hE
