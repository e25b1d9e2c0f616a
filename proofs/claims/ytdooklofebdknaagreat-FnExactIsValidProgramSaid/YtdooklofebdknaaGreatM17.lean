/- Part 17. No condition. -/
import Derived.Test.YtdooklofebdknaaGreatM16
namespace Go.Proofs.YtdooklofebdknaaGreat
open Go.RowKit
set_option linter.unusedSimpArgs false
set_option linter.unusedVariables false
theorem Nb (place:Nat→Option (Nat×Nat)) (hp:∀i,place i=some (i,1)):∀(vs:List Value) (c1 z:List Value),(∀v∈vs,v.oneCell'=true)→z.length=vs.length→
  Go.Instr.fill place (c1++z).toArray ((List.range' c1.length vs.length).zip vs)=some (c1++vs).toArray
 |[],c1,z,_,hz=>by
  have:z=[]:=List.eq_nil_of_length_eq_zero (by simpa using hz)
  subst this;simp[Go.Instr.fill]
 |v::vs,c1,[],_,hz=>by simp at hz
 |v::vs,c1,z0::z,hv,hz=>by
  have h1:v.cells=[v].toArray:=by have:=hv v (by simp);cases v<;>first|rfl|simp[Value.oneCell'] at this
  have ih:=Nb place hp vs (c1++[v]) z (fun x hx=>hv x (by simp[hx])) (by simpa using hz)
  have h2:=Nf place c1.length c1.length 1 v [v] h1 (hp _) rfl c1 [z0] z rfl rfl ((List.range' (c1.length+1) vs.length).zip vs)
  simp only[List.length_append,List.length_singleton] at ih
  simp only[List.length_cons,List.range'_succ,List.zip_cons_cons]
  have e1:c1++z0::z=c1++([z0]++z):=by simp
  have e2:c1++([v]++z)=c1++[v]++z:=by simp
  rw[e1,h2,e2,ih]
  simp
def AV.isF:AV→Prop
 | .fn _ _=>True
 |_=>False
theorem Q8 {w:World} {F:Nat→Nat} {Θ:Ty}:∀(l:List AV) (vs:List Value),(∀a∈l,a.isF)→rvS w F Θ l vs []→∀v∈vs,v.oneCell'=true
 |[],vs,_,h,v,hv=>by
  simp only[rvS] at h
  rw[h.1] at hv;simp at hv
 |a::l,vs,hl,h,v,hv=>by
  simp only[rvS] at h
  obtain⟨u,r,b1,b2,rfl,hb,h1,h2⟩:=h
  obtain⟨rfl,rfl⟩:=List.append_eq_nil_iff.1 hb.symm
  rcases List.mem_cons.1 hv with rfl|hv
  ·have:=hl a (by simp)
   cases a<;>simp only[AV.isF] at this
   simp only[rv] at h1
   obtain⟨vs,rfl, -⟩:=h1
   rfl
  ·exact Q8 l r (fun x hx=>hl x (by simp[hx])) h2 v hv
theorem Tr {w:World} {F:Nat→Nat} {Θ:Ty} {own:Who→List Nat} {S:St} {a:Act} (h:Rel w F Θ own S a):∀ts:List Nat,rvS w F Θ (ts.map fun t=>(S.tm t).vw) (ts.map fun t=>a.eval (.tmp t)) []
 |[]=>by simp[rvS]
 |t::ts=>by
  simp only[List.map_cons,rvS]
  exact⟨_,_,[],[],rfl,rfl,rv.view _ _ _ (h.tm t),Tr h ts⟩
theorem WL.opFr {c:Cx} {ops:Array Oper} {o:Oper} {l:List Oper} {S:St} {K:St→Prop} (hg:o.guard=none) {k0:Nat} (hd:o.dst=some k0) (hk:k0<S.n) (T:Nat) (ts:List Nat) {ps:Array (Nat×Operand)} (ho:o.op=.buildSlice T ts.length ps) (hps:ps.toList=(List.range' 0 ts.length).zip (ts.map .tmp))
  {e:Nat} (hu:c.P.underlying T=some (.slice e)) {ii:TypeInfo} (hi:c.P.info? e=some ii) (hsz:ii.size=1) {z:Value} (hz:ii.zero=some z) (hzc:z.cells.size=1) (hn:ts.length≤1000) (h0:0<ts.length) {fs:List AV} (hf:(ts.map fun t=>(S.tm t).vw)=fs) (hfF:∀a∈fs,a.isF)
  {S1:St} (e1:(⟨S.n,upd S.tm k0 (.fr fs),S.hp⟩:St)=S1) (kk:WL c ops l S1 K):WL c ops (o::l) S K:=fun is hi2=>by
 subst e1
 cases is with
 |nil=>simp at hi2
 |cons i is=>
  simp only[List.map_cons,List.cons.injEq] at hi2
  intro w F Θ own a hR Q hQ
  simp only[wpOps,hi2.1]
  have hv:=Tr hR ts
  rw[hf] at hv
  have hone:=Q8 fs _ hfF hv
  have hlen:=rvS.length fs _ _ hv
  rw[List.length_map] at hlen
  let vs:=ts.map fun t=>a.eval (.tmp t)
  have hvl:vs.length=ts.length:=by simp[vs]
  have hrun:(execOp a.eval o).run c.P w=.ok (.value (.slice (some ⟨w.heap.size,0,none⟩) ts.length ts.length)) (w.alloc (.cells vs.toArray e)):=by
   have hfill:=Nb (fun i=>some (i*1,1)) (fun i=>by simp) vs [] (List.replicate ts.length (z.cells[0]!)) hone (by simp[vs])
   simp only[List.nil_append,List.length_nil,hvl] at hfill
   have hzip:∀(ns:List Nat) (us:List Nat),(ns.zip (us.map Operand.tmp)).map (fun x=>(x.1,a.eval x.2))=ns.zip (us.map fun t=>a.eval (.tmp t)):=by
    intro ns us
    induction us generalizing ns with
    |nil=>simp
    |cons u us ih=>cases ns with
     |nil=>simp
     |cons n ns=>simp[ih]
   have hz2:(ps.map fun (i,x)=>(i,a.eval x)).toList=(List.range' 0 ts.length).zip vs:=by
    rw[Array.toList_map,hps];exact hzip _ _
   have hne:¬ts.length=0:=by omega
   have h24:¬16777216<ts.length:=by omega
   have hcells:((Array.range ts.length).map fun i=>z.cells[i % 1]!)=(List.replicate ts.length (z.cells[0]!)).toArray:=by
    apply Array.ext
    ·simp
    ·intro j h1 h2
     simp[Nat.mod_one]
   unfold execOp
   simp only[ho,Go.Instr.buildSlice,Sem.run_bind,run_underlying hu,Result.andThen_ok]
   simp[sizeOf,typeInfo,hi,hsz,newRow,h24,hne,zeroValue,hz,hzc,hcells]
   have hq:List.map (fun x=>(x.fst,a.eval x.snd)) ps.toList=(List.range' 0 ts.length).zip vs:=by rw[hps];exact hzip _ _
   have hz0:z.cells[0]! =z.cells[0]:=getElem!_pos z.cells 0 (by omega)
   have hf2:=hfill
   rw[hz0] at hf2
   have ef:(fun i:Nat=>some (i*1,1))=fun i=>some (i,1):=by funext i;simp
   rw[ef] at hf2
   have er:(List.replicate ts.length z.cells[0]).toArray=Array.replicate ts.length z.cells[0]:=by simp
   rw[er] at hf2
   rw[hq,hf2]
   simp
  have kp:=(Ff (w:=w) (F:=F) (o:=.cells vs.toArray e) (n:=ts.length) (fun _=>False) hR.top).kp (bs:=[]) (by simp) (by simp)
  have hat:(w.alloc (.cells vs.toArray e)).heap[w.heap.size]? =some (.cells vs.toArray e (0,0)):=Jy rfl
  have hv2:rv (w.alloc (.cells vs.toArray e)) (upd F w.heap.size ts.length) Θ (.fr fs) (.slice (some ⟨w.heap.size,0,none⟩) ts.length ts.length) []:=by
   simp only[rv]
   refine⟨trivial,w.heap.size,vs,by rw[←hlen],by unfold maxLen;omega,?_,rvS.keep (fun _ _ _ h=>h) fs vs [] hv kp,by rw[Au];omega⟩
   intro j u hu
   rw[cell_of_row _ _ _ _ e (0,0) hat]
   simpa using hu
  obtain⟨own',hR2,hS2⟩:=Rel.fin hR o.dst (fun q hq=>by rw[hd] at hq;cases hq;exact hk) [] (.fr fs) _ [] (Ff (n:=ts.length) _ hR.top) (GY hR.top) hv2 List.nodup_nil (by simp) (by simp)
  have hw:Region.wanted o (yielded ops a.tmps)=true:=Dx (c:=c) hR (by unfold wnt;rw[hg])
  rw[if_pos hw]
  have e3:(⟨S.n,B0 (BB S.tm []) o.dst (.fr fs),S.hp⟩:St)=⟨S.n,upd S.tm k0 (.fr fs),S.hp⟩:=by rw[hd];rfl
  rw[e3] at hR2
  refine .inl ?_
  unfold Oper.wp
  rw[hrun]
  exact kk is hi2.2 _ _ Θ own' _ hR2 Q fun S' a' w' F' Θ' own'' g1 g2 g3=>hQ S' a' w' F' Θ' own'' g1 g2 (hS2.trans g3)
theorem UO {w:World} {F:Nat→Nat} {Θ:Ty}:∀(l:List AV) (vs:List Value),rvS w F Θ l vs []→∀(j:Nat) (a:AV),l[j]? =some a→∃v,vs[j]? =some v∧rv w F Θ a v []
 |[],_,_,j,a,h=>by simp at h
 |b::l,vs,h,j,a,ha=>by
  simp only[rvS] at h
  obtain⟨v,r,b1,b2,rfl,hb,h1,h2⟩:=h
  obtain⟨rfl,rfl⟩:=List.append_eq_nil_iff.1 hb.symm
  cases j with
  |zero=>simp only[List.getElem?_cons_zero,Option.some.injEq] at ha;subst ha;exact⟨v,rfl,h1⟩
  |succ j=>simpa using UO l r h2 j a (by simpa using ha)
theorem WL.lenFr {c:Cx} {ops:Array Oper} {o:Oper} {l:List Oper} {S:St} {K:St→Prop} (hg:o.guard=none) {k0:Nat} (hd:o.dst=some k0) (hk:k0<S.n) (T:Nat) (x:Operand) (ho:o.op=.call { callee:=.builtin .len,args:= #[x],argTypes:= #[T] }) {e:Nat} (hu:c.P.underlying T=some (.slice e)) {fs:List AV} (hx:evT c 0 S x=.fr fs) (ox:okO c 0 x)
  {S1:St} (e1:(⟨S.n,upd S.tm k0 (.d (.lf (.int .i64 (fs.length:Int)))),S.hp⟩:St)=S1) (kk:WL c ops l S1 K):WL c ops (o::l) S K:=
 WL.opVal hg hd hk _ (fun w F Θ own a hR => by
  have hv:=BT (T:=0) hR ox
  rw[hx] at hv
  simp only[rv] at hv
  obtain⟨-,b,vs,h1,h2, -⟩:=hv
  refine⟨.int .i64 fs.length,?_,?_⟩
  ·unfold execOp
   simp[ho,h1,resolve,invoke,builtin,Builtin.len_,run_underlying hu,goInt]
  ·unfold maxLen at h2
   exact Dp (by simp[BL,IntKind.min,IntKind.max,IntKind.bits,IntKind.signed];omega)) e1 kk
theorem WL.ixFr {c:Cx} {ops:Array Oper} {o:Oper} {l:List Oper} {S:St} {K:St→Prop} (hg:o.guard=none) {k0:Nat} (hd:o.dst=some k0) (hk:k0<S.n) (T:Nat) (x i:Operand) (ho:o.op=.indexAddr T x i) {e:Nat} (hu:c.P.underlying T=some (.slice e)) {ii:TypeInfo} (hi:c.P.info? e=some ii) (hsz:ii.size=1) {fs:List AV} (hx:evT c T S x=.fr fs) (ox:okO c T x) {ki:IntKind} (j:Nat) (hj:evT c 0 S i=.d (.lf (.int ki (j:Int)))) (oi:okO c 0 i) {f:AV} (hf:fs[j]? =some f)
  {S1:St} (e1:(⟨S.n,upd S.tm k0 (.ep f),S.hp⟩:St)=S1) (kk:WL c ops l S1 K):WL c ops (o::l) S K:=
 WL.opVal hg hd hk (.ep f) (fun w F Θ own a hR => by
  have hv:=BT (T:=T) hR ox
  rw[hx] at hv
  simp only[rv] at hv
  obtain⟨-,b,vs,h1,h2,h3,h4,h5⟩:=hv
  obtain⟨q4, -⟩:=CN hR hj oi
  have hlt:=(List.getElem?_eq_some_iff.1 hf).1
  obtain⟨u,g1,g2⟩:=UO fs vs h4 j f hf
  refine⟨.pointer (some ⟨b,j,none⟩),?_,?_⟩
  ·unfold execOp
   have hl:0≤(j:Int)∧(j:Int)<(fs.length:Int):=⟨by omega,by omega⟩
   simp[ho,h1,q4,Go.Instr.indexAt,asIntOf,run_underlying hu,hl,sizeOf,typeInfo,hi,hsz,Addr.add_lit,hlt]
  ·simp only[rv]
   refine⟨trivial,b,j,u,rfl,?_,g2,by omega⟩
   intro q y hq
   have hq0:q=0:=by have:=(List.getElem?_eq_some_iff.1 hq).1;simpa using this
   subst hq0
   have:=h3 j u g1
   simp at hq
   subst hq
   simpa using this) e1 kk
theorem WL.ldEp {c:Cx} {ops:Array Oper} {o:Oper} {l:List Oper} {S:St} {K:St→Prop} (hg:o.guard=none) {k0:Nat} (hd:o.dst=some k0) (hk:k0<S.n) (T:Nat) (x:Operand) (ho:o.op=.load T x) (hT:(isAgg T).run c.P=fun w=> .ok false w) {f:AV} (hx:evT c 0 S x=.ep f) (ox:okO c 0 x)
  {S1:St} (e1:(⟨S.n,upd S.tm k0 f,S.hp⟩:St)=S1) (kk:WL c ops l S1 K):WL c ops (o::l) S K:=
 WL.opVal hg hd hk f (fun w F Θ own a hR => by
  have hv:=BT (T:=0) hR ox
  rw[hx] at hv
  simp only[rv] at hv
  obtain⟨-,b,off,u,h1,h2,h3, -⟩:=hv
  have hc:=h2 0 u rfl
  simp only[Nat.add_zero] at hc
  refine⟨u,?_,h3⟩
  unfold execOp
  have hr:(isAgg T).run c.P w=.ok false w:=by rw[hT]
  simp[ho,h1,Go.Instr.loadAt,Go.Instr.sureAddr,loadVar,hr,load,Sem.run,hc]) e1 kk
class Ct (c:Cx) (g:Nat) (as':List AV) (pre:outParam Prop) (r:outParam AV):Prop where
 ok:∃fn body,CT c.P g fn body
 cs:pre→∀h,CS c.P g as' h r h
theorem fk1 {c:Cx} {g:Nat} {fn:Func} (h:c.P.funcs[g]? =some fn) (hb:fn.body.isSome=true:=by rfl) (hnm:(fn.name== "runtime.NumGoroutine")=false:=by rfl):∃fn body,CT c.P g fn body:=by
 obtain⟨b,h1⟩:=fok (c:=c) h hb hnm
 exact⟨fn,b,h1⟩
def Hi (o:Oper):Bool:=match o.op with
 | .call { callee:=.value _,.. }=>true
 |_=>false
structure Two (p q:Prop):Prop where
 l:p
 r:q
structure RG (p:Prop):Prop where
 r:p
structure LF (p:Prop):Prop where
 r:p
structure RF (p q:Prop):Prop where
 r:p→q
structure RL (c:Cx) (rs:List ResultVar) (S:St) (r:AV):Prop where
 ok:∀x∈rs,L0 c S x∧(J4 S x).nz
 nd:(rs.map (FY S)).Nodup
 eq : (match rs.map (fun x => (J4 S x).dn) with
  |[x]=>x
  |l=> .tp l)=r
structure RQ (c:Cx) (rs:List ResultVar) (h':HP) (r:AV) (e:Exit) (S:St):Prop where
 e:e=.normal∨e=.ret
 h:∃f1,S.hp=f1::upH h'
 r:RL c rs S r
theorem RL.res {c:Cx} {fn:Func} {rs:List ResultVar} {S:St} {r:AV} (hr:fn.results.toList=rs) (h:RL c rs S r):Res c fn S r:=by
 unfold Res
 rw[hr]
 exact⟨h.ok,h.nd,h.eq.symm⟩
theorem Xe {c:Cx} {f:Nat} {fn:Func} {body:Code} {args:List AV} {h h':HP} {r:AV} (hget:c.P.funcs[f]? =some fn) (hbd:fn.body=some body) (n:Nat) (rs:List ResultVar) (hW:W c body ⟨n,tl (mkl 0 args),al []::upH h⟩ (RQ c rs h' r)) (hrs:fn.results.toList=rs:=by rfl) (hn:fn.ntmps=n:=by rfl) (hlen:args.length≤n:=by simp) (hnm:(fn.name== "runtime.NumGoroutine")=false:=by rfl):CS c.P f args h r h':=
 Ze hget hbd n (hW.mono fun e S q=>⟨q.e,q.h,q.r.res hrs⟩) hn hlen hnm
def vwR:List ResultVar→St→St
 |[],S=>S
 | .tmp t::l,S=>vwR l ⟨S.n,upd S.tm t (S.tm t).vw,S.hp⟩
 | .cell t _::l,S=>match S.tm t with
  | .pt 0 k []=>match hpg S.hp 0 k with
   |some (.d x)=>vwR l ⟨S.n,S.tm,hps S.hp 0 k (some (.d x.vw))⟩
   |_=>vwR l S
  |_=>vwR l S
theorem bW (S:St) (ts:List Nat):Wz S ⟨S.n,BB S.tm ts,S.hp⟩:=fun w F Θ own a hR=>by
 obtain⟨own2,g1,g2⟩:=hR.fin none (by simp) ts .un undef [] (Ks.refl _ _ _) hR.top (by simp only[rv]) List.nodup_nil (by simp) (by simp)
 exact⟨F,Θ,own2,g1,g2⟩
theorem bV {S:St} {k:Nat} {x:DD} (hk:hpg S.hp 0 k=some (.d x)):Wz S ⟨S.n,S.tm,hps S.hp 0 k (some (.d x.vw))⟩:=fun w F Θ own a hR=>by
 have hl:=Lm _ _ _ _ hk
 let own':Who→List Nat:=fun y=>if y=.h 0 k then [] else own y
 have o1:∀y b,b∈own' y→b∈own y:=fun y b hb=>by
  have hb':b∈(if y=.h 0 k then [] else own y):=hb
  split at hb'
  ·simp at hb'
  ·exact hb'
 have o2:∀y,y≠ .h 0 k→own' y=own y:=fun y hy=>if_neg hy
 refine⟨F,Θ,own',⟨hR.n,hR.df,fun t=>by rw[o2 _ (by simp)];exact hR.tm t,fun lv q hq=> ?_,fun lv q cn hq=> ?_,fun y=> ?_,fun y z hyz b hb hc=>hR.dj y z hyz b (o1 y b hb) (o1 z b hc),fun y b hb=>hR.lt y b (o1 y b hb),hR.top,hR.gl⟩,⟨Ks.refl _ _ _,fun y b hb=> .inl ⟨y,o1 y b hb⟩,fun _ _=>rfl⟩⟩
 ·rw[CH] at hq
  split at hq
  ·cases hq
  ·rename_i hne
   have hne2:¬(Who.h lv q=.h 0 k):=fun e=>by cases e;exact hne ⟨rfl,rfl,hl⟩
   obtain⟨h1,h2,h3⟩:=hR.hn lv q hq
   exact⟨h1,by rw[o2 _ hne2];exact h2,by rw[o2 _ (by simp)];exact h3⟩
 ·rw[CH] at hq
  split at hq
  ·rename_i he
   obtain⟨rfl,rfl, -⟩:=he
   cases hq
   obtain⟨b,s,cur,ty,g1,g2,g3,g4,g5,g6⟩:=hR.hs _ _ _ hk
   refine⟨b,s,cur,ty,g1,by rw[o2 _ (by simp)];exact g2,g3,by simpa[AV.csh,DD.sh_vw] using g4,g5,?_⟩
   have:own' (.h 0 q)=[]:=if_pos rfl
   rw[this]
   simp only[rc] at g6 ⊢
   exact rp.view _ _ _ g6
  ·rename_i hne
   have hne2:¬(Who.h lv q=.h 0 k):=fun e=>by cases e;exact hne ⟨rfl,rfl,hl⟩
   obtain⟨b,s,cur,ty,g1,g2,g3,g4,g5,g6⟩:=hR.hs _ _ _ hq
   exact⟨b,s,cur,ty,g1,by rw[o2 _ (by simp)];exact g2,g3,g4,g5,by rw[o2 _ hne2];exact g6⟩
 ·show(if _ then _ else _:List Nat).Nodup
  split
  ·exact List.nodup_nil
  ·exact hR.nd _
theorem Wz.trans {S S1 S2:St} (h:Wz S S1) (k:Wz S1 S2):Wz S S2:=fun w F Θ own a hR=>by
 obtain⟨F1,T1,o1,h1,h2⟩:=h w F Θ own a hR
 obtain⟨F2,T2,o2,k1,k2⟩:=k w F1 T1 o1 a h1
 exact⟨F2,T2,o2,k1,h2.trans k2⟩
theorem Ih:∀(rs:List ResultVar) (S:St),Wz S (vwR rs S)
 |[],S=>Wz.refl S
 | .tmp t::l,S=>(bW S [t]).trans (Ih l _)
 | .cell t T::l,S=>by
  unfold vwR
  split
  ·split
   ·rename_i x hx;exact(bV hx).trans (Ih l _)
   ·exact Ih l S
  ·exact Ih l S
theorem Xev {c:Cx} {f:Nat} {fn:Func} {body:Code} {args:List AV} {h h':HP} {r:AV} (hget:c.P.funcs[f]? =some fn) (hbd:fn.body=some body) (n:Nat) (rs:List ResultVar) (hW:W c body ⟨n,tl (mkl 0 args),al []::upH h⟩ (fun e S=>RQ c rs h' r e (vwR rs S))) (hrs:fn.results.toList=rs:=by rfl) (hn:fn.ntmps=n:=by rfl) (hlen:args.length≤n:=by simp) (hnm:(fn.name== "runtime.NumGoroutine")=false:=by rfl):CS c.P f args h r h':=
 Xe hget hbd n rs (W.after hW fun e S q=>⟨_,Ih rs S,q⟩) hrs hn hlen hnm
section
variable {c:Cx} {ops:Array Oper} {o:Oper} {l:List Oper} {S S1:St} {K:St→Prop} {acc:List Sk} {D:List (Option Nat)} {Q:Exit→St→Prop}
theorem Xo (M:List Nat) (k:WL c ops l S1 K) (hi:Hi o=false:=by rfl) (hg:o.guard=none:=by rfl) (h:okP c M o S:=by(simp(disch:=first|(simp;done)|omega) [M,H,BF])<;>first|done|omega|grind) (e:nx c M o S=S1:=by first|(simp(disch:=first|(simp;done)|omega) [M,H,BF];rfl)|rfl):WL c ops (o::l) S K:=WL.op M hg h e k
theorem WL.got {P:Prop} (h:∀(w:World) (F:Nat→Nat) (Θ:Ty) (own:Who→List Nat) (a:Act),Rel w F Θ own S a→P) (k:P→WL c ops l S K):WL c ops l S K:=fun is hi w F Θ own a hR Q hQ=>k (h w F Θ own a hR) is hi w F Θ own a hR Q hQ
theorem Bm {α:Type} (f:α→Nat) {l:List α} {k:Nat} (h:k<l.length):f l[k]≤szL f l:=Ah f (gm h)
theorem IY {T:Nat} {x:Operand} {n:Int} {w:World} {F:Nat→Nat} {Θ:Ty} {own:Who→List Nat} {a:Act} (hR:Rel w F Θ own S a) (ox:okO c T x) (hx:evT c T S x=.d (.lf (.int .i64 n))): -9223372036854775808≤n∧n≤9223372036854775807:=by
 have h:=BT hR ox
 rw[hx] at h
 simp only[rv,rp] at h
 obtain⟨cs,⟨-,h, -⟩, -⟩:=h
 exact h
theorem Xlt (M:List Nat) {T yT:Nat} {x y:Operand} {n m:Int} (k:RF ((-9223372036854775808≤n∧n≤9223372036854775807)∧(-9223372036854775808≤m∧m≤9223372036854775807)) (WL c ops l S1 K)) (ho:o.op=.binOp .lss T x y yT:=by rfl) (hx:evT c 0 S x=.d (.lf (.int .i64 n)):=by rfl) (hy:evT c 0 S y=.d (.lf (.int .i64 m)):=by rfl) (hg:o.guard=none:=by rfl)
  (h:okP c M o S:=by(simp(disch:=first|(simp;done)|omega) [M,H,BF])<;>first|done|omega|grind) (e:nx c M o S=S1:=by first|(simp(disch:=first|(simp;done)|omega) [M,H,BF];rfl)|rfl):WL c ops (o::l) S K:=by
 have h':=h
 unfold okP at h'
 rw[ho] at h'
 exact WL.got (fun w F Θ own a hR=>⟨IY hR h'.2.2.1 hx,IY hR h'.2.2.2.1 hy⟩) fun f=>WL.op M hg h e (k.r f)
theorem Xl (ts:List Nat) {f:Operand} {args:Array Operand} {argTypes:Array TypeId} {g:Nat} {cs as':List AV} {pre:Prop} {r:AV} (k:WL c ops l S1 K)
  (ho:o.op=.call { callee:=.value f,args,argTypes }:=by rfl) (hg:o.guard=none:=by rfl) (hf:evT c 0 S f=.fn g cs:=by rfl) (of:okO c 0 f:=by simp) (hd:∀k,o.dst=some k→k<S.n:=by simp) (hTs:argTypes.toList.length=args.toList.length:=by rfl) (hok:∀x∈argTypes.toList.zip args.toList,okO c x.1 x.2:=by simp) (hn:(gvn ts args.toList).Nodup:=by simp[G])
  (ha:(argTypes.toList.zip args.toList).map (fun x=>Cq c ts S x.1 x.2)++cs=as':=by first|(simp(disch:=first|(simp;done)|omega) [M,G,H,BF];rfl)|rfl) (hct:Ct c g as' pre r:=by exact inferInstance) (hp:pre:=by first|trivial|omega|(simp only[H];first|trivial|omega|grind)|grind)
  (e:(⟨S.n,B0 (BB S.tm (gvn ts args.toList)) o.dst r,S.hp⟩:St)=S1:=by first|(simp(disch:=first|(simp;done)|omega) [M,G,H,BF];rfl)|rfl):WL c ops (o::l) S K:=by
 obtain⟨fn,body,hfn⟩:=hct.ok
 exact WL.call ts f args argTypes ho hg hd hf of hfn hTs hok hn ha (hct.cs hp _) e k
theorem Xk (ts:List Nat) (hD:ops.toList.map (·.dst)=D) {j kg:Nat} {bg:Bool} (hg:o.guard=some (j,bg)) (hj:D[j]? =some (some kg)) {f:Operand} {args:Array Operand} {argTypes:Array TypeId} {g:Nat} {cs as':List AV} {pre:Prop} {r:AV} (k:WL c ops l S1 K)
  (ho:o.op=.call { callee:=.value f,args,argTypes }:=by rfl) (hk:S.tm kg=.d (.lf (.bool bg)):=by rfl) (hf:evT c 0 S f=.fn g cs:=by rfl) (of:okO c 0 f:=by simp) (hd:∀k,o.dst=some k→k<S.n:=by simp) (hTs:argTypes.toList.length=args.toList.length:=by rfl) (hok:∀x∈argTypes.toList.zip args.toList,okO c x.1 x.2:=by simp) (hn:(gvn ts args.toList).Nodup:=by simp[G])
  (ha:(argTypes.toList.zip args.toList).map (fun x=>Cq c ts S x.1 x.2)++cs=as':=by first|(simp(disch:=first|(simp;done)|omega) [M,G,H,BF];rfl)|rfl) (hct:Ct c g as' pre r:=by exact inferInstance) (hp:pre:=by first|trivial|omega|(simp only[H];first|trivial|omega|grind)|grind)
  (e:(⟨S.n,B0 (BB S.tm (gvn ts args.toList)) o.dst r,S.hp⟩:St)=S1:=by first|(simp(disch:=first|(simp;done)|omega) [M,G,H,BF];rfl)|rfl):WL c ops (o::l) S K:=by
 obtain⟨fn,body,hfn⟩:=hct.ok
 exact WL.callG hD j kg bg hg hj hk ts f args argTypes ho hd hf of hfn hTs hok hn ha (hct.cs hp _) e k
theorem Xn (hD:ops.toList.map (·.dst)=D) {j k:Nat} {b:Bool} (hg:o.guard=some (j,b)) (hj:D[j]? =some (some k)) (kk:WL c ops l S1 K) (hk:S.tm k=.d (.lf (.bool (!b)))∨S.tm k=.tp []:=by first|exact .inl rfl|exact .inr rfl) (hd:∀k,o.dst=some k→k<S.n:=by simp) (e:(⟨S.n,B0 S.tm o.dst (.tp []),S.hp⟩:St)=S1:=by first|(simp[H];rfl)|rfl):WL c ops (o::l) S K:=WL.no2 hD j k b hg hj hk hd e kk
theorem Xg (M:List Nat) (hD:ops.toList.map (·.dst)=D) {j k:Nat} {b:Bool} (hg:o.guard=some (j,b)) (hj:D[j]? =some (some k)) (kk:WL c ops l S1 K) (hi:Hi o=false:=by rfl) (hk:S.tm k=.d (.lf (.bool b)):=by rfl) (h:okP c M o S:=by(simp(disch:=first|(simp;done)|omega) [M,H,BF])<;>first|done|omega|grind) (e:nx c M o S=S1:=by first|(simp(disch:=first|(simp;done)|omega) [M,H,BF];rfl)|rfl):WL c ops (o::l) S K:=WL.opG M hD j k b hg hj hk h e kk
theorem Xs (hD:ops.toList.map (·.dst)=D) {j k:Nat} {b q:Bool} {S2:St} (hg:o.guard=some (j,b)) (hj:D[j]? =some (some k)) (hq:S.tm k=.d (.lf (.bool q))) (hk:Two (q=true→WL c ops (o::l) S1 K) (q=false→WL c ops (o::l) S2 K)) (e1:(⟨S.n,upd S.tm k (.d (.lf (.bool true))),S.hp⟩:St)=S1:=by first|(simp[H];rfl)|rfl) (e2:(⟨S.n,upd S.tm k (.d (.lf (.bool false))),S.hp⟩:St)=S2:=by first|(simp[H];rfl)|rfl):WL c ops (o::l) S K:=by
 subst e1 e2
 exact WL.split k q hq hk.l hk.r
theorem Xc {g:Operand} {x y:Code} {b:Bool} (hg:evT c 0 S g=.d (.lf (.bool b))) (h:Two (b=true→W c x S Q) (b=false→W c y S Q)) (og:okO c 0 g:=by trivial):W c (.cond g x y) S Q:=W.condS b hg og h.l h.r
theorem Xb {i:Nat} {x:Code} (h:W c x S (Sq i Q)):W c (.block i x) S Q:=W.block h
theorem fG {i:Nat} {Q':Exit→St→Prop} {S':St}:Sq i Q' (.exit i) S'=Q' .normal S':=if_pos rfl
theorem fF {i j:Nat} {Q':Exit→St→Prop} {S':St} (h:(j==i)=false):Sq i Q' (.exit j) S'=Q' (.exit j) S':=if_neg (by simpa using h)
theorem XK {i:Nat} {K':St→Prop} {Q':Exit→St→Prop} {S':St}:DC K' Q' (.exit i) S'=Q' (.exit i) S':=rfl
theorem XJ {K':St→Prop} {Q':Exit→St→Prop} {S':St}:DC K' Q' .normal S'=K' S':=rfl
theorem Xx {i : Nat} {P : Prop} (h : P) (e : Q (.exit i) S = P := by
 repeat (first|refine fG.trans ?_|refine(fF rfl).trans ?_|refine XK.trans ?_)
 first|exact XJ|rfl):W c (.exit i) S Q:=W.exit (by rw[e];exact h)
theorem Xr {rs:List ResultVar} {h':HP} {r:AV} (k:RL c rs S r) (e:Q .ret S=RQ c rs h' r .ret S:=by rfl) (hh:∃f1,S.hp=f1::upH h':=by exact⟨_,rfl⟩):W c .ret S Q:=W.ret (by rw[e];exact⟨.inr rfl,hh,k⟩)
theorem Xrn {rs:List ResultVar} {h':HP} {r:AV} (k:RL c rs S r) (hh:∃f1,S.hp=f1::upH h':=by exact⟨_,rfl⟩):RQ c rs h' r .normal S:=⟨.inl rfl,hh,k⟩
theorem Xd {D:List (Option Nat)} {id:Nat} (hD:ops.toList.map (·.dst)=D) (h:RG (∀(ops':Array Oper) (K:St→Prop),ops'.toList.map (·.dst)=D→(∀S',Q .normal S'→K S')→WL c ops' ops.toList S K)):W c (.region id ops false) S Q:=W.regJ0 hD h.r
theorem XDd {D:List (Option Nat)} {id:Nat} (hm:c.P.follows .mixedOrders=true) (hD:ops.toList.map (·.dst)=D) (h:RG (∀K:St→Prop,ops.toList.map (·.dst)=D→(∀S',Q .normal S'→K S')→DL c ops [] ops.toList S K)):W c (.region id ops true) S Q:=W.regDJ0 hm hD h.r
theorem Xf {rs:List ResultVar} {r v:AV} (k:LF (v=r)) (ok:∀x∈rs,L0 c S x∧(J4 S x).nz:=by simp[M]) (nd:(rs.map (FY S)).Nodup:=by simp) (e:(match rs.map (fun x=>(J4 S x).dn) with|[x]=>x|l=> .tp l)=v:=by first|(simp(disch:=first|(simp;done)|omega) [M,H,BF];rfl)|rfl):RL c rs S r:=⟨ok,nd,e.trans k.r⟩
theorem Xrv {rs:List ResultVar} {h':HP} {r:AV} {S1:St} (k:RL c rs S1 r) (e0:Q .ret S=RQ c rs h' r .ret (vwR rs S):=by rfl) (e:vwR rs S=S1:=by first|(simp(disch:=first|(simp;done)|omega) [vwR,M,H];rfl)|rfl) (hh:∃f1,S1.hp=f1::upH h':=by exact⟨_,rfl⟩):W c .ret S Q:=W.ret (by rw[e0];subst e;exact⟨.inr rfl,hh,k⟩)
theorem XDo (M:List Nat) {sk:Sk} (k:DL c ops (acc++[sk]) l S1 K) (hi:Hi o=false:=by rfl) (hg:o.guard=none:=by rfl) (h:okP c M o S:=by(simp(disch:=first|(simp;done)|omega) [M,H,BF])<;>first|done|omega|grind) (e:nx c M o S=S1:=by first|(simp(disch:=first|(simp;done)|omega) [M,H,BF];rfl)|rfl) (hsk:(B4 c M o S).sk=sk:=by first|(simp[B4,Fsk.sk,Ef.kd,M];done)|(simp[B4,Fsk.sk,Ef.kd,M];rfl)|rfl):DL c ops acc (o::l) S K:=DL.opS M hg h e sk hsk k
theorem XDl (ts:List Nat) {f:Operand} {args:Array Operand} {argTypes:Array TypeId} {g:Nat} {cs as':List AV} {pre:Prop} {r:AV} (k:DL c ops (acc++[⟨gvn ts args.toList,.val⟩]) l S1 K)
  (ho:o.op=.call { callee:=.value f,args,argTypes }:=by rfl) (hg:o.guard=none:=by rfl) (hf:evT c 0 S f=.fn g cs:=by rfl) (of:okO c 0 f:=by simp) (hd:∀k,o.dst=some k→k<S.n:=by simp) (hTs:argTypes.toList.length=args.toList.length:=by rfl) (hok:∀x∈argTypes.toList.zip args.toList,okO c x.1 x.2:=by simp) (hn:(gvn ts args.toList).Nodup:=by simp[G])
  (ha:(argTypes.toList.zip args.toList).map (fun x=>Cq c ts S x.1 x.2)++cs=as':=by first|(simp(disch:=first|(simp;done)|omega) [M,G,H,BF];rfl)|rfl) (hct:Ct c g as' pre r:=by exact inferInstance) (hp:pre:=by first|trivial|omega|(simp only[H];first|trivial|omega|grind)|grind)
  (e:(⟨S.n,B0 (BB S.tm (gvn ts args.toList)) o.dst r,S.hp⟩:St)=S1:=by first|(simp(disch:=first|(simp;done)|omega) [M,G,H,BF];rfl)|rfl):DL c ops acc (o::l) S K:=by
 obtain⟨fn,body,hfn⟩:=hct.ok
 exact DL.call ts f args argTypes ho hg hd hf of hfn hTs hok hn ha (fun h=>hct.cs hp h) e k
theorem XDn (hD:ops.toList.map (·.dst)=D) {j k:Nat} {b:Bool} (hg:o.guard=some (j,b)) (hj:D[j]? =some (some k)) (kk:DL c ops (acc++[⟨[],.val⟩]) l S1 K) (hk:S.tm k=.d (.lf (.bool (!b)))∨S.tm k=.tp []:=by first|exact .inl rfl|exact .inr rfl) (hd:∀k,o.dst=some k→k<S.n:=by simp) (e:(⟨S.n,B0 S.tm o.dst (.tp []),S.hp⟩:St)=S1:=by first|(simp[H];rfl)|rfl):DL c ops acc (o::l) S K:=DL.no2 hD j k b hg hj hk hd e kk
theorem XDg (M:List Nat) (hD:ops.toList.map (·.dst)=D) {j k:Nat} {b:Bool} (hg:o.guard=some (j,b)) (hj:D[j]? =some (some k)) {sk:Sk} (kk:DL c ops (acc++[sk]) l S1 K) (hi:Hi o=false:=by rfl) (hk:S.tm k=.d (.lf (.bool b)):=by rfl) (h:okP c M o S:=by(simp(disch:=first|(simp;done)|omega) [M,H,BF])<;>first|done|omega|grind) (e:nx c M o S=S1:=by first|(simp(disch:=first|(simp;done)|omega) [M,H,BF];rfl)|rfl) (hsk:(B4 c M o S).sk=sk:=by first|(simp[B4,Fsk.sk,Ef.kd,M];done)|(simp[B4,Fsk.sk,Ef.kd,M];rfl)|rfl):DL c ops acc (o::l) S K:=DL.opGs M hD j k b hg hj hk h e sk hsk kk
theorem XDs (hD:ops.toList.map (·.dst)=D) {j k:Nat} {b q:Bool} {S2:St} (hg:o.guard=some (j,b)) (hj:D[j]? =some (some k)) (hq:S.tm k=.d (.lf (.bool q))) (hk:Two (q=true→DL c ops acc (o::l) S1 K) (q=false→DL c ops acc (o::l) S2 K)) (e1:(⟨S.n,upd S.tm k (.d (.lf (.bool true))),S.hp⟩:St)=S1:=by first|(simp[H];rfl)|rfl) (e2:(⟨S.n,upd S.tm k (.d (.lf (.bool false))),S.hp⟩:St)=S2:=by first|(simp[H];rfl)|rfl):DL c ops acc (o::l) S K:=by
 subst e1 e2
 exact DL.split k q hq hk.l hk.r
end
structure RE {σ:Type} (S0:St) (ts ks:List Nat) (V H:Nat→σ→List (Nat×AV)) (n:Nat) (I:Nat→σ→Prop) (rd:St→σ) (k:Nat) (S:St):Prop where
 lt:k<n
 i:I (k+1) (rd S)
 z:Wz S (stk S0 ts ks (V (k+1) (rd S)) (H (k+1) (rd S)))
theorem W.loopR {c:Cx} {x:Code} {Q:Exit→St→Prop} {S:St} {h:HP} {σ:Type} (ts ks:List Nat) (V H:Nat→σ→List (Nat×AV)) (n:Nat) (I:Nat→σ→Prop) (rd:St→σ) (hh:S.hp.tail=upH h) (h0:GZ S (V 0 (rd S)++tls S ts) (H 0 (rd S)++hls (hd S) ks)) (i0:I 0 (rd S))
  (hb:∀k,k≤n→∀s,I k s→∀T,stk S ts ks (V k s) (H k s)=T→W c x T (DC (RE S ts ks V H n I rd k) Q)):W c (.loop x) S Q:=by
 have key:∀m k s,k+m=n→I k s→WR c x Q (m+1) (stk S ts ks (V k s) (H k s)):=by
  intro m
  induction m with
  |zero=>
   intro k s hk hi
   refine(hb k (by omega) s hi _ rfl).mono fun e S' hq=> ?_
   cases e with
   |normal=>have:=hq.lt;omega
   |_=>exact hq
  |succ m ih=>
   intro k s hk hi
   refine W.after (hb k (by omega) s hi _ rfl) fun e S1 hq=> ?_
   cases e with
   |normal=>exact⟨_,hq.z,ih (k+1) _ (by omega) hq.i⟩
   |exit id=>exact⟨S1,Wz.refl S1,hq⟩
   |goto l=>exact⟨S1,Wz.refl S1,hq⟩
   |ret=>exact⟨S1,Wz.refl S1,hq⟩
   |panic ch=>exact⟨S1,Wz.refl S1,hq⟩
   |outgrown=>exact⟨S1,Wz.refl S1,hq⟩
 exact W.ahead (Wz.to hh hh rfl h0) (W.rounds _ (key n 0 (rd S) (by omega) i0))
def avI:AV→Int
 | .d (.lf (.int _ n))=>n
 |_=>0
def avB:AV→Bool
 | .d (.lf (.bool b))=>b
 |_=>false
def avS:AV→ByteArray
 | .d (.lf (.string s))=>s
 |_=>⟨#[]⟩
def avE:AV→List DD
 | .d (.sl _ _ es)=>es
 |_=>[]
theorem Xle {σ:Type} {S0 S:St} {h:HP} {ts ks:List Nat} {V H:Nat→σ→List (Nat×AV)} {n:Nat} {I:Nat→σ→Prop} {rd:St→σ} {k:Nat} {s:σ} (i:LF (I (k+1) s)) (e:rd S=s:=by first|rfl|(simp(disch:=first|(simp;done)|omega) [M,H,BF];rfl)) (lt:k<n:=by omega) (hh:S.hp.tail=upH h:=by rfl) (h0:S0.hp.tail=upH h:=by rfl) (hn:S.n=S0.n:=by rfl)
  (z:GZ S (V (k+1) s++tls S0 ts) (H (k+1) s++hls (hd S0) ks):=by first|(simp[M,H];done)|(simp[M,H, *];done)):RE S0 ts ks V H n I rd k S:=by
 subst e
 exact⟨lt,i.r,Wz.to hh h0 hn z⟩
theorem GO {P A : Prop} (k : A) (h : A → P := by
 first
  |exact fun k=>WL.nil (hK _ k)
  |exact fun k=>Xl G k
  |exact fun k=>Xlt M k
  |exact fun k=>Xo M k
  |exact fun k=>Xn hD rfl rfl k
  |exact fun k=>Xg M hD rfl rfl k
  |exact fun k=>Xk G hD rfl rfl k
  |exact fun k=>Xs hD rfl rfl rfl k
  |exact fun k=>W.seq k
  |exact fun k=>Xd rfl k
  |exact fun k=>Xc rfl k
  |exact fun k=>Xb k
  |exact fun k=>Xx k
  |exact fun k=>W.skip k
  |exact fun k=>Xle k
  |exact fun k=>Xr k
  |exact fun k=>Xrv k
  |exact fun k=>Xf k
  |exact fun k=>Xrvn k
  |exact fun k=>Xrn k
  |exact fun k=>DL.nil (by decide+kernel) (hK _ k)
  |exact fun k=>XDl G k
  |exact fun k=>XDo M k
  |exact fun k=>XDn hD rfl rfl k
  |exact fun k=>XDg M hD rfl rfl k
  |exact fun k=>XDk G hD rfl rfl k
  |exact fun k=>XDs hD rfl rfl rfl k
  |exact fun k=>XDd rfl rfl k):P:=h k
theorem HN {P R : Prop} {Q : Prop} (hb : P) (H : Q) (h : P → Q → R := by
 first
  |exact fun (a:(_:Nat)<_) b=>AI a b
  |exact fun (a:(_:Int)<_) b=>AI a b
  |exact fun (a:(_:Bool)=_) b=>AI a b
  |exact fun (a:¬_) b=>AI a b
  |exact fun _ b=>b):R:=h hb H
def fs {α β:Type} (f:Nat→α→Option β):Nat→List α→Option β
 |_,[]=>none
 |i,x::l=>match f i x with
  |some b=>some b
  |none=>fs f (i+1) l
theorem Aw {α β:Type} {f:Nat→α→Option β} {l:List α} {k:Nat} (h:k<l.length):fs f k (l.drop k)=match f k l[k] with
  |some b=>some b
  |none=>fs f (k+1) (l.drop (k+1)):=by
 rw[List.drop_eq_getElem_cons h];rfl
theorem Aq {α β:Type} (f:Nat→α→Option β) (k:Nat) {l:List α} {j:Nat} (h:l.length≤j):fs f k (l.drop j)=none:=by
 rw[List.drop_eq_nil_of_le h];rfl
theorem Ic {α β:Type} {f:Nat→α→Option β}:∀{l:List α} {i:Nat},(∀k (h:k<l.length),f (i+k) l[k]=none)→fs f i l=none
 |[],_,_=>rfl
 |x::l,i,h=>by
  have h0:=h 0 (by simp)
  simp only[Nat.add_zero,List.getElem_cons_zero] at h0
  rw[fs,h0]
  refine Ic fun k hk=> ?_
  have:=h (k+1) (by simpa using hk)
  rw[show i+1+k=i+(k+1) by omega];simpa using this
theorem Lr {α β:Type} {f:Nat→α→Option β} {b:β}:∀{l:List α} {i:Nat},fs f i l=some b→∃k,∃h:k<l.length,f (i+k) l[k]=some b∧∀j (hj:j<k),f (i+j) (l[j]'(Nat.lt_trans hj h))=none
 |[],_,h=>by simp[fs] at h
 |x::l,i,h=>by
  rw[fs] at h
  cases hx:f i x with
  |some y=>
   rw[hx] at h
   exact⟨0,by simp,by simpa[hx] using h,fun j hj=>by omega⟩
  |none=>
   rw[hx] at h
   obtain⟨k,h1,h2,h3⟩:=Lr h
   refine⟨k+1,by simpa using h1,by rw[show i+(k+1)=i+1+k by omega];simpa using h2,fun j hj=> ?_⟩
   cases j with
   |zero=>simpa using hx
   |succ j=>have:=h3 j (by omega);rw[show i+(j+1)=i+1+j by omega];simpa using this
attribute [simp] avI avB avS avE
