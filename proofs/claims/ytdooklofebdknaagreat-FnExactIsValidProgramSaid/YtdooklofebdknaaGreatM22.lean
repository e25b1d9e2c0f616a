/- Part 22. No condition. -/
import Derived.Test.YtdooklofebdknaaGreatM21
namespace Go.Proofs.YtdooklofebdknaaGreat
open Go.RowKit
set_option linter.unusedVariables false
set_option linter.unusedSimpArgs false
mutual
def AV.nf:AV→Prop
 | .un=>True
 | .d _=>True
 | .pt _ _ _=>False
 | .el _=>True
 | .rw _ _ _=>False
 | .tp l=>AV.nfs l
 | .fn _ c=>AV.nfs c
 | .fr l=>AV.nfs l
 | .ep a=>a.nf
 | .ms _ _=>False
 | .mb _ _ _=>False
 | .mp _ _ _ _=>False
 | .pv _=>False
 | .mt _=>False
 | .mn _ _=>False
def AV.nfs:List AV→Prop
 |[]=>True
 |a::l=>a.nf∧AV.nfs l
end
mutual
theorem rv.theta {w:World} {F:Nat→Nat} {Θ Θ':Ty}:∀(a:AV) (v:Value) (bs:List Nat),a.nf→rv w F Θ a v bs→rv w F Θ' a v bs
 | .un,v,bs,_,h=>by simpa only[rv] using h
 | .d x,v,bs,_,h=>by simpa only[rv] using h
 | .pt _ _ _,v,bs,n,h=>n.elim
 | .el x,v,bs,_,h=>by simpa only[rv] using h
 | .rw _ _ _,v,bs,n,h=>n.elim
 | .tp l,v,bs,n,h=>by
  simp only[AV.nf] at n
  simp only[rv] at h ⊢
  obtain⟨vs,h1,h2⟩:=h
  exact⟨vs,h1,rvS.theta l vs bs n h2⟩
 | .fn f c,v,bs,n,h=>by
  simp only[AV.nf] at n
  simp only[rv] at h ⊢
  obtain⟨vs,h1,h2⟩:=h
  exact⟨vs,h1,rvS.theta c vs bs n h2⟩
 | .fr l,v,bs,n,h=>by
  simp only[AV.nf] at n
  simp only[rv] at h ⊢
  obtain⟨h0,b,vs,h1,h2,h3,h4,h5⟩:=h
  exact⟨h0,b,vs,h1,h2,h3,rvS.theta l vs [] n h4,h5⟩
 | .ep a,v,bs,n,h=>by
  simp only[AV.nf] at n
  simp only[rv] at h ⊢
  obtain⟨h0,b,off,u,h1,h2,h3,h4⟩:=h
  exact⟨h0,b,off,u,h1,h2,rv.theta a u [] n h3,h4⟩
 | .ms _ _,v,bs,n,h=>n.elim
 | .mb _ _ _,v,bs,n,h=>n.elim
 | .mp _ _ _ _,v,bs,n,h=>n.elim
 | .pv _,v,bs,n,h=>n.elim
 | .mt _,v,bs,n,h=>n.elim
 | .mn _ _,v,bs,n,h=>n.elim
theorem rvS.theta {w:World} {F:Nat→Nat} {Θ Θ':Ty}:∀(l:List AV) (vs:List Value) (bs:List Nat),AV.nfs l→rvS w F Θ l vs bs→rvS w F Θ' l vs bs
 |[],vs,bs,_,h=>by simpa only[rvS] using h
 |a::l,vs,bs,n,h=>by
  simp only[AV.nfs] at n
  simp only[rvS] at h ⊢
  obtain⟨v,r,b1,b2,h1,h2,h3,h4⟩:=h
  exact⟨v,r,b1,b2,h1,h2,rv.theta a v b1 n.1 h3,rvS.theta l r b2 n.2 h4⟩
end
mutual
def AV.ow:AV→Prop
 | .un=>True
 | .d x=>x.ow
 | .tp l=>AV.ows l
 |_=>False
def AV.ows:List AV→Prop
 |[]=>True
 |a::l=>a.ow∧AV.ows l
end
mutual
theorem rv.keepO {w w':World} {F F':Nat→Nat} {Θ Θ':Ty}:∀(a:AV) (v:Value) (bs:List Nat),a.ow→rv w F Θ a v bs→(∀b∈bs,w'.heap[b]? =w.heap[b]? ∧F' b=F b)→rv w' F' Θ' a v bs
 | .un,v,bs,_,h,_=>by simpa only[rv] using h
 | .d x,v,bs,n,h,k=>by
  simp only[rv] at h ⊢
  obtain⟨cs,h1,h2⟩:=h
  exact⟨cs,rp.keepO x cs bs h1 n k,h2⟩
 | .tp l,v,bs,n,h,k=>by
  simp only[AV.ow] at n
  simp only[rv] at h ⊢
  obtain⟨vs,h1,h2⟩:=h
  exact⟨vs,h1,rvS.keepO l vs bs n h2 k⟩
 | .pt _ _ _,v,bs,n,h,_=>n.elim
 | .el _,v,bs,n,h,_=>n.elim
 | .rw _ _ _,v,bs,n,h,_=>n.elim
 | .fn _ _,v,bs,n,h,_=>n.elim
 | .fr _,v,bs,n,h,_=>n.elim
 | .ep _,v,bs,n,h,_=>n.elim
 | .ms _ _,v,bs,n,h,_=>n.elim
 | .mb _ _ _,v,bs,n,h,_=>n.elim
 | .mp _ _ _ _,v,bs,n,h,_=>n.elim
 | .pv _,v,bs,n,h,_=>n.elim
 | .mt _,v,bs,n,h,_=>n.elim
 | .mn _ _,v,bs,n,h,_=>n.elim
theorem rvS.keepO {w w':World} {F F':Nat→Nat} {Θ Θ':Ty}:∀(l:List AV) (vs:List Value) (bs:List Nat),AV.ows l→rvS w F Θ l vs bs→(∀b∈bs,w'.heap[b]? =w.heap[b]? ∧F' b=F b)→rvS w' F' Θ' l vs bs
 |[],vs,bs,_,h,_=>by simpa only[rvS] using h
 |a::l,vs,bs,n,h,k=>by
  simp only[AV.ows] at n
  simp only[rvS] at h ⊢
  obtain⟨v,r,b1,b2,h1,h2,h3,h4⟩:=h
  subst h2
  exact⟨v,r,b1,b2,h1,rfl,rv.keepO a v b1 n.1 h3 (fun b hb=>k b (by simp[hb])),rvS.keepO l r b2 n.2 h4 (fun b hb=>k b (by simp[hb]))⟩
end
def PC (c:Cx) (us:List Nat) (v:AV) (S:St) (T:Nat):Operand→AV
 | .tmp u=>bif us.contains u then v else (S.tm u).vw
 |x=>evT c T S x
theorem OS.callB {c:Cx} {ops:Array Oper} {o:Oper} {S:St} (hd:∀k,o.dst=some k→k<S.n) (hw:wnt ops o S=some true) (f:Operand) (args:Array Operand) (argTypes:Array TypeId) (ho:o.op=.call { callee:=.value f,args,argTypes })
  (g:Nat) (caps:List AV) (hf:evT c 0 S f=.fn g caps) (of:okO c 0 f) (fn:Func) (body:Code) (hg:CT c.P g fn body) (hTs:argTypes.toList.length=args.toList.length) (hok:∀x∈argTypes.toList.zip args.toList,okO c x.1 x.2)
  (t:Nat) (us:List Nat) (v0:Value) (s:Sh) (es:List DD) (hm:S.tm t=.mb v0 s es) (hus:∀u∈us,(S.tm u).vw=.pv v0) {as':List AV} (ha:(argTypes.toList.zip args.toList).map (fun x=>PC c us (.d (.sl false s (DD.vws es))) S x.1 x.2)++caps=as') (hnf:AV.nfs as') (r:AV) (hc:∀h,CS c.P g as' h r h) (hr:r.ow):OS c ops o S ⟨S.n,B0 S.tm o.dst r,S.hp⟩:=by
 subst ha
 intro w F Θ own a hR K Q hK
 rw[if_pos (Dx (c:=c) hR hw)]
 have hfv:=BT hR of
 rw[hf] at hfv
 simp only[rv] at hfv
 obtain⟨vc,ef,hvc⟩:=hfv
 have hrun:(execOp a.eval o).run c.P w=.ok (.enter g (args.map a.eval++vc.toArray)) w:=by
  have hne:=hg.bd
  have hnm:=hg.nm
  unfold execOp
  simp only[ho,resolve,ef]
  simp[Deferred.ofValue,invoke,callFunc,hg.get,hne]
  simp only[beq_eq_false_iff_ne] at hnm
  simp[hnm]
 unfold Oper.wp
 rw[hrun,Oper.upon_enter]
 -- the slice,closed
 have hms:rms w F s es (a.tmps.getD t undef) (own (.t t)):=by
  have h:=hR.tm t
  rw[hm] at h
  simp only[rv] at h
  exact h.2
 have hvt:a.tmps.getD t undef=v0:=by
  have h:=hR.tm t
  rw[hm] at h
  simp only[rv] at h
  exact h.1
 obtain⟨F1,h1,h2,h3⟩:=hms.sl (hR.nd _)
 have hhd:∀q,q∈(own (.t t)).head? →q∈own (.t t):=fun q hq=>List.mem_of_mem_head? hq
 have mono:∀b,F b≤F1 b:=fun b=>by
  by_cases e:b∈(own (.t t)).head?
  ·rw[(h3 b e).1];exact Nat.zero_le _
  ·rw[h2 b e];exact Nat.le_refl _
 have kp0:Kp w F w F1 []:=⟨fun _ _ _=>rfl,mono,by simp⟩
 have hTT:∀lv k (x:Nat×Sh),Θ lv k=some x→Θ lv k=some x:=fun _ _ _ q=>q
 have hlen:(argTypes.toList.zip args.toList).length=args.toList.length:=by simp[hTs]
 let avs:=(argTypes.toList.zip args.toList).map (fun x=>PC c us (.d (.sl false s (DD.vws es))) S x.1 x.2)++caps
 let vs:=args.toList.map a.eval++vc
 have hcl:=(IR caps vc hvc).1
 have hvl:avs.length=vs.length:=by simp only[avs,vs,List.length_append,List.length_map,hlen,hcl]
 have one:∀(T:Nat) (x:Operand),okO c T x→rv w F1 Θ (PC c us (.d (.sl false s (DD.vws es))) S T x) (a.eval x) []:=fun T x hx=>by
  have gen:rv w F1 Θ (evT c T S x) (a.eval x) []:=rv.keep hTT _ _ _ (BT hR hx) kp0
  cases x with
  |tmp u=>
   show rv w F1 Θ (bif us.contains u then _ else (S.tm u).vw) _ _
   cases e:us.contains u with
   |true=>
    have hu:=hus u (by simpa using e)
    have h3:=rv.view _ _ _ (hR.tm u)
    rw[hu] at h3
    simp only[rv] at h3
    simp only[cond_true,rv]
    have:=rp.view _ _ _ h1
    simp only[DD.vw] at this
    rw[hvt] at this
    refine⟨_,this,?_⟩
    exact h3.2
   |false=>exact gen
  |const v=>exact gen
  |func f=>exact gen
  |global g=>exact gen
 have hall:rvS w F1 Θ avs vs []:=by
  have app:∀(l:List (Nat×Operand)),(∀x∈l,okO c x.1 x.2)→rvS w F1 Θ (l.map (fun x=>PC c us (.d (.sl false s (DD.vws es))) S x.1 x.2)++caps) (l.map (fun x=>a.eval x.2)++vc) []:=by
   intro l
   induction l with
   |nil=>intro _;exact rvS.keep hTT _ _ _ hvc kp0
   |cons x l ih=>
    intro hl
    simp only[List.map_cons,List.cons_append,rvS]
    exact⟨_,_,[],[],rfl,rfl,one x.1 x.2 (hl x (by simp)),ih (fun y hy=>hl y (by simp[hy]))⟩
  have e:(argTypes.toList.zip args.toList).map (fun x=>a.eval x.2)=args.toList.map a.eval:=by
   have:(argTypes.toList.zip args.toList).map Prod.snd=args.toList:=List.map_snd_zip (by omega)
   rw[←this,List.map_map,this];rfl
  have:=app _ hok
  rw[e] at this
  exact this
 have hgs:=(IR avs vs (rvS.theta avs vs [] hnf hall) (Θ:=fun _ _=>none)).2
 have hRE:Rel w F1 (fun _ _=>none) (fun _=>[]) (Ci avs []) ⟨vs.toArray,[]⟩:=by
  refine⟨by simp[Ci,hvl],rfl,fun i=> ?_,fun lv k _=>⟨rfl,rfl,rfl⟩,fun lv k cn hq=>by simp[Ci,hpg] at hq,fun _=>List.nodup_nil,fun _ _ _ b hb=>by simp at hb,fun _ b hb=>by simp at hb,fun b hb=> ?_,hR.gl.ks (E:=fun _=>True) ⟨rfl,rfl,rfl,Nat.le_refl _,fun _ _ _=>rfl,mono,fun _ _ h=>absurd trivial h⟩⟩
  ·have:=hgs i
   simpa[Ci,List.getD_eq_getElem?_getD,Array.getD_eq_getD_getElem?] using this
  ·rw[h2 b (fun e=>by have:=hR.lt _ b (hhd b e);omega)];exact hR.top b hb
 have hvs:(args.map a.eval++vc.toArray)=vs.toArray:=by simp[vs]
 rw[hvs]
 refine Calls.mono (hc [] w F1 _ _ vs hRE) fun e w' ⟨v,F2,own',he,hR',hS⟩=> ?_
 subst he
 have hout:∀b,b<w.heap.size→w'.heap[b]? =w.heap[b]? ∧F2 b=F1 b:=fun b hb=>hS.ks.out b hb (by rintro ⟨x,hx⟩;simp at hx)
 have hfr:∀b∈own' (.t 0),w.heap.size≤b:=fun b hb=>by
  rcases hS.fr (.t 0) b hb with ⟨y,hy⟩|hy
  ·simp at hy
  ·exact hy
 let F':Nat→Nat:=fun b=>if b∈(own (.t t)).head? then 0 else F2 b
 have f0:∀b,b∈(own (.t t)).head? →F' b=0:=fun b hb=>if_pos hb
 have f1:∀b,b∉(own (.t t)).head? →F' b=F2 b:=fun b hb=>if_neg hb
 have hr0:rv w' F2 (fun _ _=>none) r v (own' (.t 0)):=by simpa[Gj] using hR'.tm 0
 obtain⟨own2,k1,k2⟩:=hR.fin (w':=w') (F':=F') o.dst hd [] r v (own' (.t 0))
  ⟨hS.ks.os, hS.ks.tape, hS.ks.output, hS.ks.size, fun b q hq => hS.ks.cell b q (Nat.lt_of_lt_of_le hq (mono b)), fun b => by
   by_cases e:b∈(own (.t t)).head?
   ·rw[(h3 b e).1];exact Nat.zero_le _
   ·rw [f1 b e]; exact Nat.le_trans (mono b) (hS.ks.mono b), fun b hb _ => ⟨(hout b hb).1, by
   by_cases e:b∈(own (.t t)).head?
   ·rw[f0 b e,(h3 b e).1]
   ·rw[f1 b e,(hout b hb).2,h2 b e]⟩⟩
  (fun b hb => by
   by_cases e:b∈(own (.t t)).head?
   ·exact f0 b e
   ·rw[f1 b e];exact hR'.top b hb)
  (rv.keepO r v _ hr hr0 fun b hb=>⟨rfl,f1 b (fun e=>by have:=hfr b hb;have:=hR.lt _ b (hhd b e);omega)⟩)
  (hR'.nd _) (fun b hb=> .inr (hfr b hb)) (fun b hb=>hR'.lt _ b hb)
 exact hK _ _ _ _ _ k1 k2
theorem W.fzR {c:Cx} {id:Nat} {ops:Array Oper} {d:Bool} {S T:St} {Q:Exit→St→Prop} {h:HP} (t k:Nat) (ts ks:List Nat) {x:DD} (w:W c (.region id ops d) T Q) (ht:S.tm t=.pt 0 k []:=by rfl) (hk:hd S k=some (.d x):=by rfl) (hh:S.hp.tail=upH h:=by rfl) (h0:S.hp≠[]:=by simp)
  (h1:∀p∈tls S ts,p.1≠t∧p.2.cl (hls (hd S) ks):=by simp) (h2:∀p∈hls (hd S) ks,p.1≠k∧p.2.cl (hls (hd S) ks):=by simp) (e:(⟨S.n,tl ((t,.el x.vw)::tls S ts),al (hls (hd S) ks)::S.hp.tail⟩:St)=T:=by simp;rfl):W c (.region id ops d) S Q:=
 W.frzB t k x ts ks hh h0 ht hk h1 h2 e w
class VwOk (l:List AV):Prop where
 ok:AV.vws l=l
def psT (ps:Array (Nat×Operand)):List Nat:=ps.toList.filterMap fun p=>match p.2 with
 | .tmp t=>some t
 |_=>none
section
variable {c:Cx} {ops:Array Oper} {o:Oper} {l:List Oper} {S S1:St} {K:St→Prop}
theorem Xfr {k0 T n e:Nat} {ps:Array (Nat×Operand)} {ii:TypeInfo} {z:Value} {fs:List AV} (k:WL c ops l S1 K) (ho:o.op=.buildSlice T n ps:=by rfl) (hd:o.dst=some k0:=by rfl) (hg:o.guard=none:=by rfl) (hn:n=(psT ps).length:=by rfl) (hps:ps.toList=(List.range' 0 (psT ps).length).zip ((psT ps).map .tmp):=by rfl) (hk:k0<S.n:=by simp)
  (hf:((psT ps).map fun t=>(S.tm t).vw)=fs:=by simp[psT];rfl) (hfF:∀a∈fs,a.isF:=by simp[AV.isF]) (hu:c.P.underlying T=some (.slice e):=by rfl) (hi:c.P.info? e=some ii:=by rfl) (hsz:ii.size=1:=by rfl) (hz:ii.zero=some z:=by rfl) (hzc:z.cells.size=1:=by rfl) (hn2:(psT ps).length≤1000:=by decide) (h0:0<(psT ps).length:=by decide)
  (e1:(⟨S.n,upd S.tm k0 (.fr fs),S.hp⟩:St)=S1:=by simp;rfl):WL c ops (o::l) S K:=by
 subst hn
 exact WL.opFr hg hd hk T (psT ps) ho hps hu hi hsz hz hzc hn2 h0 hf hfF e1 k
theorem fS {k0 T e:Nat} {x:Operand} {fs:List AV} (k:WL c ops l S1 K) (ho:o.op=.call { callee:=.builtin .len,args:= #[x],argTypes:= #[T] }:=by rfl) (hx:evT c 0 S x=.fr fs:=by rfl) (hd:o.dst=some k0:=by rfl) (hg:o.guard=none:=by rfl) (hk:k0<S.n:=by simp) (hu:c.P.underlying T=some (.slice e):=by rfl) (ox:okO c 0 x:=by trivial)
  (e1:(⟨S.n,upd S.tm k0 (.d (.lf (.int .i64 (fs.length:Int)))),S.hp⟩:St)=S1:=by simp[H];rfl):WL c ops (o::l) S K:=WL.lenFr hg hd hk T x ho hu hx ox e1 k
theorem jh {k0 T e:Nat} {x i:Operand} {ii:TypeInfo} {fs:List AV} {ki:IntKind} {j:Nat} {f:AV} (k:WL c ops l S1 K) (ho:o.op=.indexAddr T x i:=by rfl) (hx:evT c T S x=.fr fs:=by rfl) (hj:evT c 0 S i=.d (.lf (.int ki (j:Int))):=by rfl) (hf:fs[j]? =some f:=by simp[H];rfl) (hd:o.dst=some k0:=by rfl) (hg:o.guard=none:=by rfl) (hk:k0<S.n:=by simp) (hu:c.P.underlying T=some (.slice e):=by rfl) (hi:c.P.info? e=some ii:=by rfl) (hsz:ii.size=1:=by rfl) (ox:okO c T x:=by trivial) (oi:okO c 0 i:=by trivial)
  (e1:(⟨S.n,upd S.tm k0 (.ep f),S.hp⟩:St)=S1:=by simp[H];rfl):WL c ops (o::l) S K:=WL.ixFr hg hd hk T x i ho hu hi hsz hx ox j hj oi hf e1 k
theorem jg {k0 T:Nat} {x:Operand} {f:AV} (k:WL c ops l S1 K) (ho:o.op=.load T x:=by rfl) (hx:evT c 0 S x=.ep f:=by rfl) (hT:(isAgg T).run c.P=(fun w=> .ok false w):=by rfl) (hd:o.dst=some k0:=by rfl) (hg:o.guard=none:=by rfl) (hk:k0<S.n:=by simp) (ox:okO c 0 x:=by trivial)
  (e1:(⟨S.n,upd S.tm k0 f,S.hp⟩:St)=S1:=by simp[H];rfl):WL c ops (o::l) S K:=WL.ldEp hg hd hk T x ho hT hx ox e1 k
theorem XlH (ts:List Nat) {f:Operand} {args:Array Operand} {argTypes:Array TypeId} {g:Nat} {cs as':List AV} {r:AV} {h':HP} {fn:Func} (hget:c.P.funcs[g]? =some fn) (hc:CS c.P g as' S.hp r h') (k:WL c ops l S1 K)
  (ho:o.op=.call { callee:=.value f,args,argTypes }:=by rfl) (hg:o.guard=none:=by rfl) (hf:evT c 0 S f=.fn g cs:=by rfl) (of:okO c 0 f:=by simp) (hd:∀k,o.dst=some k→k<S.n:=by simp) (hTs:argTypes.toList.length=args.toList.length:=by rfl) (hok:∀x∈argTypes.toList.zip args.toList,okO c x.1 x.2:=by simp) (hn:(gvn ts args.toList).Nodup:=by simp[G])
  (ha:(argTypes.toList.zip args.toList).map (fun x=>Cq c ts S x.1 x.2)++cs=as':=by first|(simp(disch:=first|(simp;done)|omega) [M,G,H,BF];done)|(simp(disch:=first|(simp;done)|omega) [M,G,H,BF];rfl)|rfl) (hb:fn.body.isSome=true:=by rfl) (hnm:(fn.name== "runtime.NumGoroutine")=false:=by rfl)
  (e:(⟨S.n,B0 (BB S.tm (gvn ts args.toList)) o.dst r,h'⟩:St)=S1:=by first|(simp(disch:=first|(simp;done)|omega) [M,G,H,BF];rfl)|rfl):WL c ops (o::l) S K:=by
 obtain⟨b,hfn⟩:=fok (c:=c) hget hb hnm
 exact WL.call ts f args argTypes ho hg hd hf of hfn hTs hok hn ha hc e k
theorem MT (hd:∀k,o.dst=some k→k<S.n) (hw:wnt ops o S=some true) (f:Operand) (args:Array Operand) (argTypes:Array TypeId) (ho:o.op=.call { callee:=.value f,args,argTypes }) (ts:List Nat)
  (g:Nat) (caps:List AV) (hf:evT c 0 S f=.fn g caps) (of:okO c 0 f) (fn:Func) (body:Code) (hg:CT c.P g fn body) (Ts:List Nat) (hTs:Ts.length=args.toList.length) (hok:∀x∈Ts.zip args.toList,okO c x.1 x.2) (hn:(gvn ts args.toList).Nodup)
  (r:AV) (h':HP) (hc:CS c.P g ((Ts.zip args.toList).map (fun x=>Cq c ts S x.1 x.2)++caps) S.hp r h'):(⟨o,gvn ts args.toList,r,.hp h'⟩:Fsk).valid c ops S:=by
 intro S1 k
 have hmem:∀x∈args.toList,x∈o.op.operands.toList:=fun x hx=>by rw[ho];simp[Op.operands,Call.operands] at hx ⊢;exact .inr hx
 have ef:evT c 0 S1 f=evT c 0 S f:=Hp (fun t e=>k.rd t (DJ (by rw[ho,e];simp[Op.operands,Call.operands]))) 0
 have ea:((Ts.zip args.toList).map (fun x=>Cq c ts S1 x.1 x.2))=(Ts.zip args.toList).map (fun x=>Cq c ts S x.1 x.2):=by
  refine List.map_congr_left fun x hx=> ?_
  obtain⟨T,x⟩:=x
  have hx2:=(List.of_mem_zip hx).2
  cases x with
  |tmp t=>
   simp only[Cq]
   cases hq:ts.contains t with
   |true=>
    simp only[cond_true]
    refine k.ts t ?_
    simp only[gvn,List.mem_flatMap]
    exact⟨.tmp t,hx2,by simp only[hq,cond_true,List.mem_singleton]⟩
   |false=>simp only[cond_false];exact k.rd t (DJ (hmem _ hx2))
  |_=>rfl
 have hh:S1.hp=S.hp:=k.hp
 exact OS.call (c:=c) (by rw[k.n];exact hd) ((GK k.rd).trans hw) f args argTypes ho ts g caps (ef.trans hf) of fn body hg Ts hTs hok hn r h' (by rw[ea,hh];exact hc)
theorem aA {acc:List Sk} (ts:List Nat) {f:Operand} {args:Array Operand} {argTypes:Array TypeId} {g:Nat} {cs as':List AV} {r:AV} {h':HP} {fn:Func} (hget:c.P.funcs[g]? =some fn) (hc:CS c.P g as' S.hp r h') (k:DL c ops (acc++[⟨gvn ts args.toList,.hp⟩]) l S1 K)
  (ho:o.op=.call { callee:=.value f,args,argTypes }:=by rfl) (hg:o.guard=none:=by rfl) (hf:evT c 0 S f=.fn g cs:=by rfl) (of:okO c 0 f:=by simp) (hd:∀k,o.dst=some k→k<S.n:=by simp) (hTs:argTypes.toList.length=args.toList.length:=by rfl) (hok:∀x∈argTypes.toList.zip args.toList,okO c x.1 x.2:=by simp) (hn:(gvn ts args.toList).Nodup:=by simp[G])
  (ha:(argTypes.toList.zip args.toList).map (fun x=>Cq c ts S x.1 x.2)++cs=as':=by first|(simp(disch:=first|(simp;done)|omega) [M,G,H,BF];done)|(simp(disch:=first|(simp;done)|omega) [M,G,H,BF];rfl)|rfl) (hb:fn.body.isSome=true:=by rfl) (hnm:(fn.name== "runtime.NumGoroutine")=false:=by rfl)
  (e:(⟨S.n,B0 (BB S.tm (gvn ts args.toList)) o.dst r,h'⟩:St)=S1:=by first|(simp(disch:=first|(simp;done)|omega) [M,G,H,BF];rfl)|rfl):DL c ops acc (o::l) S K:=by
 obtain⟨b,hfn⟩:=fok (c:=c) hget hb hnm
 subst ha
 exact DL.cons ⟨o,gvn ts args.toList,r,.hp h'⟩ rfl (MT hd (by unfold wnt;rw[hg]) f args argTypes ho ts g cs hf of fn b hfn argTypes.toList hTs hok hn r h' hc) (fun _ _ h=>by cases h) (fun _ _ h=>by cases h) e k
end
theorem GF {P A : Prop} (k : A) (h : A → P := by
 first
  |exact fun k=>fS k
  |exact fun k=>jh k
  |exact fun k=>jg k
  |exact fun k=>Xfr k):P:=h k
class VwC (l:List AV):Prop where
 ok:AV.vws l=l
 up:AV.ups l=l
 cl:∀L,AV.cls L l
instance VwC_n:VwC []:=⟨rfl,rfl,fun _=>by simp[AV.cls]⟩
instance VwC_e (x:DD) (l:List AV) [h:VwC l]:VwC (.el x::l):=⟨by simp only[AV.vws,AV.vw,h.ok],by simp only[AV.ups,AV.up,h.up],fun L=>by simp only[AV.cls,AV.cl];exact⟨trivial,h.cl L⟩⟩
instance VwC_f (g:Nat) (c l:List AV) [k:VwC c] [h:VwC l]:VwC (.fn g c::l):=⟨by simp only[AV.vws,AV.vw,h.ok,k.ok],by simp only[AV.ups,AV.up,h.up,k.up],fun L=>by simp only[AV.cls,AV.cl];exact⟨k.cl L,h.cl L⟩⟩
theorem VwC.all {l:List AV} (h:VwC l):AV.vws l=l∧AV.ups l=l∧∀L,AV.cls L l:=⟨h.ok,h.up,h.cl⟩

theorem fz {S:St} (g:Nat→AV) (h:∀t,g t=S.tm t∨g t=.un):Wz S ⟨S.n,g,S.hp⟩:=fun w F Θ own a hR=>by
 classical
 let own':Who→List Nat:=fun x=>match x with
  | .t t=>if g t=S.tm t then own (.t t) else []
  |y=>own y
 have sub:∀x b,b∈own' x→b∈own x:=fun x b hb=>by
  cases x with
  |t t=>simp only[own'] at hb;split at hb;exact hb;simp at hb
  |h lv q=>exact hb
  |l lv q=>exact hb
 refine⟨F,Θ,own',⟨hR.n,hR.df,fun t=> ?_,hR.hn,hR.hs,fun x=> ?_,fun x y hxy b hx hy=>hR.dj x y hxy b (sub x b hx) (sub y b hy),fun x b hb=>hR.lt x b (sub x b hb),hR.top,hR.gl⟩,⟨Ks.refl _ _ _,fun x b hb=> .inl ⟨x,sub x b hb⟩,fun _ _=>rfl⟩⟩
 ·show rv w F Θ (g t) _ _
  by_cases e:g t=S.tm t
  ·have:own' (.t t)=own (.t t):=if_pos e
   rw[this,e];exact hR.tm t
  ·have:own' (.t t)=[]:=if_neg e
   rw[this,(h t).resolve_left e]
   simp only[rv]
 ·cases x with
  |t t=>show(if _ then _ else _:List Nat).Nodup;split;exact hR.nd _;exact List.nodup_nil
  |h lv q=>exact hR.nd _
  |l lv q=>exact hR.nd _
def Dv (lo d:Nat) (f:Nat→AV):Nat→AV:=fun t=>bif Nat.ble lo t && Nat.ble t d then .un else f t
theorem RA {lo d t:Nat} {f:Nat→AV} (h:t<lo):Dv lo d f t=f t:=by
 have:Nat.ble lo t=false:=by
  cases e:Nat.ble lo t with
  |false=>rfl
  |true=>have:=Nat.le_of_ble_eq_true e;omega
 simp[Dv,this]
theorem RB {lo d t:Nat} {f:Nat→AV} (h:d<t):Dv lo d f t=f t:=by
 have:Nat.ble t d=false:=by
  cases e:Nat.ble t d with
  |false=>rfl
  |true=>have:=Nat.le_of_ble_eq_true e;omega
 simp[Dv,this]
theorem HC {lo d t:Nat} {f:Nat→AV} (h:lo≤t) (k:t≤d):Dv lo d f t=.un:=by
 simp[Dv,Nat.ble_eq_true_of_le h,Nat.ble_eq_true_of_le k]
theorem HB {lo d k:Nat} {f:Nat→AV} {v:AV} (h1:lo≤k) (h2:k≤d):Dv lo d (upd f k v)=Dv lo d f:=by
 funext t
 by_cases e:t=k
 ·subst e;rw[HC h1 h2,HC h1 h2]
 ·have:(t==k)=false:=beq_eq_false_iff_ne.2 e
  simp only[Dv,upd,this,cond_false]
theorem Jl {lo d a b:Nat} {f:Nat→AV} (h1:lo≤a) (h2:b≤d):Dv lo d (Dv a b f)=Dv lo d f:=by
 funext t
 rcases Nat.lt_or_ge t a with e|e
 ·simp only[Dv.eq_def lo,RA e]
 ·rcases Nat.lt_or_ge b t with e2|e2
  ·simp only[Dv.eq_def lo,RB e2]
  ·rw[HC (by omega) (by omega),HC (by omega) (by omega)]
structure PJ (S:St) (lo d:Nat) (X:Bool) (S':St):Prop where
 x:S'.tm d=.d (.lf (.bool X))
 tm:Dv lo d S'.tm=Dv lo d S.tm
 n:S'.n=S.n
 hp:S'.hp=S.hp
structure PXs (P:Bool→Bool→Prop):Prop where
 ex:∃X Y,P X Y
theorem PXs.of {P:Bool→Bool→Prop} {X Y:Bool} (h:P X Y):PXs P:=⟨X,Y,h⟩
def ir (k:Nat) (o:Oper):Bool:=match o.op with
 | .pick (.tmp t) _ _=>Nat.beq t k
 |_=>false
def pkn (k:Nat):List Oper→Option (List Oper×List Oper×Option Nat)
 |[]=>none
 |o::l=>bif ir k o then some ([o],l,o.dst) else match pkn k l with
  |some (a,b,d)=>some (o::a,b,d)
  |none=>none
theorem UZ {k:Nat}:∀{l a b:List Oper} {d:Option Nat},pkn k l=some (a,b,d)→l=a++b
 |[],_,_,_,h=>by simp[pkn] at h
 |o::l,a,b,d,h=>by
  unfold pkn at h
  cases hp:ir k o with
  |true=>rw[hp] at h;simp at h;obtain⟨rfl,rfl, -⟩:=h;rfl
  |false=>
   rw[hp] at h
   simp only[cond_false] at h
   cases hq:pkn k l with
   |none=>rw[hq] at h;cases h
   |some x=>
    obtain⟨a',b',d'⟩:=x
    rw[hq] at h
    simp only[Option.some.injEq,Prod.mk.injEq] at h
    obtain⟨rfl,rfl, -⟩:=h
    rw[UZ hq];rfl
theorem MU {S:St} {k:Nat} {b:Bool} (h:S.tm k=.d (.lf (.bool b))):(⟨S.n,upd S.tm k (.d (.lf (.bool b))),S.hp⟩:St)=S:=by
 have:upd S.tm k (.d (.lf (.bool b)))=S.tm:=by
  funext t
  by_cases ht:t=k
  ·subst ht;rw[Au,h]
  ·rw[BC _ _ ht]
 rw[this]
structure JB (p q r:Prop):Prop where
 t:p
 f:q
 k:r
structure JK (p:Prop):Prop where
 k:p
structure JW (q:Prop) (p:Prop):Prop where
 w:q→p
theorem XP {c:Cx} {ops:Array Oper} {o:Oper} {l:List Oper} {S:St} {K:St→Prop} {D:List (Option Nat)} (hD:ops.toList.map (·.dst)=D) {j k lo d:Nat} {b q:Bool} {S1 S2:St} {l1 l2:List Oper} (hg:o.guard=some (j,b)) (hj:D[j]? =some (some k)) (hq:S.tm k=.d (.lf (.bool q))) (hs:pkn k (o::l)=some (l1,l2,some d)) (hl:o.dst=some lo)
  (h:PXs fun X Y=>JB (JW (q=true) (∀(l3:List Oper),(∀S',PJ S1 lo d X S'→WL c ops l3 S' K)→WL c ops (l1++l3) S1 K)) (JW (q=false) (∀(l3:List Oper),(∀S',PJ S2 lo d Y S'→WL c ops l3 S' K)→WL c ops (l1++l3) S2 K)) (JK (∀T,(⟨S.n,upd (Dv lo d S.tm) d (.d (.lf (.bool (bif q then X else Y)))),S.hp⟩:St)=T→WL c ops l2 T K)))
  (e1:(⟨S.n,upd S.tm k (.d (.lf (.bool true))),S.hp⟩:St)=S1:=by first|(simp[H];rfl)|rfl) (e2:(⟨S.n,upd S.tm k (.d (.lf (.bool false))),S.hp⟩:St)=S2:=by first|(simp[H];rfl)|rfl):WL c ops (o::l) S K:=by
 obtain⟨X,Y,h⟩:=h.ex
 rw[UZ hs]
 have key:∀(Z:Bool) (S':St),Z=(bif q then X else Y)→PJ S lo d Z S'→WL c ops l2 S' K:=fun Z S' hz hp=>by
  have z:Wz S' ⟨S'.n,upd (Dv lo d S.tm) d (.d (.lf (.bool (bif q then X else Y)))),S'.hp⟩:=fz _ fun t=>by
   by_cases e:t=d
   ·subst e;rw[Au, ←hz];exact .inl hp.x.symm
   ·rw[BC _ _ e]
    rw[←hp.tm]
    unfold Dv
    cases (Nat.ble lo t && Nat.ble t d) with
    |true=>exact .inr rfl
    |false=>exact .inl rfl
  rw[hp.n,hp.hp] at z
  exact WL.ahead z (h.k.k _ rfl)
 cases q with
 |true=>
  rw[MU hq] at e1;subst e1
  exact h.t.w rfl l2 fun S' hp=>key X S' rfl hp
 |false=>
  rw[MU hq] at e2;subst e2
  exact h.f.w rfl l2 fun S' hp=>key Y S' rfl hp
attribute [simp] RA RB HC
