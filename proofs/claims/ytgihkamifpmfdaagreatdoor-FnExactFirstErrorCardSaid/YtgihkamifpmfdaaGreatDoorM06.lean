/- Part 06. No condition. -/
import Derived.Test.YtgihkamifpmfdaaGreatDoorM05
namespace Go.Proofs.YtgihkamifpmfdaaGreatDoor
open Go.RowKit
set_option linter.unusedVariables false
set_option linter.unusedSimpArgs false
def rdA (cn:AV) (p:List Nat):AV:=match cn with
 | .d y=> .d (D9 y p)
 |c=>c
def wrA (cn:AV) (p:List Nat) (x:AV):AV:=match cn,x,p with
 | .d y,.d z,p=> .d (Df y p z)
 |_,x,_=>x
def ldX (mv:Bool) (S:St) (lv k:Nat) (p:List Nat) (cn:AV):AV×HP:=
 bif mv then (rdA cn p,hps S.hp lv k (some (wrA cn p (rdA cn p).vw))) else ((rdA cn p).vw,S.hp)
def nx (c:Cx) (mv:List Nat) (o:Oper) (S:St):St:=match o.op with
 | .alloc T=>match o.dst,c.ty T with
  |some k,some ti=>⟨S.n,upd S.tm k (.pt 0 k []),hps S.hp 0 k (some (.d ti.z))⟩
  |_,_=>S
 | .box T x=>match o.dst with
  |some k=>⟨S.n,upd (BD S.tm (tmO x)) k (.pt 0 k []),hps S.hp 0 k (some (tkT c T S x))⟩
  |none=>S
 | .load _ x=>match evT c 0 S x with
  | .pt lv k p=>match hpg S.hp lv k with
   |some cn=>⟨S.n,B1 S.tm o.dst (ldX (mvB mv o.dst) S lv k p cn).1,(ldX (mvB mv o.dst) S lv k p cn).2⟩
   |none=>S
  | .el y=>⟨S.n,B1 S.tm o.dst (.d y),S.hp⟩
  |_=>S
 | .store T x v=>match evT c 0 S x with
  | .pt lv k p=>match hpg S.hp lv k with
   |some cn=>⟨S.n,B1 (BD S.tm (tmO v)) o.dst .un,hps S.hp lv k (some (wrA cn p (tkT c T S v)))⟩
   |none=>S
  |_=>S
 | .buildSlice T n ps=>match c.ty T with
  |some { kd:=.sl e s,.. }=>match c.ty e with
   |some te=>⟨S.n,B1 (BD S.tm (cls mv o)) o.dst (.d (.sl true s (Ds (List.replicate n te.z) (ps.toList.map fun p=>(p.1,tkT c e S p.2))))),S.hp⟩
   |none=>S
  |_=>S
 | .call { callee:=.builtin .append,args,argTypes }=>match args.toList.map (tkT c (argTypes.getD 0 0) S) with
  |[.d (.sl _ _ es),.d (.sl _ _ ys)]=>⟨S.n,B1 (BD S.tm (cls mv o)) o.dst (.d (.sl true (c.el (argTypes.getD 0 0)) (es++ys))),S.hp⟩
  |_=>S
 | .makeSlice T l _=>match o.dst,c.ty T,evT c 0 S l with
  |some k,some { kd:=.sl e _,.. },.d (.lf (.int _ n))=>match c.ty e with
   |some te=>⟨S.n,upd S.tm k (.rw 0 k n.toNat),hps S.hp 0 k (some (.d (.st (List.replicate n.toNat te.z))))⟩
   |none=>S
  |_,_,_=>S
 |_=>nxP c mv o S
theorem EB:∀s:Sh,C8 s []=some 0
 | .one=>rfl
 | .st _=>rfl
section
variable {c:Cx} {mv:List Nat} {o:Oper} {S:St} {w:World} {F:Nat→Nat} {Θ:Ty} {own:Who→List Nat} {a:Act}
theorem Mf {T:Nat} {ti:TI} (h:Mg c.P T ti):(isAgg T).run c.P w=.ok (match ti.sh with| .st _=>true| .one=>false) w:=by
 have hk:=h.kd
 unfold isAgg
 cases hq:ti.kd<;>rw[hq] at hk<;>simp only[Xy] at hk
 ·obtain⟨h1,d,h2,h3,h4⟩:=hk
  rw[h1,Sem.run_bind,run_underlying h2]
  cases d<;>first|rfl|exact absurd rfl (h3 _)|exact absurd rfl (h4 _ _)
 ·rw[hk.1,Sem.run_bind,run_underlying hk.2];rfl
 ·rw[hk.1,Sem.run_bind,run_underlying hk.2];rfl
 ·rw[hk.1,Sem.run_bind,run_underlying hk.2];rfl
 ·rw[hk.1,Sem.run_bind,run_underlying hk.2.2.1];rfl
 ·obtain⟨h1,fs,h2, -⟩:=hk
  rw[h1,Sem.run_bind,run_underlying h2];rfl
 ·rw[hk.1,Sem.run_bind,run_underlying hk.2.2.2.1];rfl
theorem Dg {T:Nat} {ti:TI} (h:Mg c.P T ti) {b off:Nat} {ce:List Value} {e:DD} {be:List Nat} (hc:CQ w b off ce) (hr:rp w F e ce be) (hs:e.sh=ti.sh):(loadVar T ⟨b,off,none⟩).run c.P w=.ok (e.mk ce) w:=by
 have hl:=rp.length _ _ _ hr
 obtain⟨i,hi1,hi2, -⟩:=h.info
 have hld:(loadCells ⟨b,off,none⟩ ce.length).run c.P w=.ok ce.toArray w:=run_loadCells_list (P:=c.P) w ⟨b,off,none⟩ ce (fun j v hv=>by rw[Addr.add_lit];exact hc j v hv)
 unfold loadVar
 rw[Sem.run_bind,Mf h]
 cases e with
 |st fs=>
  simp only[DD.sh] at hs
  rw[←hs]
  rw[←hs] at hi2
  have:i.size=ce.length:=by rw[hi2,hl];rfl
  simp[sizeOf,typeInfo,hi1,this,hld,DD.mk]
 |lf v=>
  simp only[DD.sh] at hs
  rw[←hs]
  simp only[rp] at hr
  obtain⟨rfl, -⟩:=hr
  have:=hc 0 v rfl
  simp only[Nat.add_zero] at this
  simp[load,Sem.run,this,DD.mk]
 |sl o s es=>
  simp only[DD.sh] at hs
  rw[←hs]
  have hr':=hr
  simp only[rp] at hr'
  obtain⟨-, -,a',cap,rfl, -⟩:=hr'
  have:=hc 0 _ rfl
  simp only[Nat.add_zero] at this
  simp[load,Sem.run,this,DD.mk]
theorem Gk {T:Nat} {ti:TI} (h:Mg c.P T ti) {b off:Nat} {cx:List Value} (v:Value) (hv:v.cells=cx.toArray) (hl:cx.length=ti.sh.w) (h1:∀u∈cx,u.oneCell'=true) {cur:Array Value} {t:TypeId} (hg:w.heap[b]? =some (.cells cur t (0,0))) (hf:off+cx.length≤cur.size):
  (storeVar T ⟨b,off,none⟩ v).run c.P w=.ok () (w.setRow b (cur.toList.take off++cx++cur.toList.drop (off+cx.length)).toArray):=by
 obtain⟨i,hi1,hi2, -⟩:=h.info
 have hst:=run_storeCells_at c.P b off t cx 0 cur w hg (by simpa using hf) h1
 simp only[Nat.add_zero] at hst
 have:i.size=cx.length:=by rw[hi2,hl]
 simp[storeVar,sizeOf,typeInfo,hi1,this,hv,hst]
theorem SZ (hd:∀k,o.dst=some k→k<S.n) (T k:Nat) (ho:o.op=.alloc T) (hk:o.dst=some k) (ti:TI) (ht:c.ty T=some ti) (hn:hpg S.hp 0 k=none) (hne:0<S.hp.length):Snd c o S (nx c mv o S):=by
 intro w F Θ own a hR
 have hT:=c.ok T ti ht
 obtain⟨i,hi1,hi2,hi3,hi4⟩:=hT.info
 have hz:=hT.z w F
 have hrun:(execOp a.eval o).run c.P w=.ok (.value (.pointer (some ⟨w.heap.size,0,none⟩))) (w.alloc (.cells ti.zc.toArray T)):=by
  unfold execOp
  have hc:=EC hz
  simp[ho,Go.Instr.alloc,zeroValue,typeInfo,hi1,hi4,newVar,newRow,hc]
 obtain⟨own',h1,h2⟩:=hR.alloc k (hd k hk) hn hne [] (.d ti.z) ti.zc [] ti.sh T (by simp only[AV.csh,hT.zs]) (by simpa only[rc] using hz) List.nodup_nil (by simp) (.pt 0 k []) (.pointer (some ⟨w.heap.size,0,none⟩))
  (by simp only[rv];exact⟨trivial,w.heap.size,ti.sh,0,by unfold J6;rw[if_pos ⟨rfl,rfl⟩],EB _,rfl⟩)
 refine⟨_,_,F,_,own',.inl hrun,?_,h2⟩
 unfold nx
 simp only[ho,hk,ht]
 exact h1
theorem NR {cn:AV} {v:Value} {bs:List Nat} {s:Sh} (h:rv w F Θ cn v bs) (hs:cn.csh=some s):∃cs,rc w F Θ cn cs bs∧v.cells=cs.toArray∧cs.length=s.w∧∀u∈cs,u.oneCell'=true:=by
 cases cn with
 |un=>simp[AV.csh] at hs
 |pv _=>simp[AV.csh] at hs
 |mt _=>simp[AV.csh] at hs
 |mn _ _=>simp[AV.csh] at hs
 |tp l=>simp[AV.csh] at hs
 |d x=>
  simp only[AV.csh,Option.some.injEq] at hs
  subst hs
  simp only[rv] at h
  obtain⟨cs,h1,rfl⟩:=h
  exact⟨cs,by simpa only[rc] using h1,EC h1,rp.length _ _ _ h1,rp.one _ _ _ h1⟩
 |pt lv k p=>
  simp only[AV.csh,Option.some.injEq] at hs
  subst hs
  have h':=h
  simp only[rv] at h'
  obtain⟨-,b,s,off, -, -,rfl⟩:=h'
  exact⟨[_],by simp only[rc];exact⟨_,rfl,rfl,h⟩,rfl,rfl,by simp[Value.oneCell']⟩
 |el x=>
  simp only[AV.csh,Option.some.injEq] at hs
  subst hs
  have h':=h
  simp only[rv] at h'
  obtain⟨-,b,off,cs,rfl, -⟩:=h'
  exact⟨[_],by simp only[rc];exact⟨_,rfl,rfl,h⟩,rfl,rfl,by simp[Value.oneCell']⟩
 |rw lv k n=>
  simp only[AV.csh,Option.some.injEq] at hs
  subst hs
  have h':=h
  simp only[rv] at h'
  obtain⟨-,b,s, -,rfl, -⟩:=h'
  exact⟨[_],by simp only[rc];exact⟨_,rfl,rfl,h⟩,rfl,rfl,by simp[Value.oneCell']⟩
 |fn f k=>
  simp only[AV.csh,Option.some.injEq] at hs
  subst hs
  have h':=h
  simp only[rv] at h'
  obtain⟨vs,rfl, -⟩:=h'
  exact⟨[_],by simp only[rc];exact⟨_,rfl,rfl,h⟩,rfl,rfl,by simp[Value.oneCell']⟩
 |fr l=>
  simp only[AV.csh,Option.some.injEq] at hs
  subst hs
  have h':=h
  simp only[rv] at h'
  obtain⟨-,b,vs,rfl, -⟩:=h'
  exact⟨[_],by simp only[rc];exact⟨_,rfl,rfl,h⟩,rfl,rfl,by simp[Value.oneCell']⟩
 |ep a=>
  simp only[AV.csh,Option.some.injEq] at hs
  subst hs
  have h':=h
  simp only[rv] at h'
  obtain⟨-,b,off,u,rfl, -⟩:=h'
  exact⟨[_],by simp only[rc];exact⟨_,rfl,rfl,h⟩,rfl,rfl,by simp[Value.oneCell']⟩
 |ms q l=>
  simp only[AV.csh,Option.some.injEq] at hs
  subst hs
  have h':=h
  simp only[rv] at h'
  obtain⟨-, -,a,cap,rfl, -⟩:=h'
  exact⟨[_],by simp only[rc];exact⟨_,rfl,rfl,h⟩,rfl,rfl,by simp[Value.oneCell']⟩
 |mb g q l=>
  simp only[AV.csh,Option.some.injEq] at hs
  subst hs
  have h':=h
  simp only[rv] at h'
  obtain⟨-, -, -,a,cap,rfl, -⟩:=h'
  exact⟨[_],by simp only[rc];exact⟨_,rfl,rfl,h⟩,rfl,rfl,by simp[Value.oneCell']⟩
 |mp g q i p=>
  simp only[AV.csh,Option.some.injEq] at hs
  subst hs
  have h':=h
  simp only[rv] at h'
  obtain⟨-,off, -,rfl⟩:=h'
  exact⟨[_],by simp only[rc];exact⟨_,rfl,rfl,h⟩,rfl,rfl,by simp[Value.oneCell']⟩
theorem Yc (hd:∀k,o.dst=some k→k<S.n) (T k:Nat) (x:Operand) (ho:o.op=.box T x) (hk:o.dst=some k) (ox:okO c T x) (s:Sh) (hs:(tkT c T S x).csh=some s) (hn:hpg S.hp 0 k=none) (hne:0<S.hp.length):Snd c o S (nx c mv o S):=by
 intro w F Θ own a hR
 have hv:=Gf hR ox
 obtain⟨cs,h1,h2,h3,h4⟩:=NR hv hs
 have hrun:(execOp a.eval o).run c.P w=.ok (.value (.pointer (some ⟨w.heap.size,0,none⟩))) (w.alloc (.cells cs.toArray T)):=by
  unfold execOp
  simp[ho,Go.Instr.box,newVar,newRow,h2]
 obtain ⟨own', g1, g2⟩ := hR.alloc k (hd k hk) hn hne (tmO x) (tkT c T S x) cs _ s T hs h1 (by
   refine List.pairwise_flatMap.2 ⟨fun t _=>hR.nd _,?_⟩
   cases x<;>simp[tmO]) (fun b hb=>by obtain⟨t,ht,q⟩:=List.mem_flatMap.1 hb;exact⟨t,ht,q⟩) (.pt 0 k []) (.pointer (some ⟨w.heap.size,0,none⟩))
  (by simp only[rv];exact⟨trivial,w.heap.size,s,0,by unfold J6;rw[if_pos ⟨rfl,rfl⟩],EB _,rfl⟩)
 refine⟨_,_,F,_,own',.inl hrun,?_,g2⟩
 unfold nx
 simp only[ho,hk]
 exact g1
theorem V3 {cn:AV} {cs:List Value} {bs:List Nat} (h:rc w F Θ cn cs bs) {s:Sh} (hs:cn.csh=some s) {p:List Nat} {off:Nat} (ho:C8 s p=some off) {T:Nat} {ti:TI} (hT:Mg c.P T ti) (hr:(rdA cn p).csh=some ti.sh):
  ∃c1 ce c2 be v,cs=c1++(ce++c2)∧c1.length=off∧ce.length=ti.sh.w∧(∀x∈be,x∈bs)∧rv w F Θ (rdA cn p) v be∧∀b,CQ w b off ce→(loadVar T ⟨b,off,none⟩).run c.P w=.ok v w:=by
 have nonD:(∀y,cn≠ .d y)→rdA cn p=cn→∃c1 ce c2 be v,cs=c1++(ce++c2)∧c1.length=off∧ce.length=ti.sh.w∧(∀x∈be,x∈bs)∧rv w F Θ (rdA cn p) v be∧∀b,CQ w b off ce→(loadVar T ⟨b,off,none⟩).run c.P w=.ok v w:=by
  intro hd he
  have hs1:s=.one:=by
   cases cn<;>simp[AV.csh] at hs<;>first|exact hs.symm|exact absurd rfl (hd _)
  rw[he] at hr
  have hts:ti.sh=.one:=by rw[hs] at hr;simp only[Option.some.injEq] at hr;rw[←hr,hs1]
  subst hs1
  have hp:p=[]:=by
   cases p with
   |nil=>rfl
   |cons i p=>simp[C8] at ho
  subst hp
  simp only[C8,Option.some.injEq] at ho
  subst ho
  have hv:∃v,cs=[v]∧rv w F Θ cn v bs:=by
   cases cn<;>simp only[rc] at h<;>first|exact h.elim|exact absurd rfl (hd _)|(obtain⟨v,h1, -,h3⟩:=h;exact⟨v,h1,h3⟩)
  obtain⟨v,hcv,hv⟩:=hv
  refine⟨[],cs,[],bs,v,by simp,rfl,by rw[hcv,hts];rfl,fun _ q=>q,by rw[he];exact hv,fun b hc=> ?_⟩
  subst hcv
  have:=hc 0 v rfl
  simp only[Nat.add_zero] at this
  unfold loadVar
  rw[Sem.run_bind,Mf hT,hts]
  simp[load,Sem.run,this]
 cases cn with
 |un=>simp[AV.csh] at hs
 |pv _=>simp[AV.csh] at hs
 |mt _=>simp[AV.csh] at hs
 |mn _ _=>simp[AV.csh] at hs
 |tp l=>simp[AV.csh] at hs
 |pt _ _ _=>exact nonD (by simp) rfl
 |el _=>exact nonD (by simp) rfl
 |rw _ _ _=>exact nonD (by simp) rfl
 |fn _ _=>exact nonD (by simp) rfl
 |fr _=>exact nonD (by simp) rfl
 |ep _=>exact nonD (by simp) rfl
 |ms _ _=>exact nonD (by simp) rfl
 |mb _ _ _=>exact nonD (by simp) rfl
 |mp _ _ _ _=>exact nonD (by simp) rfl
 |d y=>
  simp only[AV.csh,Option.some.injEq] at hs
  subst hs
  simp only[rc] at h
  obtain⟨c1,ce,c2,b1,be,b2,rfl,rfl,g1,g2,g3⟩:=rp.focus p y cs bs h off ho
  simp only[rdA,AV.csh,Option.some.injEq] at hr
  have hce:=rp.length _ _ _ g2
  exact⟨c1,ce,c2,be,(D9 y p).mk ce,rfl,g1,by rw[hce,hr],fun x hx=>by simp[hx],by simp only[rdA,rv];exact⟨ce,g2,rfl⟩,fun b hc=>Dg hT hc g2 hr⟩
theorem To {cn x:AV} {cs cx:List Value} {bs bx:List Nat} (h:rc w F Θ cn cs bs) (hx:rc w F Θ x cx bx) {s s':Sh} (hs:cn.csh=some s) {p:List Nat} {off:Nat} (ho:C8 s p=some off) (hr:(rdA cn p).csh=some s') (hxs:x.csh=some s') (hl:cx.length=s'.w) (hcl:cs.length=s.w)
  (hcase:(∃y z,cn=.d y∧x=.d z)∨p=[]) (hn:(bs++bx).Nodup):
  ∃bs',rc w F Θ (wrA cn p x) (cs.take off++(cx++cs.drop (off+cx.length))) bs'∧(wrA cn p x).csh=some s∧off+cx.length≤cs.length∧bs'.Nodup∧∀b∈bs',b∈bs∨b∈bx:=by
 by_cases hp:p=[]
 ·subst hp
  simp only[EB,Option.some.injEq] at ho
  subst ho
  have hw:wrA cn [] x=x:=by cases cn<;>cases x<;>simp[wrA,Df]
  have hrd:(rdA cn []).csh=cn.csh:=by cases cn<;>simp[rdA,D9]
  rw[hrd,hs] at hr
  cases hr
  rw[hw]
  refine⟨bx,?_,hxs,by omega,(List.nodup_append.1 hn).2.1,fun b hb=> .inr hb⟩
  rw[hl, ←hcl]
  simpa using hx
 ·obtain⟨y,z,rfl,rfl⟩:=hcase.resolve_right hp
  simp only[AV.csh,Option.some.injEq] at hs
  subst hs
  simp only[rc] at h hx
  obtain⟨c1,ce,c2,b1,be,b2,rfl,rfl,g1,g2,g3⟩:=rp.focus p y cs bs h off ho
  simp only[rdA,AV.csh,Option.some.injEq] at hr hxs
  have hce:=rp.length _ _ _ g2
  have hcx:=rp.length _ _ _ hx
  have hcc:cx.length=ce.length:=by rw[hcx,hce,hxs,hr]
  obtain⟨k1,k2⟩:=g3 z cx bx (by rw[hxs,hr]) hx
  have e1:(c1++(ce++c2)).take off=c1:=by rw[←g1];exact List.take_left
  have e2:(c1++(ce++c2)).drop (off+cx.length)=c2:=by
   rw[show off+cx.length=c1.length+ce.length by omega, ←List.append_assoc, ←List.length_append]
   exact List.drop_left
  refine⟨b1++(bx++b2),by rw[e1,e2];simpa only[wrA,rc] using k1,by simp only[wrA,AV.csh,k2],by simp only[List.length_append];omega,?_,fun b hb=> ?_⟩
  ·have hp1:(b1++(bx++b2)).Perm (b1++b2++bx):=by
    rw[List.append_assoc]
    exact List.Perm.append_left b1 List.perm_append_comm
   refine hp1.nodup_iff.2 (List.Nodup.sublist ?_ hn)
   exact List.Sublist.append (List.Sublist.append (List.Sublist.refl _) (List.sublist_append_right be b2)) (List.Sublist.refl _)
  ·simp only[List.mem_append] at hb ⊢
   rcases hb with h|h|h
   ·exact .inl (.inl h)
   ·exact .inr h
   ·exact .inl (.inr (.inr h))
theorem Uk (hd:∀k,o.dst=some k→k<S.n) (T:Nat) (x:Operand) (ho:o.op=.load T x) (ti:TI) (ht:c.ty T=some ti) (ox:okO c 0 x) (lv k:Nat) (p:List Nat) (hx:evT c 0 S x=.pt lv k p) (cn:AV) (hc:hpg S.hp lv k=some cn)
  (hr:(rdA cn p).csh=some ti.sh) (hm:mvB mv o.dst=true→∃y,cn=.d y):Snd c o S (nx c mv o S):=by
 intro w F Θ own a hR
 have hT:=c.ok T ti ht
 have hv:=BU hR ox
 rw[hx] at hv
 simp only[rv] at hv
 obtain⟨-,b,s,off,e1,e2,e3⟩:=hv
 obtain⟨b',s',cur,t,z1,z2,z3,z4,z5,z6⟩:=hR.hs lv k cn hc
 rw[e1] at z1
 cases z1
 obtain⟨c1,ce,c2,be,v,q1,q2,q3,q4,q5,q6⟩:=V3 z6 z4 e2 hT hr
 have hcells:CQ w b off ce:=by
  intro j u hu
  have hj:=(List.getElem?_eq_some_iff.1 hu).1
  rw[cell_of_row w b _ cur t (0,0) z5]
  have:cur.toList[off+j]? =some u:=by
   rw[q1,List.getElem?_append_right (by omega),show off+j - c1.length=j by omega,List.getElem?_append_left hj];exact hu
  simpa using this
 have hrun:(execOp a.eval o).run c.P w=.ok (.value v) w:=by
  unfold execOp
  simp[ho,e3,Go.Instr.loadAt,Go.Instr.sureAddr,q6 b hcells]
 have hnx:nx c mv o S=⟨S.n,B1 S.tm o.dst (ldX (mvB mv o.dst) S lv k p cn).1,(ldX (mvB mv o.dst) S lv k p cn).2⟩:=by
  unfold nx
  simp only[ho,hx,hc]
 rw[hnx]
 cases hmv:mvB mv o.dst with
 |false=>
  obtain⟨own',h3,h4⟩:=hR.pure o.dst hd [] List.nodup_nil (rdA cn p).vw v (by simpa using rv.view _ _ _ q5)
  exact⟨v,w,F,Θ,own',.inl hrun,h3,h4⟩
 |true=>
  obtain⟨y,rfl⟩:=hm hmv
  simp only[rdA] at hr q5 ⊢
  simp only[rc] at z6
  simp only[AV.csh,Option.some.injEq] at z4 hr
  subst z4
  obtain⟨d1,de,d2,b1,bb,b2,m1,m2,m3,m4,m5⟩:=rp.focus p y cur.toList (own (.h lv k)) z6 off e2
  obtain⟨n1,n2⟩:=m5 (D9 y p).vw de [] (DD.sh_vw _) (rp.view _ _ _ m4)
  have hde:=rp.length _ _ _ m4
  rw[←m1] at n1
  have hq:de=ce:=by
   have h1:cur.toList.drop off=de++d2:=by rw[m1, ←m3];exact List.drop_left
   have h2:cur.toList.drop off=ce++c2:=by rw[q1, ←q2];exact List.drop_left
   rw[h1] at h2
   exact(List.append_inj h2 (by rw[hde,q3,hr])).1
  subst hq
  have hnd:(b1++(bb++b2)).Nodup:=m2 ▸ hR.nd (.h lv k)
  have hks:Ks w F w F (fun x=>x=b):=Ks.refl _ _ _
  have hv2:v=(D9 y p).mk de:=by
   have h1:=q6 b hcells
   have h2:=Dg hT hcells m4 hr
   rw[h1] at h2
   simpa using h2
  obtain⟨own',h3,h4⟩:=hR.set o.dst hd lv k (.d y) (.d (Df y p (D9 y p).vw)) hc [] b y.sh e1 cur.toList t (b1++([]++b2)) bb (by simp only[AV.csh,n2]) (by simpa only[rc] using n1) (by simpa using z5) hks rfl (.d (D9 y p)) v
   (by simp only [rv]; exact ⟨de, m4, hv2⟩) (by
    have hp1:(b1++([]++b2)++bb).Perm (b1++(bb++b2)):=by
     simp only[List.nil_append,List.append_assoc]
     exact List.Perm.append_left b1 List.perm_append_comm
    exact hp1.nodup_iff.2 hnd) (fun z hz=> .inl (by rw[m2];simp only[List.nil_append,List.mem_append] at hz ⊢;rcases hz with (h|h)|h<;>simp[h]))
  refine⟨v,w,F,Θ,own',.inl hrun,?_,h4⟩
  simp only[BD] at h3
  simpa only[ldX,cond_true,rdA,AV.vw,wrA] using h3
theorem Ow (hd:∀k,o.dst=some k→k<S.n) (T:Nat) (x:Operand) (ho:o.op=.load T x) (ti:TI) (ht:c.ty T=some ti) (ox:okO c 0 x) (y:DD) (hx:evT c 0 S x=.el y) (hr:y.sh=ti.sh):Snd c o S (nx c mv o S):=by
 intro w F Θ own a hR
 have hT:=c.ok T ti ht
 have hv:=BU hR ox
 rw[hx] at hv
 simp only[rv] at hv
 obtain⟨-,b,off,cs,e1,e2,e3,e4⟩:=hv
 have hrun:(execOp a.eval o).run c.P w=.ok (.value (y.mk cs)) w:=by
  unfold execOp
  simp[ho,e1,Go.Instr.loadAt,Go.Instr.sureAddr,Dg hT e2 e3 hr]
 obtain⟨own',h3,h4⟩:=hR.pure o.dst hd [] List.nodup_nil (.d y) (y.mk cs) (by simp only[List.flatMap_nil,rv];exact⟨cs,e3,rfl⟩)
 refine⟨_,w,F,Θ,own',.inl hrun,?_,h4⟩
 unfold nx
 simp only[ho,hx]
 exact h3
theorem SV (hd:∀k,o.dst=some k→k<S.n) (T:Nat) (x y:Operand) (ho:o.op=.store T x y) (ti:TI) (ht:c.ty T=some ti) (ox:okO c 0 x) (oy:okO c T y) (lv k:Nat) (p:List Nat) (hx:evT c 0 S x=.pt lv k p) (cn:AV) (hc:hpg S.hp lv k=some cn)
  (hr:(rdA cn p).csh=some ti.sh) (hy:(tkT c T S y).csh=some ti.sh) (hcase:(∃u z,cn=.d u∧tkT c T S y=.d z)∨p=[]):Snd c o S (nx c mv o S):=by
 intro w F Θ own a hR
 have hT:=c.ok T ti ht
 have hv:=BU hR ox
 rw[hx] at hv
 simp only[rv] at hv
 obtain⟨-,b,s,off,e1,e2,e3⟩:=hv
 obtain⟨b',s',cur,t,z1,z2,z3,z4,z5,z6⟩:=hR.hs lv k cn hc
 rw[e1] at z1
 cases z1
 have hyv:=Gf hR oy
 obtain⟨cx,g1,g2,g3,g4⟩:=NR hyv hy
 have hlen:cur.toList.length=s.w:=by
  have:∀{cn:AV} {cs:List Value} {bs:List Nat},rc w F Θ cn cs bs→cn.csh=some s→cs.length=s.w:=by
   intro cn cs bs h1 h2
   cases cn<;>simp only[rc] at h1<;>simp only[AV.csh,Option.some.injEq] at h2<;>first|exact h1.elim|(cases h2;done)|(subst h2;exact rp.length _ _ _ h1)|(subst h2;obtain⟨v,rfl, -⟩:=h1;rfl)
  exact this z6 z4
 have hbo:∀x,x≠ .l lv k→b∉own x:=fun x hx hb=>hR.dj (.l lv k) x (Ne.symm hx) b (by rw[z2];simp) hb
 let arr:=(cur.toList.take off++cx++cur.toList.drop (off+cx.length))
 have hks:Ks w F (w.setRow b arr.toArray) F (fun x=>x=b):=Jf z5 z3
 have kph:=hks.kp (hR.lt (.h lv k)) (fun q hq e=>hbo _ (by simp) (e ▸ hq))
 have kpy:Kp w F (w.setRow b arr.toArray) F ((tmO y).flatMap fun t=>own (.t t)):=hks.kp (fun q hq=>by obtain⟨t,_,h⟩:=List.mem_flatMap.1 hq;exact hR.lt _ q h) (fun q hq e=>by obtain⟨t,_,h⟩:=List.mem_flatMap.1 hq;exact hbo (.t t) (by simp) (e ▸ h))
 have hTt:∀lv q (x:Nat×Sh),Θ lv q=some x→Θ lv q=some x:=fun _ _ _ q=>q
 have hyn:((tmO y).flatMap fun t=>own (.t t)).Nodup:=by
  refine List.pairwise_flatMap.2 ⟨fun t _=>hR.nd _,?_⟩
  cases y<;>simp[tmO]
 have hnn:(own (.h lv k)++(tmO y).flatMap fun t=>own (.t t)).Nodup:=by
  refine List.nodup_append.2 ⟨hR.nd _,hyn,fun q hq r hr e=> ?_⟩
  subst e
  obtain⟨t,_,h⟩:=List.mem_flatMap.1 hr
  exact hR.dj (.h lv k) (.t t) (by simp) q hq h
 obtain⟨bs',k1,k2,k3,k4,k5⟩:=To (rc.keep hTt _ _ _ z6 kph) (rc.keep hTt _ _ _ g1 kpy) z4 e2 hr hy g3 hlen hcase hnn
 have hrun:(execOp a.eval o).run c.P w=.ok .skip (w.setRow b arr.toArray):=by
  unfold execOp
  have:=Gk (c:=c) hT (a.eval y) g2 g3 g4 z5 (off:=off) (by simpa using k3)
  simp only[ho,e3,Go.Instr.storeAt,Go.Instr.sureAddr,Sem.run_bind,Sem.run_pure,Result.andThen_ok,this]
  rfl
 have harr:(cur.toList.take off++(cx++cur.toList.drop (off+cx.length)))=arr:=by show _=_++_++_;rw[List.append_assoc]
 rw[harr] at k1
 obtain⟨own',h3,h4⟩:=hR.set o.dst hd lv k cn (wrA cn p (tkT c T S y)) hc (tmO y) b s e1 arr t bs' [] k2 k1 (setRow_heap w b cur _ t (0,0) z5) hks (by simp) .un undef (by simp only[rv]) (by simpa using k4)
  (fun q hq => by
   rcases k5 q (by simpa using hq) with h|h
   ·exact .inl h
   ·obtain⟨t,ht,h⟩:=List.mem_flatMap.1 h
    exact .inr ⟨t,ht,h⟩)
 refine⟨undef,_,F,Θ,own',.inr ⟨rfl,hrun⟩,?_,h4⟩
 unfold nx
 simp only[ho,hx,hc]
 exact h3
end
theorem FR (s:Sh):∀m k:Nat,k≤m→Sh.ws ((List.replicate m s).take k)=k*s.w
 |0,k,h=>by simp at h;subst h;simp[Sh.ws]
 |m+1,0,_=>by simp[Sh.ws]
 |m+1,k+1,h=>by rw[List.replicate_succ,List.take_succ_cons,Sh.ws,FR s m k (by omega),Nat.add_mul];omega
theorem QF (z:DD) (n:Nat):DD.shs (List.replicate n z)=List.replicate n z.sh:=by rw[DD.shs_eq,List.map_replicate]
theorem Ik {w:World} {F:Nat→Nat} {z:DD} {zc:List Value} (h:rp w F z zc []):∀n:Nat,rpS w F (List.replicate n z) (List.replicate n zc).flatten []
 |0=>by simp[rpS]
 |n+1=>by
  simp only[List.replicate_succ,List.flatten_cons,rpS]
  exact⟨zc,_,[],[],rfl,rfl,h,Ik h n⟩
theorem Hk (zc:List Value) (m:Nat) (hm:zc.length=m) (h0:0<m):∀n:Nat,(madeCells zc.toArray (n*m)).toList=(List.replicate n zc).flatten
 |0=>by simp[madeCells]
 |n+1=>by
  rw[List.replicate_succ',List.flatten_append, ←Hk zc m hm h0 n]
  simp only[madeCells,Array.toList_map,Array.toList_range,Nat.add_mul,Nat.one_mul,List.range_add,List.map_append,List.map_map,List.flatten_cons,List.flatten_nil,List.append_nil]
  congr 1
  refine List.ext_getElem (by simp[hm]) fun i h1 h2=> ?_
  have hi:i<m:=by simpa using h1
  simp[hm,Nat.add_mod,Nat.mod_eq_of_lt hi,hi]
theorem Jb (z:DD) (zc:List Value) {w:World} {F:Nat→Nat} (h:rp w F z zc []) (n:Nat) (h0:0<z.sh.w):madeCells (z.mk zc).cells (n*z.sh.w)=((List.replicate n zc).flatten).toArray:=by
 rw[EC h]
 apply Array.toList_inj.1
 rw[Hk zc z.sh.w (rp.length _ _ _ h) h0 n]
section
variable {c:Cx} {mv:List Nat} {o:Oper} {S:St} {w:World} {F:Nat→Nat} {Θ:Ty} {own:Who→List Nat} {a:Act}
theorem JG (hd:∀k,o.dst=some k→k<S.n) (T n:Nat) (ps:Array (Nat×Operand)) (ho:o.op=.buildSlice T n ps) (hn:(cls mv o).Nodup) (ti te:TI) (e:Nat) (s:Sh) (ht:c.ty T=some ti) (hk:ti.kd=.sl e s) (hte:c.ty e=some te) (hts:te.sh=s)
  (hp:∀p∈ps.toList,okO c e p.2∧p.1<n∧∃x,tkT c e S p.2=.d x∧x.sh=s) (h24:n*s.w≤2 ^ 24):Snd c o S (nx c mv o S):=by
 intro w F Θ own a hR
 have hT:=c.ok T ti ht
 have hE:=c.ok e te hte
 obtain⟨ii,hi1,hi2,hi3,hi4⟩:=hE.info
 have hkd:=hT.kd
 rw[hk] at hkd
 obtain⟨-,h0,hu, -⟩:=hkd
 have hz:=hE.z w F
 have hzs:=hE.zs
 rw[hts] at hzs hi2
 have hvs:=Ol (c:=c) hR (ps.toList.map fun p=>(e,p.2)) (by intro x hx;obtain⟨p,hp1,rfl⟩:=List.mem_map.1 hx;exact(hp p hp1).1)
 simp only[List.map_map,Function.comp_def] at hvs
 have hfm:((ps.toList.map fun p=>(e,p.2)).flatMap fun x=>tmO x.2)=cls mv o:=by
  unfold cls
  simp only[ho,List.flatMap_map]
 rw[hfm] at hvs
 let place:Nat→Option (Nat×Nat):=fun i=>some (i*s.w,s.w)
 have hpl:∀i q,(List.replicate n s)[i]? =some q→place i=some (Sh.ws ((List.replicate n s).take i),q.w):=by
  intro i q hq
  rw[List.getElem?_replicate] at hq
  split at hq
  ·cases hq
   rename_i hi
   rw[FR s n i (Nat.le_of_lt hi)]
  ·cases hq
 have hndF:(([]:List Nat)++(cls mv o).flatMap fun t=>own (.t t)).Nodup:=by
  rw[List.nil_append]
  refine List.pairwise_flatMap.2 ⟨fun t _=>hR.nd _,List.Pairwise.imp (fun {x y} hxy b hb q hq e=> ?_) hn⟩
  subst e
  exact hR.dj (.t x) (.t y) (fun e=>hxy (by cases e;rfl)) b hb hq
 obtain⟨cs',bs,k1,k2,k3,k4,k5⟩:=MF (Θ:=Θ) place (List.replicate n s) hpl (ps.toList.map fun p=>(p.1,tkT c e S p.2)) _ _ (by simpa only[List.map_map,Function.comp_def] using hvs)
  (by
   intro p hp1
   obtain⟨q,hq,rfl⟩:=List.mem_map.1 hp1
   obtain⟨-,g1,x,g2,g3⟩:=hp q hq
   exact⟨x,s,g2,by rw[List.getElem?_replicate,if_pos g1],g3⟩) (List.replicate n te.z) _ [] (Ik hz n) (by rw[QF,hzs]) hndF
 have hlen:(Ds (List.replicate n te.z) (ps.toList.map fun p=>(p.1,tkT c e S p.2))).length=n:=by
  have:=congrArg List.length k3
  rwa [DD.shs_eq,List.length_map,List.length_replicate] at this
 have hshs:∀d∈Ds (List.replicate n te.z) (ps.toList.map fun p=>(p.1,tkT c e S p.2)),d.sh=s:=by
  intro d hd2
  have h1:d.sh∈DD.shs (Ds (List.replicate n te.z) (ps.toList.map fun p=>(p.1,tkT c e S p.2))):=by rw[DD.shs_eq];exact List.mem_map_of_mem hd2
  rw[k3] at h1
  exact(List.mem_replicate.1 h1).2
 have hcl:cs'.length=n*s.w:=by
  have:=rpS.length _ _ _ k2
  rw[DD.shs_eq,Sh.ws_map _ hshs,hlen] at this
  exact this
 have hrun:(execOp a.eval o).run c.P w=.ok (.value (.slice (some ⟨w.heap.size,0,none⟩) n n)) (w.alloc (.cells cs'.toArray e)):=by
  simp only[List.map_map,Function.comp_def] at k1
  have hzip:((ps.toList.map fun x=>x.1).zip (ps.toList.map fun x=>a.eval x.2))=(ps.map fun (i,x)=>(i,a.eval x)).toList:=by
   rw[List.zip_map',Array.toList_map]
  rw[hzip] at k1
  have hmf:=Jb te.z te.zc hz n (by rw[hzs];exact h0)
  rw[hzs] at hmf
  have h24':¬n*ii.size>2 ^ 24:=by rw[hi2];omega
  unfold execOp
  simp only[ho,Go.Instr.buildSlice,Sem.run_bind,run_underlying hu,Result.andThen_ok]
  by_cases hn0:n=0
  ·subst hn0
   simp at k1
   simp[sizeOf,typeInfo,hi1,hi2,newRow,Array.range_zero']
   rw[show(fun i:Nat=>some (i*s.w,s.w))=place from rfl,k1]
   simp
  ·have hne:¬n*s.w=0:=by
    have:0<n*s.w:=Nat.mul_pos (by omega) h0
    omega
   have hlt:¬16777216<n*s.w:=by omega
   have hne1:¬s.w=0:=by omega
   unfold madeCells at hmf
   simp only[Array.toList_map] at k1
   simp[sizeOf,typeInfo,hi1,hi2,newRow,hlt,zeroValue,hi4,hmf]
   rw[show(fun i:Nat=>some (i*s.w,s.w))=place from rfl,k1]
   simp
   intro q
   exact absurd q hne
 have hk5:∀b∈bs,∃t∈cls mv o,b∈own (.t t):=fun b hb=>by
  have:=k5 b hb
  rw[List.nil_append] at this
  obtain⟨t,ht2,q⟩:=List.mem_flatMap.1 this
  exact⟨t,ht2,q⟩
 have hrow:=QY (w:=w) (F:=F) (s:=s) (es:=Ds (List.replicate n te.z) (ps.toList.map fun p=>(p.1,tkT c e S p.2))) (xs:=cs') (r:=bs) (cap:=n) (e:=e) (arr:=cs'.toArray) hshs h0 k2 (fun b hb=>by obtain⟨t,_,q⟩:=hk5 b hb;exact hR.lt _ b q) hR.top
  (by simp) (by rw [hlen]; exact Nat.le_refl _) (by
   have h1:n*1≤n*s.w:=Nat.mul_le_mul_left _ h0
   unfold maxLen;omega) (by simp[hcl])
 rw[hlen] at hrow
 obtain⟨own',h3,h4⟩:=hR.fin o.dst hd (cls mv o) (.d (.sl true s (Ds (List.replicate n te.z) (ps.toList.map fun p=>(p.1,tkT c e S p.2))))) (.slice (some ⟨w.heap.size,0,none⟩) n n) (w.heap.size::bs) (Fi _ hR.top) (Gd hR.top)
  (by simp only[rv];exact⟨_,hrow,rfl⟩) (List.nodup_cons.2 ⟨fun h=>by obtain⟨t,_,q⟩:=hk5 _ h;have:=hR.lt _ _ q;omega,k4⟩)
  (fun b hb => by
   rcases List.mem_cons.1 hb with rfl|hb
   ·exact .inr (Nat.le_refl _)
   ·exact .inl (hk5 b hb))
  (fun b hb => by
   have:(w.alloc (.cells cs'.toArray e)).heap.size=w.heap.size+1:=by simp
   rw[this]
   rcases List.mem_cons.1 hb with rfl|hb
   ·omega
   ·obtain⟨t,_,q⟩:=hk5 b hb;have:=hR.lt _ b q;omega)
 refine⟨_,_,_,Θ,own',.inl hrun,?_,h4⟩
 unfold nx
 obtain⟨sh,z,zc,by_,kd⟩:=ti
 simp only at hk
 subst hk
 simp only[ho,ht,hte]
 exact h3
theorem Oy (hd:∀k,o.dst=some k→k<S.n) (T:Nat) (x y:Operand) (cl:Call) (ho:o.op=.call cl) (hcl:cl={ callee:=.builtin .append,args:= #[x,y],argTypes:= #[T,T] }) (hn:(cls mv o).Nodup) (ti te:TI) (e:Nat) (s:Sh) (ht:c.ty T=some ti) (hk:ti.kd=.sl e s)
  (hte:c.ty e=some te) (hts:te.sh=s) (ox:okO c T x) (oy:okO c T y) (es ys:List DD) (ob:Bool) (s1 s2:Sh) (hx:tkT c T S x=.d (.sl true s1 es)) (hy:tkT c T S y=.d (.sl ob s2 ys)) (h1:s1=s) (h2:s2=s)
  (hm:es.length+ys.length≤maxLen) (hby:(es.length+ys.length)*te.bytes≤140737488355328):Snd c o S (nx c mv o S):=by
 subst h1
 subst hcl
 intro w F Θ own a hR
 have hT:=c.ok T ti ht
 have hE:=c.ok e te hte
 obtain⟨ii,hi1,hi2,hi3,hi4⟩:=hE.info
 have hkd:=hT.kd
 rw[hk] at hkd
 obtain⟨-,h0,hu, -⟩:=hkd
 have hvx:=Gf hR ox
 have hvy:=Gf hR oy
 rw[hx] at hvx
 rw[hy] at hvy
 simp only[rv] at hvx hvy
 obtain⟨cx,hvx,ex⟩:=hvx
 obtain⟨cy,hvy,ey⟩:=hvy
 rw[h2] at hvy hy
 have gx:∃vx,cx=[vx]∧a.eval x=vx:=by
  have h:=hvx
  simp only[rp] at h
  obtain⟨-, -,a',cap,rfl, -⟩:=h
  exact⟨_,rfl,ex⟩
 have gy:∃vy,cy=[vy]∧a.eval y=vy:=by
  have h:=hvy
  simp only[rp] at h
  obtain⟨-, -,a',cap,rfl, -⟩:=h
  exact⟨_,rfl,ey⟩
 obtain⟨vx,rfl,ex'⟩:=gx
 obtain⟨vy,rfl,ey'⟩:=gy
 have hcls:cls mv o=tmO x++tmO y:=by unfold cls;rw[ho];simp
 have hsub:∀b,b∈((tmO x).flatMap fun t=>own (.t t))++((tmO y).flatMap fun t=>own (.t t))→∃t∈cls mv o,b∈own (.t t):=fun b hb=>by
  rw[←List.flatMap_append, ←hcls] at hb
  obtain⟨t,ht2,q⟩:=List.mem_flatMap.1 hb
  exact⟨t,ht2,q⟩
 have hnd:(((tmO x).flatMap fun t=>own (.t t))++((tmO y).flatMap fun t=>own (.t t))).Nodup:=by
  rw[←List.flatMap_append, ←hcls]
  refine List.pairwise_flatMap.2 ⟨fun t _=>hR.nd _,List.Pairwise.imp (fun {x y} hxy b hb q hq e=> ?_) hn⟩
  subst e
  exact hR.dj (.t x) (.t y) (fun e=>hxy (by cases e;rfl)) b hb hq
 obtain⟨v',w',F',bs,m1,m2,m3,m4,m5,m6,m7, -⟩:=LJ (P:=c.P) T o.type e ii te.z te.zc hu hi1 (by rw[hi2,hts]) hi4 hE.z (by rw[hE.zs,hts]) hvx hvy hnd (fun b hb=>by obtain⟨t,_,q⟩:=hsub b hb;exact hR.lt _ b q) hR.top hm (by rw[hi3];exact hby)
 have hrun:(execOp a.eval o).run c.P w=.ok (.value v') w':=by
  unfold execOp
  simp only[ho,resolve,invoke,builtin,Sem.run_bind,Sem.run_pure,Result.andThen_ok,List.map_toArray,List.map_cons,List.map_nil,ex',ey',m1]
 obtain⟨own',h3,h4⟩:=hR.fin o.dst hd (cls mv o) (.d (.sl true s1 (es++ys))) v' bs ⟨m3.os,m3.tape,m3.output,m3.size,m3.cell,m3.mono,fun b hb hne=>m3.out b hb (fun h=>hne (hsub b (by simp[h])))⟩ m7
  (by
   simp only[rv]
   refine⟨[v'],m2,?_⟩
   simp[DD.mk]) m4 (fun b hb=>by rcases m5 b hb with h|h;exact .inl (hsub b h);exact .inr h) m6
 refine⟨_,_,_,Θ,own',.inl hrun,?_,h4⟩
 have hel:c.el T=s1:=by
  unfold Cx.el
  obtain⟨sh,z,zc,by_,kd⟩:=ti
  simp only at hk
  subst hk
  simp only[ht]
 unfold nx
 rw[ho]
 simp only[List.map_cons,List.map_nil]
 have hT0:(#[T,T]:Array TypeId).getD 0 0=T:=rfl
 simp only[hT0,hx,hy,hel]
 exact h3
theorem Uj (hd:∀k,o.dst=some k→k<S.n) (T k:Nat) (x:Operand) (ho:o.op=.makeSlice T x x) (hk:o.dst=some k) (ti te:TI) (e:Nat) (s:Sh) (ht:c.ty T=some ti) (hkd:ti.kd=.sl e s) (hte:c.ty e=some te) (hts:te.sh=s)
  (ox:okO c 0 x) (q:IntKind) (n:Int) (hx:evT c 0 S x=.d (.lf (.int q n))) (h0:0≤n) (hm:n≤9223372036854775807) (hby:(te.bytes:Int)*n≤281474976710656) (hn:hpg S.hp 0 k=none) (hne:0<S.hp.length):Snd c o S (nx c mv o S):=by
 intro w F Θ own a hR
 have hT:=c.ok T ti ht
 have hE:=c.ok e te hte
 obtain⟨ii,hi1,hi2,hi3,hi4⟩:=hE.info
 have hkd2:=hT.kd
 rw[hkd] at hkd2
 obtain⟨-,hp,hu, -⟩:=hkd2
 obtain⟨e1, -⟩:=CM hR hx ox
 have hz:=hE.z w F
 have hzs:=hE.zs
 rw[hts] at hzs hi2
 have hmf:=Jb te.z te.zc hz n.toNat (by rw[hzs];exact hp)
 rw[hzs] at hmf
 have hrun:(execOp a.eval o).run c.P w=.ok (.value (.slice (some ⟨w.heap.size,0,none⟩) n.toNat n.toNat)) (w.alloc (.cells ((List.replicate n.toNat te.zc).flatten).toArray e)):=by
  have:=run_make (P:=c.P) w T e ii (te.z.mk te.zc) hu hi1 hi4 q q n n h0 (Int.le_refl _) (by rw[hi3];exact hby) hm
  rw[hi2,hmf] at this
  unfold execOp
  simp[ho,e1,this]
 obtain⟨own',h1,h2⟩:=hR.alloc k (hd k hk) hn hne [] (.d (.st (List.replicate n.toNat te.z))) ((List.replicate n.toNat te.zc).flatten) [] (.st (List.replicate n.toNat s)) e (by simp only[AV.csh,DD.sh,QF,hzs]) (by simp only[rc,rp];exact Ik hz _) List.nodup_nil (by simp)
  (.rw 0 k n.toNat) (.slice (some ⟨w.heap.size,0,none⟩) n.toNat n.toNat)
  (by simp only[rv];exact⟨trivial,w.heap.size,s,by unfold J6;rw[if_pos ⟨rfl,rfl⟩],rfl,hp,by unfold maxLen;omega⟩)
 refine⟨_,_,F,_,own',.inl hrun,?_,h2⟩
 unfold nx
 obtain⟨sh,z,zc,by_,kd⟩:=ti
 simp only at hkd
 subst hkd
 simp only[ho,hk,ht,hx,hte]
 exact h1
end
