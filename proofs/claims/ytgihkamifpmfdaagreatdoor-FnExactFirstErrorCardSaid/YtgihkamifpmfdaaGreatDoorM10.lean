/- Part 10. No condition. -/
import Derived.Test.YtgihkamifpmfdaaGreatDoorM09
namespace Go.Proofs.YtgihkamifpmfdaaGreatDoor
open Go.RowKit
set_option linter.unusedVariables false
set_option linter.unusedSimpArgs false
def mkl:Nat→List AV→List (Nat×AV)
 |_,[]=>[]
 |i,a::l=>(i,a.up)::mkl (i+1) l
theorem Qu:∀(l:List AV) (i t:Nat),tl (mkl i l) (i+t)=(l.getD t .un).up
 |[],i,t=>by simp[mkl,tl,al,AV.up]
 |a::l,i,0=>by simp[mkl,tl,al]
 |a::l,i,t+1=>by
  have h:=Qu l (i+1) t
  rw[show i+1+t=i+(t+1) by omega] at h
  have hne:(i+(t+1)==i)=false:=by simp
  simp only[mkl,tl,al,hne,cond_false,List.getD_cons_succ]
  exact h
theorem ZK (l:List AV):(fun t=>(l.getD t .un).up)=tl (mkl 0 l):=by
 funext t
 have:=Qu l 0 t
 rw[Nat.zero_add] at this
 exact this.symm
theorem CS.run {c:Cx} {f:Nat} {fn:Func} {body:Code} (hf:CU c.P f fn body) (args:List AV) (h h':HP) (r:AV) (n:Nat) (hn:fn.ntmps=n) (hlen:args.length≤n)
  (hW:W c body ⟨n,tl (mkl 0 args),al []::upH h⟩ (fun e S=>(e=.normal∨e=.ret)∧(∃f1,S.hp=f1::upH h')∧Res c fn S r)):CS c.P f args h r h':=by
 subst hn
 refine CS.of hf args h h' r hlen ?_
 rw[ZK]
 exact hW
def WL (c:Cx) (ops:Array Oper) (l:List Oper) (S:St) (K:St→Prop):Prop:=∀is:List Nat,is.map (fun i=>ops[i]?)=l.map some→WO c ops is S K
theorem WL.nil {c:Cx} {ops:Array Oper} {S:St} {K:St→Prop} (h:K S):WL c ops [] S K:=fun is hi=>by
 have:is=[]:=List.map_eq_nil_iff.1 hi
 subst this
 exact WO.nil h
theorem WL.cons {c:Cx} {ops:Array Oper} {o:Oper} {l:List Oper} {S S1:St} {K:St→Prop} (h:OS c ops o S S1) (k:WL c ops l S1 K):WL c ops (o::l) S K:=fun is hi=>by
 cases is with
 |nil=>simp at hi
 |cons i is=>
  simp only[List.map_cons,List.cons.injEq] at hi
  exact WO.cons hi.1 h (k is hi.2)
theorem WL.op {c:Cx} (mv:List Nat) {ops:Array Oper} {o:Oper} {l:List Oper} {S S1:St} {K:St→Prop} (hg:o.guard=none) (h:okP c mv o S) (e:nx c mv o S=S1) (k:WL c ops l S1 K):WL c ops (o::l) S K:=
 WL.cons (OS.op (by unfold wnt;rw[hg]) (Lv h)) (by rw[e];exact k)
theorem W.regL {c:Cx} {id:Nat} {ops:Array Oper} {S:St} {Q:Exit→St→Prop} (h:∀ops',ops'=ops→WL c ops' ops.toList S (Q .normal)):W c (.region id ops false) S Q:=
 W.region (h ops rfl _ (by
  refine List.ext_getElem? fun i=> ?_
  simp only[List.getElem?_map]
  rcases Nat.lt_or_ge i ops.size with hi|hi
  ·simp[List.getElem?_range,hi]
  ·simp[hi]))
theorem WL.call {c:Cx} {ops:Array Oper} {o:Oper} {l:List Oper} {S:St} {K:St→Prop} (ts:List Nat) (f:Operand) (args:Array Operand) (argTypes:Array TypeId) (ho:o.op=.call { callee:=.value f,args,argTypes }) (hg:o.guard=none) (hd:∀k,o.dst=some k→k<S.n)
  {g:Nat} {caps:List AV} (hf:evT c 0 S f=.fn g caps) (of:okO c 0 f) {fn:Func} {body:Code} (hfn:CU c.P g fn body) (hTs:argTypes.toList.length=args.toList.length) (hok:∀x∈argTypes.toList.zip args.toList,okO c x.1 x.2) (hn:(gvn ts args.toList).Nodup)
  {as':List AV} (ha:(argTypes.toList.zip args.toList).map (fun x=>Cr c ts S x.1 x.2)++caps=as') {r:AV} {h':HP} (hc:CS c.P g as' S.hp r h') {S1:St} (e:(⟨S.n,B1 (BD S.tm (gvn ts args.toList)) o.dst r,h'⟩:St)=S1) (k:WL c ops l S1 K):WL c ops (o::l) S K:=by
 subst ha
 exact WL.cons (OS.call hd (by unfold wnt;rw[hg]) f args argTypes ho ts g caps hf of fn body hfn argTypes.toList hTs hok hn r h' hc) (by rw[e];exact k)
mutual
theorem AV.npt_mono {D E:Nat→Prop} (h:∀k,E k→D k):∀a:AV,a.npt D→a.npt E
 | .un,_=>trivial
 | .d _,_=>trivial
 | .pt _ _ _,q=>by simp only[AV.npt] at q ⊢;exact fun e1 e2=>q e1 (h _ e2)
 | .el _,_=>trivial
 | .rw _ _ _,q=>by simp only[AV.npt] at q ⊢;exact fun e1 e2=>q e1 (h _ e2)
 | .tp l,q=>by simp only[AV.npt] at q ⊢;exact AV.npts_mono h l q
 | .fn _ c,q=>by simp only[AV.npt] at q ⊢;exact AV.npts_mono h c q
 | .fr l,q=>by simp only[AV.npt] at q ⊢;exact AV.npts_mono h l q
 | .ep a,q=>by simp only[AV.npt] at q ⊢;exact AV.npt_mono h a q
 | .ms _ _,_=>trivial
 | .mb _ _ _,_=>trivial
 | .mp _ _ _ _,_=>trivial
 | .pv _,_=>trivial
 | .mt _,_=>trivial
 | .mn _ _,_=>trivial
theorem AV.npts_mono {D E:Nat→Prop} (h:∀k,E k→D k):∀l:List AV,AV.npts D l→AV.npts E l
 |[],_=>trivial
 |a::l,q=>by simp only[AV.npts] at q ⊢;exact⟨AV.npt_mono h a q.1,AV.npts_mono h l q.2⟩
end
def inK (L2:List (Nat×AV)) (k:Nat):Prop:=al L2 k≠none
mutual
def AV.cl (L2:List (Nat×AV)):AV→Prop
 | .un=>True
 | .d _=>True
 | .pt lv k _=>lv=0→inK L2 k
 | .el _=>True
 | .rw lv k _=>lv=0→inK L2 k
 | .tp l=>AV.cls L2 l
 | .fn _ c=>AV.cls L2 c
 | .fr l=>AV.cls L2 l
 | .ep a=>a.cl L2
 | .ms _ _=>True
 | .mb _ _ _=>True
 | .mp _ _ _ _=>True
 | .pv _=>True
 | .mt _=>True
 | .mn _ _=>True
def AV.cls (L2:List (Nat×AV)):List AV→Prop
 |[]=>True
 |a::l=>a.cl L2∧AV.cls L2 l
end
mutual
theorem AV.cl_npt {L2:List (Nat×AV)} {h:HP}:∀a:AV,a.cl L2→a.npt (fun k=>hpg (al L2::h) 0 k=none)
 | .un,_=>trivial
 | .d _,_=>trivial
 | .pt _ _ _,q=>by simp only[AV.cl,AV.npt] at q ⊢;exact fun e1 e2=>q e1 e2
 | .el _,_=>trivial
 | .rw _ _ _,q=>by simp only[AV.cl,AV.npt] at q ⊢;exact fun e1 e2=>q e1 e2
 | .tp l,q=>by simp only[AV.cl,AV.npt] at q ⊢;exact AV.cls_npt l q
 | .fn _ c,q=>by simp only[AV.cl,AV.npt] at q ⊢;exact AV.cls_npt c q
 | .fr l,q=>by simp only[AV.cl,AV.npt] at q ⊢;exact AV.cls_npt l q
 | .ep a,q=>by simp only[AV.cl,AV.npt] at q ⊢;exact AV.cl_npt a q
 | .ms _ _,_=>trivial
 | .mb _ _ _,_=>trivial
 | .mp _ _ _ _,_=>trivial
 | .pv _,_=>trivial
 | .mt _,_=>trivial
 | .mn _ _,_=>trivial
theorem AV.cls_npt {L2:List (Nat×AV)} {h:HP}:∀l:List AV,AV.cls L2 l→AV.npts (fun k=>hpg (al L2::h) 0 k=none) l
 |[],_=>trivial
 |a::l,q=>by simp only[AV.cls,AV.npts] at q ⊢;exact⟨AV.cl_npt a q.1,AV.cls_npt l q.2⟩
end
theorem D4:∀(l:List (Nat×AV)) (k:Nat) (v:AV),al l k=some v→(k,v)∈l
 |[],_,_,h=>by simp[al] at h
 |(j,u)::r,k,v,h=>by
  simp only[al] at h
  cases hk:(k==j) with
  |true=>
   rw[hk,cond_true] at h
   have:k=j:=by simpa using hk
   subst this
   cases h;simp
  |false=>rw[hk,cond_false] at h;exact List.mem_cons_of_mem _ (D4 r k v h)
theorem Ml {S:St} {f:Nat→Option AV} {h:HP} (L L2:List (Nat×AV)) (hh:S.hp=f::upH h) (h1:∀p∈L,S.tm p.1=p.2∧p.2.cl L2) (h2:∀p∈L2,f p.1=some p.2∧p.2.cl L2):Wk S ⟨S.n,tl L,al L2::upH h⟩:=by
 refine⟨rfl,fun t=> ?_,fun lv k=> ?_,fun t=> ?_,fun lv q cn hq=> ?_⟩
 ·show(al L t).getD .un=_∨_
  cases hq:al L t with
  |none=>exact .inr (by show(al L t).getD .un=_;rw[hq];rfl)
  |some v=>exact .inl (h1 _ (D4 L t v hq)).1.symm
 ·rw[hh]
  cases lv with
  |zero=>
   show al L2 k=f k∨_
   cases hq:al L2 k with
   |none=>exact .inr ⟨rfl,hq⟩
   |some v=>exact .inl (h2 _ (D4 L2 k v hq)).1.symm
  |succ lv=>exact .inl rfl
 ·show((al L t).getD .un).npt _
  cases hq:al L t with
  |none=>trivial
  |some v=>exact AV.cl_npt v (h1 _ (D4 L t v hq)).2
 ·cases lv with
  |zero=>exact AV.cl_npt cn (h2 _ (D4 L2 q cn hq)).2
  |succ lv=>
   have hq':hpg (upH h) lv q=some cn:=hq
   rw[DM] at hq'
   cases hh2:hpg h lv q with
   |none=>rw[hh2] at hq';cases hq'
   |some c0=>
    rw[hh2] at hq'
    simp only[Option.map_some,Option.some.injEq] at hq'
    subst hq'
    exact AV.npt_up _ c0
def Wz (S S':St):Prop:=∀(w:World) (F:Nat→Nat) (Θ:Ty) (own:Who→List Nat) (a:Act),Rel w F Θ own S a→∃F' Θ' own',Rel w F' Θ' own' S' a∧Stp w F Θ own w F' Θ' own'
theorem Wz.of {S S':St} (k:Wk S S'):Wz S S':=fun w F Θ own a hR=>by
 obtain⟨Θ1,own1,h1,h2⟩:=hR.weak k
 exact⟨F,Θ1,own1,h1,h2⟩
theorem W.after {c:Cx} {code:Code} {S:St} {Q Q':Exit→St→Prop} (h:W c code S Q') (hq:∀e S1,Q' e S1→∃S2,Wz S1 S2∧Q e S2):W c code S Q:=fun w F Θ own a hR=>
 wp_mono (h w F Θ own a hR) fun e a1 w1 ⟨S1,F1,Θ1,own1,k1,k2,k3⟩=>by
  obtain⟨S2,g1,g2⟩:=hq e S1 k1
  obtain⟨F2,Θ2,own2,m1,m2⟩:=g1 w1 F1 Θ1 own1 a1 k2
  exact⟨S2,F2,Θ2,own2,g2,m1,k3.trans m2⟩
theorem W.ahead {c:Cx} {code:Code} {S S1:St} {Q:Exit→St→Prop} (z:Wz S S1) (h:W c code S1 Q):W c code S Q:=fun w F Θ own a hR=>by
 obtain⟨F1,Θ1,own1,h1,h2⟩:=z w F Θ own a hR
 exact wp_mono (h w F1 Θ1 own1 a h1) fun _ _ _ ⟨S2,F2,Θ2,own2,k1,k2,k3⟩=>⟨S2,F2,Θ2,own2,k1,k2,h2.trans k3⟩
theorem SB {S:St} {f:Nat→Option AV} {h:HP} (t k n:Nat) (es:List DD) (s:Sh) (L L2:List (Nat×AV)) (hh:S.hp=f::upH h) (ht:S.tm t=.rw 0 k n) (hk:f k=some (.d (.st es))) (hsp:0<s.w) (hes:DD.shs es=List.replicate n s)
  (h1:∀p∈L,p.1≠t∧S.tm p.1=p.2∧p.2.cl L2) (h2:∀p∈L2,p.1≠k∧f p.1=some p.2∧p.2.cl L2):Wz S ⟨S.n,tl ((t,.d (.sl true s es))::L),al L2::upH h⟩:=by
 intro w F Θ own a hR
 have hk2:al L2 k=none:=by
  cases hq:al L2 k with
  |none=>rfl
  |some v=>exact absurd rfl (h2 _ (D4 L2 k v hq)).1
 have hL:∀u v,al L u=some v→S.tm u=v∧v.cl L2:=fun u v hq=>(h1 _ (D4 L u v hq)).2
 have npk:∀v:AV,v.cl L2→v.npt (fun q=>q=k):=by
  have key:∀v:AV,v.npt (fun q=>hpg (al L2::upH h) 0 q=none)→v.npt (fun q=>q=k):=by
   intro v
   refine AV.npt_mono (fun q e=> ?_) v
   subst e;exact hk2
  exact fun v hv=>key v (AV.cl_npt v hv)
 -- contents that do not look at the row:those that are Ho;all others are forgotten first
 have hw:Wk S ⟨S.n,fun u=>if u=t then .rw 0 k n else tl L u,(fun q=>if q=k then f k else al L2 q)::upH h⟩:=by
  refine⟨rfl,fun u=> ?_,fun lv q=> ?_,fun u=> ?_,fun lv q cn hq=> ?_⟩
  ·show(if u=t then _ else _)=_∨_
   by_cases hu:u=t
   ·subst hu;rw[if_pos rfl];exact .inl ht.symm
   ·rw[if_neg hu]
    show(al L u).getD .un=_∨(if u=t then _ else _)=_
    rw[if_neg hu]
    show _∨(al L u).getD .un=_
    cases hq:al L u with
    |none=>exact .inr rfl
    |some v=>exact .inl (hL u v hq).1.symm
  ·rw[hh]
   cases lv with
   |zero=>
    show(if q=k then f k else al L2 q)=f q∨_
    by_cases hq:q=k
    ·subst hq;rw[if_pos rfl];exact .inl rfl
    ·rw[if_neg hq]
     cases hq2:al L2 q with
     |none=>exact .inr ⟨rfl,by show(if q=k then f k else al L2 q)=none;rw[if_neg hq];exact hq2⟩
     |some v=>exact .inl (h2 _ (D4 L2 q v hq2)).2.1.symm
   |succ lv=>exact .inl rfl
  ·show(if u=t then _ else _:AV).npt _
   have mono : ∀ v : AV, v.cl L2 → v.npt (fun q => (if q = k then f k else al L2 q) = none) := fun v hv => AV.npt_mono (fun q e => by
    show al L2 q=none
    by_cases hq:q=k
    ·subst hq;exact hk2
    ·rw[if_neg hq] at e;exact e) v (AV.cl_npt (h:=upH h) v hv)
   by_cases hu:u=t
   ·rw[if_pos hu]
    simp only[AV.npt]
    intro _ e
    have e':(if k=k then f k else al L2 k)=none:=e
    rw[if_pos rfl,hk] at e';cases e'
   ·rw[if_neg hu]
    show((al L u).getD .un).npt _
    cases hq:al L u with
    |none=>trivial
    |some v=>exact mono v (hL u v hq).2
  ·have mono : ∀ v : AV, v.cl L2 → v.npt (fun q => (if q = k then f k else al L2 q) = none) := fun v hv => AV.npt_mono (fun q e => by
    show al L2 q=none
    by_cases hq:q=k
    ·subst hq;exact hk2
    ·rw[if_neg hq] at e;exact e) v (AV.cl_npt (h:=upH h) v hv)
   cases lv with
   |zero=>
    have hq':(if q=k then f k else al L2 q)=some cn:=hq
    by_cases hqk:q=k
    ·rw[if_pos hqk,hk] at hq'
     cases hq';trivial
    ·rw[if_neg hqk] at hq'
     exact mono cn (h2 _ (D4 L2 q cn hq')).2.2
   |succ lv=>
    have hq':hpg (upH h) lv q=some cn:=hq
    rw[DM] at hq'
    cases hh2:hpg h lv q with
    |none=>rw[hh2] at hq';cases hq'
    |some c0=>
     rw[hh2] at hq'
     simp only[Option.map_some,Option.some.injEq] at hq'
     subst hq'
     exact AV.npt_up _ c0
 obtain⟨Θ1,own1,r1,r2⟩:=hR.weak hw
 obtain ⟨F2, Θ2, own2, m1, m2⟩ := r1.freeze t k n (if_pos rfl) es (by show (if k = k then f k else _) = _; rw [if_pos rfl]; exact hk) s hsp hes ⟨S.n, tl ((t, .d (.sl true s es)) :: L), al L2 :: upH h⟩ rfl (fun u hu => by
   left
   show((al ((t,_)::L) u).getD .un)=(if u=t then _ else _)
   rw[if_neg hu]
   simp only[al,beq_eq_false_iff_ne.2 hu,cond_false]
   rfl) (by simp [tl, al]) (fun lv q hne => by
   cases lv with
   |zero=>
    show al L2 q=(if q=k then f k else al L2 q)
    rw[if_neg (fun e=>hne ⟨rfl,e⟩)]
   | succ lv => rfl) hk2 (fun u hu => by
   show((al ((t,_)::L) u).getD .un).npt _
   simp only[al,beq_eq_false_iff_ne.2 hu,cond_false]
   cases hq:al L u with
   |none=>trivial
   | some v => exact npk v (hL u v hq).2) (fun lv q cn hq => by
   cases lv with
   |zero=>exact npk cn (h2 _ (D4 L2 q cn hq)).2.2
   |succ lv=>
    have hq':hpg (upH h) lv q=some cn:=hq
    rw[DM] at hq'
    cases hh2:hpg h lv q with
    |none=>rw[hh2] at hq';cases hq'
    |some c0=>
     rw[hh2] at hq'
     simp only[Option.map_some,Option.some.injEq] at hq'
     subst hq'
     exact AV.npt_up _ c0)
 exact⟨F2,Θ2,own2,m1,r2.trans m2⟩
def tls (S:St) (ts:List Nat):List (Nat×AV):=ts.map fun t=>(t,S.tm t)
def hls (f:Nat→Option AV):List Nat→List (Nat×AV)
 |[]=>[]
 |k::ks=>match f k with
  |some v=>(k,v)::hls f ks
  |none=>hls f ks
theorem Gz (f:Nat→Option AV):∀(ks:List Nat) (p:Nat×AV),p∈hls f ks→f p.1=some p.2
 |[],p,h=>by simp[hls] at h
 |k::ks,p,h=>by
  unfold hls at h
  split at h
  ·rcases List.mem_cons.1 h with rfl|h
   ·assumption
   ·exact Gz f ks p h
  ·exact Gz f ks p h
def hd (S:St):Nat→Option AV:=S.hp.headD fun _=>none
def Ho (S:St) (ts ks:List Nat):St:=⟨S.n,tl (tls S ts),al (hls (hd S) ks)::S.hp.tail⟩
def Jg (S:St) (ts ks:List Nat):Prop:=S.hp≠[]∧(∀p∈tls S ts,p.2.cl (hls (hd S) ks))∧∀p∈hls (hd S) ks,p.2.cl (hls (hd S) ks)
theorem Pn {S:St} {h:HP} (ts ks:List Nat) (hh:S.hp.tail=upH h) (hk:Jg S ts ks):Wk S (Ho S ts ks):=by
 have e:S.hp=hd S::upH h:=by
  rw[←hh]
  unfold hd
  cases hs:S.hp with
  |nil=>exact absurd hs hk.1
  |cons f r=>rfl
 have := Ml (S := S) (tls S ts) (hls (hd S) ks) e (fun p hp => by
  refine⟨?_,hk.2.1 p hp⟩
  obtain⟨t, -,rfl⟩:=List.mem_map.1 hp
  rfl) (fun p hp=>⟨Gz _ ks p hp,hk.2.2 p hp⟩)
 unfold Ho
 rw[hh]
 exact this
theorem W.keep {c:Cx} {code:Code} {S T:St} {Q:Exit→St→Prop} {h:HP} (ts ks:List Nat) (hh:S.hp.tail=upH h) (hk:Jg S ts ks) (e:Ho S ts ks=T) (k:W c code T Q):W c code S Q:=by
 subst e;exact W.weak (Pn ts ks hh hk) k
theorem Wz.keep {S T:St} {h:HP} (ts ks:List Nat) (hh:S.hp.tail=upH h) (hk:Jg S ts ks) (e:Ho S ts ks=T):Wz S T:=by
 subst e;exact Wz.of (Pn ts ks hh hk)
theorem Wz.refl (S:St):Wz S S:=fun w F Θ own _ hR=>⟨F,Θ,own,hR,Stp.refl _ _ _ _⟩
theorem W.loopz {c:Cx} {x:Code} {Q:Exit→St→Prop} {S:St} (A:Nat→St) (n:Nat) (h0:Wz S (A 0)) (h:∀k,k≤n→W c x (A k) (DE (fun S'=>k<n∧Wz S' (A (k+1))) Q)):W c (.loop x) S Q:=by
 refine W.ahead h0 (W.loop A n fun k hk=>W.after (h k hk) fun e S1 q=> ?_)
 cases e with
 |normal=>exact⟨_,q.2,q.1,rfl⟩
 |exit id=>exact⟨S1,Wz.refl S1,q⟩
 |goto l=>exact⟨S1,Wz.refl S1,q⟩
 |ret=>exact⟨S1,Wz.refl S1,q⟩
 |panic ch=>exact⟨S1,Wz.refl S1,q⟩
 |outgrown=>exact⟨S1,Wz.refl S1,q⟩
def dI (n:Int):DD:=.lf (.int .i64 n)
def dS (s:BA'):DD:=.lf (.string s)
def dB (b:Bool):DD:=.lf (.bool b)
theorem B6 {α:Type} {f g:α→DD} (h:∀x,(f x).vw=g x) (l:List α):DD.vws (l.map f)=l.map g:=by
 rw[DD.vws_eq,List.map_map];exact List.map_congr_left fun x _=>h x
theorem BN {α:Type} {f:α→DD} {s:Sh} (h:∀x,(f x).sh=s) (l:List α):DD.shs (l.map f)=List.replicate l.length s:=by
 rw[DD.shs_eq,List.map_map]
 induction l with
 |nil=>rfl
 |cons x l ih=>rw[List.map_cons,List.length_cons,List.replicate_succ,ih];exact congrArg (· ::_) (h x)
theorem Tw (l:List Int):DD.vws (l.map dI)=l.map dI:=B6 (fun _=>rfl) l
theorem EU (l:List BA'):DD.vws (l.map dS)=l.map dS:=B6 (fun _=>rfl) l
theorem d8 (l:List Bool):DD.vws (l.map dB)=l.map dB:=B6 (fun _=>rfl) l
theorem e6 (l:List Int):DD.shs (l.map dI)=List.replicate l.length .one:=BN (s:=.one) (fun _=>rfl) l
theorem dz (l:List BA'):DD.shs (l.map dS)=List.replicate l.length .one:=BN (s:=.one) (fun _=>rfl) l
theorem e7 (l:List Bool):DD.shs (l.map dB)=List.replicate l.length .one:=BN (s:=.one) (fun _=>rfl) l
theorem Nw {α:Type} {f:α→DD} {l:List α} {k:Nat} (hk:k<l.length):(l.map f).getD k default=f l[k]:=by
 simp[List.getD_eq_getElem?_getD,hk]
attribute [simp] okP cls okO nx nxP val evT tkT B1 BD tmO upd hps hpg tl al mkl AV.up AV.vw DD.vw DD.vws AV.csh DD.sh DD.shs D9 Df rdA wrA ldX mvB C8 Sh.ws Sh.w TM Cr gvn So tls hls hd Ho Jg AV.cl AV.cls inK FN DD.vws_vws DD.shs_vw Tw EU d8 e6 dz e7 dI dS dB
inductive Kd where
  |val
  |ld (a b:Nat)
  |al (k:Nat)
  |st (a b:Nat)
  |hp
  |bw (t:Nat)
def Ef.kd:Ef→Kd
  | .val=> .val
  | .ld a b=> .ld a b
  | .al k _=> .al k
  | .st a b _=> .st a b
  | .hp _=> .hp
  | .bw t=> .bw t
def Kd.bs:Kd→List Nat
  | .bw t=>[t]
  |_=>[]
theorem Ef.kd_bs (e:Ef):e.kd.bs=e.bs:=by cases e<;>rfl
def kcB:Kd→Kd→Bool
  | .val,.val=>true
  | .val,.ld _ _=>true
  | .ld _ _,.val=>true
  | .ld _ _,.ld _ _=>true
  | .val,.al _=>true
  | .al _,.val=>true
  | .ld _ _,.al _=>true
  | .val,.hp=>true
  | .hp,.val=>true
  | .val,.st _ _=>true
  | .st _ _,.val=>true
  | .ld a b,.st p q=> !(a==p && b==q)
  | .st a b,.ld p q=> !(a==p && b==q)
  | .st a b,.al k=> !(a==0 && b==k)
  | .al k,.st a b=> !(a==0 && b==k)
  | .al k,.al j=> !(k==j)
  | .st a b,.st p q=> !(a==p && b==q)
  | .val,.bw _=>true
  | .bw _,.val=>true
  | .bw _,.bw _=>true
  | .bw _,.ld _ _=>true
  | .ld _ _,.bw _=>true
  | .bw _,.al _=>true
  | .al _,.bw _=>true
  | .bw _,.hp=>true
  | .hp,.bw _=>true
  | .bw _,.st _ _=>true
  | .st _ _,.bw _=>true
  |_,_=>false
structure Sk where
  ts:List Nat
  kd:Kd
def Fsk.sk (f:Fsk):Sk:=⟨f.ts,f.ef.kd⟩
theorem fE (x y:Ef):kcB x.kd y.kd=L5 x y:=by cases x<;>cases y<;>rfl
def skB (ops:Array Oper) (o:Oper) (x:Sk) (p:Oper) (y:Sk):Bool:=
  (match o.dst with
   |some d=> !(p.looksAt ops).contains d && !y.ts.contains d && p.dst !=some d
   |none=>true) &&
  (match p.dst with
   |some d=> !(o.looksAt ops).contains d && !x.ts.contains d
   |none=>true) &&
  (x.ts.all fun t=> !y.ts.contains t) && kcB x.kd y.kd && ((y.kd.bs.all fun t=> !x.ts.contains t && o.dst !=some t) && (x.kd.bs.all fun t=> !y.ts.contains t && p.dst !=some t))
theorem dx (ops:Array Oper) (x y:Fsk):skB ops x.o x.sk y.o y.sk=Vm ops x y:=by
  unfold skB Vm bwB
  rw[←fE, ←Ef.kd_bs, ←Ef.kd_bs];rfl
def OH (ops:Array Oper) (l:List Sk):Bool:=
  (l.length == ops.size) && ((List.range ops.size).all fun i => match ops[i]? with
    |none=>false
    |some o=>o.after.toList.all fun e=> !Region.binds .any e||decide (e.on<i)) &&
  ((List.range ops.size).all fun j => (List.range j).all fun i => MO ops ops.size j i || match ops[i]?, ops[j]?, l[i]?, l[j]? with
    |some o,some p,some x,some y=>skB ops o x p y
    |_,_,_,_=>false)
theorem Wf {ops:Array Oper} {fs:List Fsk} (ho:fs.map Fsk.o=ops.toList) (h:OH ops (fs.map Fsk.sk)=true):Re ops fs=true:=by
  have key:∀i:Nat,ops[i]? =(fs[i]?).map Fsk.o:=fun i=>by
    rw[←List.getElem?_map,ho];simp
  unfold OH at h
  unfold Re
  simp only[Bool.and_eq_true,List.length_map] at h ⊢
  refine⟨h.1,?_⟩
  have h2:=h.2
  simp only[List.all_eq_true,Bool.or_eq_true,List.mem_range] at h2 ⊢
  intro j hj i hi
  rcases h2 j hj i hi with q|q
  · exact .inl q
  · refine .inr ?_
    rw[key i,key j,List.getElem?_map,List.getElem?_map] at q
    cases hx:fs[i]? with
    |none=>rw[hx] at q;simp at q
    |some x=>
      cases hy:fs[j]? with
      |none=>rw[hx,hy] at q;simp at q
      |some y=>
        rw[hx,hy] at q
        simp only[Option.map_some] at q
        simp only
        rw[←dx];exact q
theorem Lm {c:Cx} {mv:List Nat} {o:Oper} {S:St} (h:okP c mv o S):(∀lv q,(B5 c mv o S).ef=.ld lv q→hpg S.hp lv q≠none)∧(∀k cn,(B5 c mv o S).ef=.al k cn→hpg S.hp 0 k=none):=by
  obtain⟨-, -,h⟩:=h
  unfold B5
  split
  all_goals try (rename_i ho;rw[ho] at h;simp only at h)
  case h_1=>
    obtain⟨⟨ti,h1⟩,h2,k,h3,h4⟩:=h
    rw[h3,h1]
    exact⟨fun _ _ e=>(by cases e),fun _ _ e=>(by cases e;exact h4)⟩
  case h_2=>
    obtain⟨-, -, -,k,h3,h4⟩:=h
    rw[h3]
    exact⟨fun _ _ e=>(by cases e),fun _ _ e=>(by cases e;exact h4)⟩
  case h_3=>
    split
    · split
      · cases mvB mv o.dst with
        |true=>exact⟨fun _ _ e=>(by cases e),fun _ _ e=>(by cases e)⟩
        |false=>exact⟨fun _ _ e=>(by cases e;rename_i hq;rw[hq];simp),fun _ _ e=>(by cases e)⟩
      · exact⟨fun _ _ e=>(by cases e),fun _ _ e=>(by cases e)⟩
    · exact⟨fun _ _ e=>(by cases e),fun _ _ e=>(by cases e)⟩
    · exact⟨fun _ _ e=>(by cases e),fun _ _ e=>(by cases e)⟩
  case h_7=>
    obtain⟨-, -, -,⟨k,h3,h4⟩, -⟩:=h
    rw[h3]
    split
    · split
      · rename_i h5 _ _ _ _ _;cases h5;exact⟨fun _ _ e=>(by cases e),fun _ _ e=>(by cases e;exact h4)⟩
      · exact⟨fun _ _ e=>(by cases e),fun _ _ e=>(by cases e)⟩
    · exact⟨fun _ _ e=>(by cases e),fun _ _ e=>(by cases e)⟩
  case h_8=>
    split
    · rename_i hx
      refine⟨fun _ _ e=> ?_,fun _ _ e=>(by cases e)⟩
      cases e
      obtain⟨-,h⟩:=h
      rw[hx] at h
      split at h
      · obtain⟨-,h⟩:=h
        split at h
        · rename_i h5;cases h5
        · rename_i h5
          cases h5
          split at h
          · rename_i h6;rw[h6];simp
          · exact h.elim
        · rename_i h5;exact(h5 _ _ _ rfl).elim
      · exact h.elim
    · exact⟨fun _ _ e=>(by cases e),fun _ _ e=>(by cases e)⟩
  case h_9=>
    split
    · rename_i hx
      refine⟨fun _ _ e=> ?_,fun _ _ e=>(by cases e)⟩
      cases e
      obtain⟨-, -,h⟩:=h
      rw[hx] at h
      split at h
      · split at h
        · rename_i h5 _;cases h5
        · rename_i h5 _
          cases h5
          obtain⟨-,cn,h6, -⟩:=h
          rw[h6];simp
        · exact h.elim
      · exact h.elim
    · exact⟨fun _ _ e=>(by cases e),fun _ _ e=>(by cases e)⟩
  all_goals first
    |exact⟨fun _ _ e=>(by cases e),fun _ _ e=>(by cases e)⟩
    | (split <;> first
        |exact⟨fun _ _ e=>(by cases e),fun _ _ e=>(by cases e)⟩
        |(split<;>exact⟨fun _ _ e=>(by cases e),fun _ _ e=>(by cases e)⟩))
def DL (c:Cx) (ops:Array Oper) (acc:List Sk) (l:List Oper) (S:St) (K:St→Prop):Prop:=∃fs Sf,Pth c ops fs S Sf∧fs.map Fsk.o=l∧OH ops (acc++fs.map Fsk.sk)=true∧K Sf
theorem DL.nil {c:Cx} {ops:Array Oper} {acc:List Sk} {S:St} {K:St→Prop} (hc:OH ops acc=true) (h:K S):DL c ops acc [] S K:=⟨[],S,rfl,rfl,by simpa using hc,h⟩
theorem DL.cons {c:Cx} {ops:Array Oper} {acc:List Sk} {o:Oper} {l:List Oper} {S S1:St} {K:St→Prop} (f:Fsk) (ho:f.o=o) (hv:f.valid c ops S) (h1:∀lv q,f.ef=.ld lv q→hpg S.hp lv q≠none) (h2:∀k cn,f.ef=.al k cn→hpg S.hp 0 k=none) (e:f.ap S=S1) (k:DL c ops (acc++[f.sk]) l S1 K):DL c ops acc (o::l) S K:=by
  subst e
  obtain⟨fs,Sf,k1,k2,k3,k4⟩:=k
  exact⟨f::fs,Sf,⟨⟨hv,h1,h2⟩,k1⟩,by rw[List.map_cons,ho,k2],by simpa using k3,k4⟩
theorem DL.op {c:Cx} (mv:List Nat) {ops:Array Oper} {acc:List Sk} {o:Oper} {l:List Oper} {S S1:St} {K:St→Prop} (hg:o.guard=none) (h:okP c mv o S) (e:nx c mv o S=S1) (k:DL c ops (acc++[(B5 c mv o S).sk]) l S1 K):DL c ops acc (o::l) S K:=
  DL.cons (B5 c mv o S) (aD c mv o S) (Mp (by unfold wnt;rw[hg]) h) (Lm h).1 (Lm h).2 (by rw[←VP h];exact e) k
theorem DL.call {c:Cx} {ops:Array Oper} {acc:List Sk} {o:Oper} {l:List Oper} {S:St} {K:St→Prop} (ts:List Nat) (f:Operand) (args:Array Operand) (argTypes:Array TypeId) (ho:o.op=.call { callee:=.value f,args,argTypes }) (hg:o.guard=none) (hd:∀k,o.dst=some k→k<S.n)
    {g:Nat} {caps:List AV} (hf:evT c 0 S f=.fn g caps) (of:okO c 0 f) {fn:Func} {body:Code} (hfn:CU c.P g fn body) (hTs:argTypes.toList.length=args.toList.length) (hok:∀x∈argTypes.toList.zip args.toList,okO c x.1 x.2) (hn:(gvn ts args.toList).Nodup)
    {as':List AV} (ha:(argTypes.toList.zip args.toList).map (fun x=>Cr c ts S x.1 x.2)++caps=as') {r:AV} (hc:∀h,CS c.P g as' h r h) {S1:St} (e:(⟨S.n,B1 (BD S.tm (gvn ts args.toList)) o.dst r,S.hp⟩:St)=S1) (k:DL c ops (acc++[⟨gvn ts args.toList,.val⟩]) l S1 K):DL c ops acc (o::l) S K:=by
  subst ha
  exact DL.cons ⟨o,gvn ts args.toList,r,.val⟩ rfl (J0 hd (by unfold wnt;rw[hg]) f args argTypes ho ts g caps hf of fn body hfn argTypes.toList hTs hok hn r hc) (fun _ _ h=>by cases h) (fun _ _ h=>by cases h) e k
theorem W.regD {c:Cx} {id:Nat} {ops:Array Oper} {S:St} {Q:Exit→St→Prop} (hm:c.P.follows .mixedOrders=true) (h:∀ops',ops'=ops→DL c ops' [] ops.toList S (Q .normal)):W c (.region id ops true) S Q:=by
  obtain⟨fs,Sf,h1,h2,h3,h4⟩:=h ops rfl
  exact W.draw fs h1 hm h2 (Wf h2 (by simpa using h3)) h4
def Ge (S:St) (L L2:List (Nat×AV)):Prop:=S.hp≠[]∧(∀p∈L,S.tm p.1=p.2∧p.2.cl L2)∧∀p∈L2,hd S p.1=some p.2∧p.2.cl L2
theorem Vy {S:St} (h:S.hp≠[]):S.hp=hd S::S.hp.tail:=by
 unfold hd
 cases hs:S.hp with
 |nil=>exact absurd hs h
 |cons f r=>rfl
theorem bW {S:St} {h:HP} (L L2:List (Nat×AV)) (hh:S.hp.tail=upH h) (k:Ge S L L2):Wk S ⟨S.n,tl L,al L2::upH h⟩:=
 Ml L L2 (by rw[←hh];exact Vy k.1) k.2.1 k.2.2
def stk (S:St) (ts ks:List Nat) (V H:List (Nat×AV)):St:=⟨S.n,tl (V++tls S ts),al (H++hls (hd S) ks)::S.hp.tail⟩
theorem Wz.to {S S0:St} {h:HP} {ts ks:List Nat} {V H:List (Nat×AV)} (hh:S.hp.tail=upH h) (h0:S0.hp.tail=upH h) (hn:S.n=S0.n) (k:Ge S (V++tls S0 ts) (H++hls (hd S0) ks)):Wz S (stk S0 ts ks V H):=by
 have:=bW _ _ hh k
 unfold stk
 rw[h0, ←hn]
 exact Wz.of this
theorem W.loopk {c:Cx} {x:Code} {Q:Exit→St→Prop} {S:St} {h:HP} (ts ks:List Nat) (V H:Nat→List (Nat×AV)) (n:Nat) (hh:S.hp.tail=upH h) (h0:Ge S (V 0++tls S ts) (H 0++hls (hd S) ks))
  (hb:∀k,k≤n→∀T,stk S ts ks (V k) (H k)=T→W c x T (DE (fun S'=>k<n∧Wz S' (stk S ts ks (V (k+1)) (H (k+1)))) Q)):W c (.loop x) S Q:=
 W.loopz (fun k=>stk S ts ks (V k) (H k)) n (Wz.to hh hh rfl h0) fun k hk=>hb k hk _ rfl
theorem W.regS {c:Cx} {id:Nat} {ops:Array Oper} {S S1:St} {Q:Exit→St→Prop} (h:∀(ops':Array Oper) (K:St→Prop),K S1→WL c ops' ops.toList S K) (k:Q .normal S1):W c (.region id ops false) S Q:=W.regL fun ops' _=>h ops' _ k
theorem W.regSD {c:Cx} {id:Nat} {ops:Array Oper} {S S1:St} {Q:Exit→St→Prop} (hm:c.P.follows .mixedOrders=true) (h:∀K:St→Prop,K S1→DL c ops [] ops.toList S K) (k:Q .normal S1):W c (.region id ops true) S Q:=W.regD hm fun _ e=>by subst e;exact h _ k
theorem W.condS {c:Cx} {S:St} {Q:Exit→St→Prop} {g:Operand} {x y:Code} (b:Bool) (hg:evT c 0 S g=dB' b) (og:okO c 0 g) (h1:b=true→W c x S Q) (h2:b=false→W c y S Q):W c (.cond g x y) S Q:=
 W.cond b hg og (by cases b<;>simp[h1,h2])
theorem W.frz {c:Cx} {code:Code} {S:St} {Q:Exit→St→Prop} {h:HP} (t k n:Nat) (es:List DD) (s:Sh) (ts ks:List Nat) (hh:S.hp.tail=upH h) (h0:S.hp≠[]) (ht:S.tm t=.rw 0 k n) (hk:hd S k=some (.d (.st es))) (hsp:0<s.w) (hes:DD.shs es=List.replicate n s)
  (h1:∀p∈tls S ts,p.1≠t∧p.2.cl (hls (hd S) ks)) (h2:∀p∈hls (hd S) ks,p.1≠k∧p.2.cl (hls (hd S) ks)) {T:St} (e:(⟨S.n,tl ((t,.d (.sl true s es))::tls S ts),al (hls (hd S) ks)::S.hp.tail⟩:St)=T) (w:W c code T Q):W c code S Q:=by
 subst e
 have e1:S.hp=hd S::upH h:=by rw[←hh];exact Vy h0
 rw[hh] at w
 refine W.ahead (SB t k n es s (tls S ts) (hls (hd S) ks) e1 ht hk hsp hes (fun p hp=>⟨(h1 p hp).1,?_,(h1 p hp).2⟩) (fun p hp=>⟨(h2 p hp).1,Gz _ _ p hp,(h2 p hp).2⟩)) w
 obtain⟨t, -,rfl⟩:=List.mem_map.1 hp
 rfl
theorem RK:IntKind.i64.min= -9223372036854775808:=rfl
theorem RJ:IntKind.i64.max=9223372036854775807:=rfl
theorem mK:IntKind.u8.min=0:=rfl
theorem mJ:IntKind.u8.max=255:=rfl
theorem BH {n:Int} (h1: -9223372036854775808≤n) (h2:n≤9223372036854775807):IntKind.i64.wrap n=n:=IntWalk.i64_in n ⟨h1,h2⟩
theorem B2 {k:Nat} {n:Nat} (h:k<n) (hn:n≤4611686018427387904):IntKind.i64.wrap ((k:Int)+1)=(k:Int)+1:=BH (by omega) (by omega)
def E9 {α:Type} (f:α→DD) (l:List α) (k:Nat) (z:DD):List DD:=(l.take k).map f++List.replicate (l.length - k) z
theorem Ek {α:Type} (f:α→DD) (l:List α) (z:DD):E9 f l 0 z=List.replicate l.length z:=by simp[E9]
theorem Kv {α:Type} (f:α→DD) (l:List α) (z:DD):E9 f l l.length z=l.map f:=by simp[E9]
theorem QZ {α:Type} {f:α→DD} {l:List α} {k:Nat} {z:DD} (h:k<l.length):(E9 f l k z)[k]? =some z:=by
 unfold E9
 rw[List.getElem?_append_right (by simp;omega)]
 simp only[List.length_map,List.length_take,List.getElem?_replicate]
 rw[if_pos (by omega)]
theorem NO {α:Type} {f:α→DD} {l:List α} {k:Nat} {z:DD} (h:k<l.length):(E9 f l k z).set k (f l[k])=E9 f l (k+1) z:=by
 unfold E9
 have e:l.length - k=(l.length - (k+1))+1:=by omega
 rw[List.set_append_right _ _ (by simp;omega),e,List.replicate_succ]
 have e2:k - ((l.take k).map f).length=0:=by simp;omega
 rw[e2,List.set_cons_zero,Y' h,List.map_append]
 simp
theorem NI {α:Type} {f:α→DD} {s:Sh} (hf:∀x,(f x).sh=s) {z:DD} (hz:z.sh=s) {l:List α} {k:Nat} (hk:k≤l.length):DD.shs (E9 f l k z)=List.replicate l.length s:=by
 unfold E9
 rw[DD.shs_eq,List.map_append, ←DD.shs_eq,BN hf,List.length_take,List.map_replicate,hz,List.replicate_append_replicate]
 congr 1;omega
def tk {α:Type} (f:α→DD) (l:List α) (k:Nat):List DD:=(l.take k).map f
theorem YN {α:Type} (f:α→DD) (l:List α):tk f l 0=[]:=rfl
def fk {α:Type} (f:α→List DD) (l:List α) (k:Nat):List DD:=(l.take k).flatMap f
theorem aG {α:Type} (f:α→List DD) (l:List α):fk f l 0=[]:=rfl
theorem E7 {α:Type} (g:α→Nat):∀(l:List α) (k:Nat),szL g (l.take k)≤szL g l
 |[],k=>by simp
 |x::l,0=>by simp[szL]
 |x::l,k+1=>by simp only[List.take_succ_cons,szL];have:=E7 g l k;omega
theorem mxl:maxLen=9223372036854775807:=rfl
theorem ex2 {α β:Type} {a:α} {b:β} {P:α→β→Prop}:(∃x y,(a=x∧b=y)∧P x y)↔P a b:=⟨fun ⟨_,_,⟨e1,e2⟩,h⟩=>e1 ▸ e2 ▸ h,fun h=>⟨a,b,⟨rfl,rfl⟩,h⟩⟩
attribute [simp] AV.ups AV.vws aG ex2 Ds Cx.ft YN Ek mxl okB RK RJ mK mJ cst Cx.el Ge stk Res LN JM Fa AV.nz AV.nzs AV.dn AV.dns
mutual
def DD.is (o:Bool):DD→D→Prop
 | .lf v,.lf u=>v=u
 | .st fs,.st gs=>DD.iss o fs gs
 | .sl m s es,.sl gs=>m=o∧0<s.w∧(∀e∈es,e.sh=s)∧DD.iss o es gs
 |_,_=>False
def DD.iss (o:Bool):List DD→List D→Prop
 |[],[]=>True
 |d::ds,e::es=>d.is o e∧DD.iss o ds es
 |_,_=>False
end
theorem D6 {o:Bool} {fs:List DD} {gs:List D} (h:DD.iss o fs gs):(DD.st fs).is o (.st gs):=by simp only[DD.is];exact h
theorem Bz {o:Bool}:DD.iss o [] []:=by simp only[DD.iss]
theorem Ak {o:Bool} {d:DD} {e:D} {ds:List DD} {es:List D} (h:d.is o e) (k:DD.iss o ds es):DD.iss o (d::ds) (e::es):=by simp only[DD.iss];exact⟨h,k⟩
theorem BQ {o:Bool} (v:Value):(DD.lf v).is o (.lf v):=by simp only[DD.is]
theorem R2 {α:Type} {o:Bool} {f:α→DD} {g:α→D}:∀{l:List α},(∀x∈l,(f x).is o (g x))→DD.iss o (l.map f) (l.map g)
 |[],_=>Bz
 |x::l,h=>Ak (h x (by simp)) (R2 fun y hy=>h y (by simp[hy]))
theorem CD {α:Type} {o:Bool} {s:Sh} {f:α→DD} {g:α→D} {l:List α} (hs:∀x,(f x).sh=s) (hp:0<s.w) (h:∀x∈l,(f x).is o (g x)):(DD.sl o s (l.map f)).is o (.sl (l.map g)):=by
 simp only[DD.is]
 refine⟨trivial,hp,fun e he=> ?_,R2 h⟩
 obtain⟨x, -,rfl⟩:=List.mem_map.1 he
 exact hs x
mutual
theorem fH {o:Bool}:∀(d:DD) (e:D),d.is o e→d.sh.w=e.width
 | .lf v,.lf u,_=>by simp[DD.sh,Sh.w,D.width]
 | .st fs,.st gs,h=>by
  simp only[DD.is] at h
  simp only[DD.sh,Sh.w,D.width]
  exact(Vi fs gs h).1
 | .sl m s es,.sl gs,_=>by simp[DD.sh,Sh.w,D.width]
 | .lf _,.st _,h=>by simp[DD.is] at h
 | .lf _,.sl _,h=>by simp[DD.is] at h
 | .st _,.lf _,h=>by simp[DD.is] at h
 | .st _,.sl _,h=>by simp[DD.is] at h
 | .sl _ _ _,.lf _,h=>by simp[DD.is] at h
 | .sl _ _ _,.st _,h=>by simp[DD.is] at h
theorem Vi {o:Bool}:∀(ds:List DD) (es:List D),DD.iss o ds es→Sh.ws (DD.shs ds)=D.widths es∧ds.length=es.length
 |[],[],_=>by simp[DD.shs,Sh.ws,D.widths]
 |d::ds,e::es,h=>by
  simp only[DD.iss] at h
  obtain⟨h1,h2⟩:=Vi ds es h.2
  simp only[DD.shs,Sh.ws,D.widths,fH d e h.1,h1,List.length_cons,h2,and_self]
 |[],_::_,h=>by simp[DD.iss] at h
 |_::_,[],h=>by simp[DD.iss] at h
end
def Fz (w:World) (b:Nat):Nat:=match w.heap[b]? with
 |some (.cells cur _ _)=>cur.size+1
 |_=>0
theorem Fz.lt {w:World} {b o:Nat} {u:Value} (h:w.cell? ⟨b,o,none⟩=some u):o<Fz w b:=by
 unfold World.cell? at h
 unfold Fz
 split at h
 ·rename_i c _ _ hc
  simp only at hc
  rw[hc]
  simp only at h ⊢
  split at h
  ·cases h
  ·exact Nat.lt_succ_of_lt (Array.getElem?_eq_some_iff.1 h).1
 ·cases h
theorem Vj {w:World} {K:Nat→Prop} {s:Sh} {b:Nat}:∀(ds:List DD) (es:List D) (off:Nat),DD.iss false ds es→(∀e∈ds,e.sh=s)→0<s.w→Dp w K es b off→ds≠[]→off+ds.length*s.w≤Fz w b
 |[],_,_,_,_,_,_,h=>absurd rfl h
 |d::ds,[],_,h,_,_,_,_=>by simp[DD.iss] at h
 |d::ds,e::es,off,h,hs,hp,hr,_=>by
  simp only[DD.iss] at h
  simp only[Dp] at hr
  obtain⟨⟨cs,hc,hd⟩,hr⟩:=hr
  have hw:e.width=s.w:=by rw[←fH d e h.1,hs d (by simp)]
  have hl:=Rep.length e cs hd
  cases hds:ds with
  |nil=>
   have hlt:s.w - 1<cs.length:=by omega
   have:=Fz.lt (hc (s.w - 1) _ (List.getElem?_eq_getElem hlt))
   simp;omega
  |cons d2 ds2=>
   have:=Vj ds es (off+e.width) h.2 (fun x hx=>hs x (by simp[hx])) hp hr (by rw[hds];simp)
   rw[hds,List.length_cons,Nat.add_mul] at this
   simp only[List.length_cons,Nat.add_mul]
   omega
mutual
theorem P3 {w:World} {K:Nat→Prop}:∀(d:DD) (e:D) (cs:List Value),d.is false e→Rep w K e cs→rp w (Fz w) d cs []
 | .lf v,.lf u,cs,h,k=>by
  simp only[DD.is] at h;subst h
  simp only[Rep] at k
  simp only[rp];exact⟨k.1,k.2,trivial⟩
 | .st fs,.st gs,cs,h,k=>by
  simp only[DD.is] at h
  simp only[Rep] at k
  simp only[rp];exact Qa fs gs cs h k
 | .sl m s es,.sl gs,cs,h,k=>by
  simp only[DD.is] at h
  obtain⟨rfl,h1,h2,h3⟩:=h
  simp only[Rep] at k
  obtain⟨a,cap,rfl,k1,k2,k3,k4⟩:=k
  have hl:=(Vi es gs h3).2
  simp only[rp]
  refine⟨h2,h1,a,cap,by rw[hl],by rw[hl];exact k1,k2,k3,?_⟩
  by_cases he:es=[]
  ·exact .inl ⟨trivial,he,fun q=>by cases q⟩
  ·rcases k4 with rfl|⟨b,off,ha,hK,hr⟩
   ·exact absurd (List.eq_nil_of_length_eq_zero (by rw[hl];rfl)) he
   ·exact .inr ⟨b,off,[],ha,Qb es gs b off h3 hr,Vj es gs off h3 h2 h1 hr he,.inl ⟨trivial,trivial,rfl⟩⟩
 | .lf _,.st _,_,h,_=>by simp[DD.is] at h
 | .lf _,.sl _,_,h,_=>by simp[DD.is] at h
 | .st _,.lf _,_,h,_=>by simp[DD.is] at h
 | .st _,.sl _,_,h,_=>by simp[DD.is] at h
 | .sl _ _ _,.lf _,_,h,_=>by simp[DD.is] at h
 | .sl _ _ _,.st _,_,h,_=>by simp[DD.is] at h
theorem Qa {w:World} {K:Nat→Prop}:∀(ds:List DD) (es:List D) (cs:List Value),DD.iss false ds es→B3 w K es cs→rpS w (Fz w) ds cs []
 |[],[],cs,_,k=>by simp only[B3] at k;simp only[rpS];exact⟨k,trivial⟩
 |d::ds,e::es,cs,h,k=>by
  simp only[DD.iss] at h
  simp only[B3] at k
  obtain⟨c1,c2,rfl,k1,k2⟩:=k
  simp only[rpS]
  exact⟨c1,c2,[],[],rfl,rfl,P3 d e c1 h.1 k1,Qa ds es c2 h.2 k2⟩
 |[],_::_,_,h,_=>by simp[DD.iss] at h
 |_::_,[],_,h,_=>by simp[DD.iss] at h
theorem Qb {w:World} {K:Nat→Prop}:∀(ds:List DD) (es:List D) (b off:Nat),DD.iss false ds es→Dp w K es b off→rpE w (Fz w) ds b off []
 |[],[],_,_,_,_=>by simp only[rpE]
 |d::ds,e::es,b,off,h,k=>by
  simp only[DD.iss] at h
  simp only[Dp] at k
  obtain⟨⟨cs,k1,k2⟩,k3⟩:=k
  simp only[rpE]
  exact⟨cs,[],[],rfl,k1,P3 d e cs h.1 k2,by rw[fH d e h.1];exact Qb ds es b _ h.2 k3⟩
 |[],_::_,_,_,h,_=>by simp[DD.iss] at h
 |_::_,[],_,_,h,_=>by simp[DD.iss] at h
end
def ES (w:World):List DD→List Value→Prop
 |[],[]=>True
 |d::ds,v::vs=>(∃cs,rp w (Fz w) d cs []∧v=d.mk cs)∧ES w ds vs
 |_,_=>False
theorem ES.get {w:World}:∀(ds:List DD) (vs:List Value),ES w ds vs→ds.length=vs.length∧∀i,rv w (Fz w) (fun _ _=>none) ((ds.map AV.d).getD i .un) (vs.getD i undef) []
 |[],[],_=>⟨rfl,fun i=>by simp[rv]⟩
 |d::ds,v::vs,h=>by
  simp only[ES] at h
  obtain⟨k1,k2⟩:=ES.get ds vs h.2
  refine⟨by simp[k1],fun i=> ?_⟩
  cases i with
  |zero=>
   obtain⟨cs,h1,h2⟩:=h.1
   simp only[List.map_cons,List.getD_cons_zero,rv]
   exact⟨cs,h1,h2⟩
  |succ i=>simpa using k2 i
 |[],_::_,h=>by simp[ES] at h
 |_::_,[],h=>by simp[ES] at h
theorem CS.out {c:Cx} {f:Nat} {args:List DD} {y:DD} (h:CS c.P f (args.map .d) [] (.d y) []) (w:World) (vs:List Value) (hv:ES w args vs) (hgl:Gl w (Fz w):=by simp[Gl,glb]):
  Calls c.P f vs.toArray w fun e w'=>∃cs bs F',e=.returned (y.mk cs)∧rp w' F' y cs bs∧bs.Nodup∧(∀b∈bs,w.heap.size≤b∧b<w'.heap.size)∧Below w.heap.size w w':=by
 obtain⟨hl,hg⟩:=ES.get args vs hv
 have hR:Rel w (Fz w) (fun _ _=>none) (fun _=>[]) (Ck (args.map .d) []) ⟨vs.toArray,[]⟩:=by
  refine⟨by simp[Ck,hl],rfl,fun t=> ?_,fun lv k _=>⟨rfl,rfl,rfl⟩,fun lv k cn hq=> ?_,fun _=>List.nodup_nil,fun _ _ _ b hb=>by simp at hb,fun _ b hb=>by simp at hb,fun b hb=> ?_,hgl⟩
  ·have:=hg t
   simpa[Ck,Array.getD_eq_getD_getElem?,List.getD_eq_getElem?_getD] using this
  ·cases lv<;>simp[Ck,hpg] at hq
  ·unfold Fz
   rw[Array.getElem?_eq_none hb]
 refine(h w _ _ _ vs hR).mono fun e w' ⟨v,F',own',h1,h2,h3⟩=> ?_
 have h4:=h2.tm 0
 simp only[Gr,if_true] at h4
 simp only[rv] at h4
 obtain⟨cs,h5,h6⟩:=h4
 have h6':v=y.mk cs:=by simpa using h6
 subst h6'
 refine⟨cs,own' (.t 0),F',h1,h5,h2.nd _,fun b hb=>⟨?_,h2.lt _ b hb⟩,⟨h3.ks.os,h3.ks.tape,h3.ks.output,h3.ks.size,fun b hb=>(h3.ks.out b hb (by simp)).1⟩⟩
 rcases h3.fr _ b hb with ⟨x,q⟩|q
 ·simp at q
 ·exact q
theorem TY {w:World}:ES w [] []:=by simp only[ES]
theorem Pa {w:World} {d:DD} {ds:List DD} {v:Value} {vs:List Value} (cs:List Value) (h:rp w (Fz w) d cs []) (e:d.mk cs=v) (k:ES w ds vs):ES w (d::ds) (v::vs):=by
 simp only[ES];exact⟨⟨cs,h,e.symm⟩,k⟩
