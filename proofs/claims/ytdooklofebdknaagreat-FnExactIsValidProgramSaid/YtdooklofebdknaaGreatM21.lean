/- Part 21. No condition. -/
import Derived.Test.YtdooklofebdknaaGreatM20
namespace Go.Proofs.YtdooklofebdknaaGreat
open Go.RowKit
set_option linter.unusedVariables false
set_option linter.unusedSimpArgs false
section
variable {c:Cx} {o:Oper} {S:St}
theorem Mz {w:World} {F:Nat→Nat} {Θ:Ty}:∀(l:List AV) (vs:List Value) (bs:List Nat),rvS w F Θ l vs bs→∀i,i<l.length→∃v b,vs[i]? =some v∧rv w F Θ (l.getD i .un) v b∧List.Sublist b bs
 |[],_,_,_,i,hi=>by simp at hi
 |a::l,vs,bs,h,i,hi=>by
  simp only[rvS] at h
  obtain⟨v,r,b1,b2,rfl,rfl,g1,g2⟩:=h
  cases i with
  |zero=>exact⟨v,b1,rfl,by simpa using g1,List.sublist_append_left _ _⟩
  |succ i=>
   obtain⟨v',b,k1,k2,k3⟩:=Mz l r b2 g2 i (by simpa using hi)
   exact⟨v',b,by simpa using k1,by simpa using k2,k3.trans (List.sublist_append_right _ _)⟩
theorem Pn (hd:∀k,o.dst=some k→k<S.n) {t i:Nat} {lv:List AV} (ho:o.op=.extract (.tmp t) i) (hx:S.tm t=.tp lv) (hi:i<lv.length):Snd c o S ⟨S.n,B0 (BB S.tm [t]) o.dst (lv.getD i .un),S.hp⟩:=by
 intro w F Θ own a hR
 have hv:=hR.tm t
 rw[hx] at hv
 simp only[rv] at hv
 obtain⟨vs,e1,h1⟩:=hv
 obtain⟨v,b,k1,k2,k3⟩:=Mz lv vs _ h1 i hi
 have hrun:(execOp a.eval o).run c.P w=.ok (.value v) w:=by
  unfold execOp
  have e2:a.eval (.tmp t)=.tuple vs.toArray:=e1
  simp[ho,e2,Go.Instr.extract,k1]
 obtain⟨own',g1,g2⟩:=hR.fin o.dst hd [t] (lv.getD i .un) v b (Ks.refl _ _ _) hR.top k2 (k3.nodup (hR.nd _)) (fun x hx=> .inl ⟨t,by simp,k3.subset hx⟩) (fun x hx=>hR.lt _ x (k3.subset hx))
 exact⟨v,w,F,Θ,own',.inl hrun,g1,g2⟩
end
section
variable {c:Cx} {ops:Array Oper} {o:Oper} {l:List Oper} {S S1:St} {K:St→Prop}
theorem Cr (M:List Nat) {t i:Nat} {lv:List AV} (k:WL c ops l S1 K) (ho:o.op=.extract (.tmp t) i:=by rfl) (hm:mvB M o.dst=true:=by rfl) (hg:o.guard=none:=by rfl) (hx:S.tm t=.tp lv:=by rfl) (hi:i<lv.length:=by simp) (hd:∀k,o.dst=some k→k<S.n:=by simp)
  (e:(⟨S.n,B0 (BB S.tm [t]) o.dst (lv.getD i .un),S.hp⟩:St)=S1:=by first|(simp[H];rfl)|rfl):WL c ops (o::l) S K:=
 WL.cons (OS.op (by unfold wnt;rw[hg]) (Pn hd ho hx hi)) (by rw[e];exact k)
end
theorem Rel.freezeB {w:World} {F:Nat→Nat} {Θ:Ty} {own:Who→List Nat} {S:St} {a:Act} (h:Rel w F Θ own S a) (t k:Nat) (ht:S.tm t=.pt 0 k []) (x:DD) (hk:hpg S.hp 0 k=some (.d x))
  (S':St) (hn:S'.n=S.n) (htm:∀u,u≠t→S'.tm u=S.tm u∨S'.tm u=.un) (ht':S'.tm t=.el x.vw) (hhp:∀lv q,¬(lv=0∧q=k)→hpg S'.hp lv q=hpg S.hp lv q) (hk':hpg S'.hp 0 k=none)
  (hnt:∀u,u≠t→(S'.tm u).npt (fun q=>q=k)) (hnh:∀lv q cn,hpg S'.hp lv q=some cn→cn.npt (fun q=>q=k)):∃F' Θ' own',Rel w F' Θ' own' S' a∧Stp w F Θ own w F' Θ' own':=by
 classical
 obtain⟨b,s0,cur,ty,z1,z2,z3,z4,z5,z6⟩:=h.hs 0 k _ hk
 have hvt:=h.tm t
 rw[ht] at hvt
 simp only[rv] at hvt
 obtain⟨ho,b',s1,off,y1,y2,y3⟩:=hvt
 rw[z1] at y1
 simp only[Option.some.injEq,Prod.mk.injEq] at y1
 obtain⟨rfl,rfl⟩:=y1
 rw[E9] at y2
 cases y2
 simp only[rc] at z6
 let F':=upd F b cur.size
 have hks:Ks w F w F' (fun x=>x=b):=by
  have e:w.setRow b cur=w:=setRow_self w b cur ty (0,0) z5
  have:=Lf (F:=F) (n:=cur.size) (arr:=cur) z5 (by omega) (fun _ _=>rfl)
  rwa [e] at this
 let Θ':Ty:=fun lv q=>if lv=0∧q=k then none else Θ lv q
 have hT:∀lv q,¬(lv=0∧q=k)→Θ' lv q=Θ lv q:=fun lv q hn=>if_neg hn
 have hTT:∀lv q (x:Nat×Sh),Θ lv q=some x→Θ lv q=some x:=fun _ _ _ q=>q
 let own':Who→List Nat:=fun x=>match x with
  | .t u=>if u=t then [] else if S'.tm u=S.tm u then own (.t u) else []
  | .h lv q=>if lv=0∧q=k then [] else own (.h lv q)
  | .l lv q=>if lv=0∧q=k then [] else own (.l lv q)
 have kp:∀x,x≠ .l 0 k→Kp w F w F' (own x):=fun x hx=>hks.kp (h.lt x) (fun q hq e=>h.dj (.l 0 k) x (Ne.symm hx) q (by rw[z2,e];simp) hq)
 have kp0:Kp w F w F' []:=hks.kp (by simp) (by simp)
 have src:∀x y,y∈own' x→x≠ .t t∧x≠ .h 0 k∧x≠ .l 0 k∧y∈own x:=by
  intro x y hy
  cases x with
  |t u=>
   simp only[own'] at hy
   split at hy
   ·simp at hy
   ·rename_i e
    split at hy
    ·exact⟨by simpa using e,by simp,by simp,hy⟩
    ·simp at hy
  |h lv q=>
   simp only[own'] at hy
   split at hy
   ·simp at hy
   ·rename_i e;exact⟨by simp,by simpa using e,by simp,hy⟩
  |l lv q=>
   simp only[own'] at hy
   split at hy
   ·simp at hy
   ·rename_i e;exact⟨by simp,by simp,by simpa using e,hy⟩
 refine⟨F',Θ',own',⟨h.n.trans hn.symm,h.df,fun u=> ?_,fun lv q hq=> ?_,fun lv q cn hq=> ?_,fun x=> ?_,fun x y hxy z hx hy=> ?_,fun x z hz=> ?_,fun z hz=> ?_,h.gl.ks hks⟩,⟨⟨rfl,rfl,rfl,Nat.le_refl _,hks.cell,hks.mono,fun z hz hne=>hks.out z hz (fun e=>hne ⟨.l 0 k,by rw[z2,e];simp⟩)⟩,fun x z hz=> ?_,fun lv q=>if_neg (by simp)⟩⟩
 ·by_cases hu:u=t
  ·subst hu
   rw[ht']
   simp only[rv]
   refine⟨if_pos rfl,b,0,cur.toList,y3,fun j u hu=> ?_,rp.view x _ _ (rp.keep x _ _ z6 (kp _ (by simp))),?_⟩
   ·rw[cell_of_row w b _ cur ty (0,0) z5,Nat.zero_add]
    simpa using hu
   ·show _≤upd F b cur.size b
    rw[Au];simp
  ·have hnp:=hnt u hu
   rcases htm u hu with e|e
   ·have:own' (.t u)=own (.t u):=by show(if _ then _ else if _ then _ else _)=_;rw[if_neg hu,if_pos e]
    rw[this]
    rw[e] at hnp ⊢
    exact rv.drop hT _ _ _ hnp (rv.keep hTT _ _ _ (h.tm u) (kp _ (by simp)))
   ·rw[e]
    by_cases e2:S'.tm u=S.tm u
    ·have:own' (.t u)=own (.t u):=by show(if _ then _ else if _ then _ else _)=_;rw[if_neg hu,if_pos e2]
     rw[this]
     have h3:=h.tm u
     rw[←e2,e] at h3
     simpa only[rv] using h3
    ·have:own' (.t u)=[]:=by show(if _ then _ else if _ then _ else _)=_;rw[if_neg hu,if_neg e2]
     rw[this]
     simp only[rv]
 ·by_cases e:lv=0∧q=k
  ·exact⟨if_pos e,if_pos e,if_pos e⟩
  ·rw[hhp lv q e] at hq
   obtain⟨h1,h2,h3⟩:=h.hn lv q hq
   exact⟨(if_neg e).trans h1,(if_neg e).trans h2,(if_neg e).trans h3⟩
 ·have e:¬(lv=0∧q=k):=by
   rintro ⟨rfl,rfl⟩
   rw[hk'] at hq;cases hq
  have hnp:=hnh lv q cn hq
  rw[hhp lv q e] at hq
  obtain⟨b2,s2,cur2,t2,h1,h2,h3,h4,h5,h6⟩:=h.hs lv q cn hq
  have hne:b2≠b:=fun e2=>h.dj (.l lv q) (.l 0 k) (by simpa using e) b2 (by rw[h2];simp) (by rw[z2,e2];simp)
  refine⟨b2,s2,cur2,t2,(if_neg e).trans h1,(if_neg e).trans h2,(BC _ _ hne).trans h3,h4,h5,?_⟩
  have:own' (.h lv q)=own (.h lv q):=if_neg e
  rw[this]
  exact rc.drop hT _ _ _ hnp (rc.keep hTT _ _ _ h6 (kp _ (by simp)))
 ·cases x with
  |t u=>
   show(if _ then _ else if _ then _ else _:List Nat).Nodup
   split
   ·exact List.nodup_nil
   ·split
    ·exact h.nd _
    ·exact List.nodup_nil
  |h lv q=>show(if _ then _ else _:List Nat).Nodup;split;exact List.nodup_nil;exact h.nd _
  |l lv q=>show(if _ then _ else _:List Nat).Nodup;split;exact List.nodup_nil;exact h.nd _
 ·exact h.dj x y hxy z (src x z hx).2.2.2 (src y z hy).2.2.2
 ·exact h.lt _ z (src x z hz).2.2.2
 ·have hb:b<w.heap.size:=h.lt (.l 0 k) b (by rw[z2];simp)
  exact(BC _ _ (by omega)).trans (h.top z hz)
 ·exact .inl ⟨_,(src x z hz).2.2.2⟩
theorem OI {S:St} {f:Nat→Option AV} {h:HP} (t k:Nat) (x:DD) (L L2:List (Nat×AV)) (hh:S.hp=f::upH h) (ht:S.tm t=.pt 0 k []) (hk:f k=some (.d x))
  (h1:∀p∈L,p.1≠t∧S.tm p.1=p.2∧p.2.cl L2) (h2:∀p∈L2,p.1≠k∧f p.1=some p.2∧p.2.cl L2):Wz S ⟨S.n,tl ((t,.el x.vw)::L),al L2::upH h⟩:=by
 intro w F Θ own a hR
 have hk2:al L2 k=none:=by
  cases hq:al L2 k with
  |none=>rfl
  |some v=>exact absurd rfl (h2 _ (D3 L2 k v hq)).1
 have hL:∀u v,al L u=some v→S.tm u=v∧v.cl L2:=fun u v hq=>(h1 _ (D3 L u v hq)).2
 have npk:∀v:AV,v.cl L2→v.npt (fun q=>q=k):=by
  have key:∀v:AV,v.npt (fun q=>hpg (al L2::upH h) 0 q=none)→v.npt (fun q=>q=k):=by
   intro v
   refine AV.npt_mono (fun q e=> ?_) v
   subst e;exact hk2
  exact fun v hv=>key v (AV.cl_npt v hv)
 -- contents that do not look at the row:those that are Hh;all others are forgotten first
 have hw:Wk S ⟨S.n,fun u=>if u=t then .pt 0 k [] else tl L u,(fun q=>if q=k then f k else al L2 q)::upH h⟩:=by
  refine⟨rfl,fun u=> ?_,fun lv q=> ?_,fun u=> ?_,fun lv q cn hq=> ?_⟩
  ·show(if u=t then _ else _)=_∨_
   by_cases hu:u=t
   ·subst hu;rw[if_pos rfl];exact .inl ht.symm
   ·rw[if_neg hu]
    show(al L u).getD .un=_∨(if u=t then _ else _)=_
    rw[if_neg hu]
    show _∨(al L u).getD .un=_
    cases hq:al L u with
    |none=>exact .inr rfl
    |some v=>exact .inl (hL u v hq).1.symm
  ·rw[hh]
   cases lv with
   |zero=>
    show(if q=k then f k else al L2 q)=f q∨_
    by_cases hq:q=k
    ·subst hq;rw[if_pos rfl];exact .inl rfl
    ·rw[if_neg hq]
     cases hq2:al L2 q with
     |none=>exact .inr ⟨rfl,by show(if q=k then f k else al L2 q)=none;rw[if_neg hq];exact hq2⟩
     |some v=>exact .inl (h2 _ (D3 L2 q v hq2)).2.1.symm
   |succ lv=>exact .inl rfl
  ·show(if u=t then _ else _:AV).npt _
   have mono : ∀ v : AV, v.cl L2 → v.npt (fun q => (if q = k then f k else al L2 q) = none) := fun v hv => AV.npt_mono (fun q e => by
    show al L2 q=none
    by_cases hq:q=k
    ·subst hq;exact hk2
    ·rw[if_neg hq] at e;exact e) v (AV.cl_npt (h:=upH h) v hv)
   by_cases hu:u=t
   ·rw[if_pos hu]
    simp only[AV.npt]
    intro _ e
    have e':(if k=k then f k else al L2 k)=none:=e
    rw[if_pos rfl,hk] at e';cases e'
   ·rw[if_neg hu]
    show((al L u).getD .un).npt _
    cases hq:al L u with
    |none=>trivial
    |some v=>exact mono v (hL u v hq).2
  ·have mono : ∀ v : AV, v.cl L2 → v.npt (fun q => (if q = k then f k else al L2 q) = none) := fun v hv => AV.npt_mono (fun q e => by
    show al L2 q=none
    by_cases hq:q=k
    ·subst hq;exact hk2
    ·rw[if_neg hq] at e;exact e) v (AV.cl_npt (h:=upH h) v hv)
   cases lv with
   |zero=>
    have hq':(if q=k then f k else al L2 q)=some cn:=hq
    by_cases hqk:q=k
    ·rw[if_pos hqk,hk] at hq'
     cases hq';trivial
    ·rw[if_neg hqk] at hq'
     exact mono cn (h2 _ (D3 L2 q cn hq')).2.2
   |succ lv=>
    have hq':hpg (upH h) lv q=some cn:=hq
    rw[DK] at hq'
    cases hh2:hpg h lv q with
    |none=>rw[hh2] at hq';cases hq'
    |some c0=>
     rw[hh2] at hq'
     simp only[Option.map_some,Option.some.injEq] at hq'
     subst hq'
     exact AV.npt_up _ c0
 obtain⟨Θ1,own1,r1,r2⟩:=hR.weak hw
 obtain ⟨F2, Θ2, own2, m1, m2⟩ := r1.freezeB t k (if_pos rfl) x (by show (if k = k then f k else _) = _; rw [if_pos rfl]; exact hk) ⟨S.n, tl ((t, .el x.vw) :: L), al L2 :: upH h⟩ rfl (fun u hu => by
   left
   show((al ((t,_)::L) u).getD .un)=(if u=t then _ else _)
   rw[if_neg hu]
   simp only[al,beq_eq_false_iff_ne.2 hu,cond_false]
   rfl) (by simp [tl, al]) (fun lv q hne => by
   cases lv with
   |zero=>
    show al L2 q=(if q=k then f k else al L2 q)
    rw[if_neg (fun e=>hne ⟨rfl,e⟩)]
   | succ lv => rfl) hk2 (fun u hu => by
   show((al ((t,_)::L) u).getD .un).npt _
   simp only[al,beq_eq_false_iff_ne.2 hu,cond_false]
   cases hq:al L u with
   |none=>trivial
   | some v => exact npk v (hL u v hq).2) (fun lv q cn hq => by
   cases lv with
   |zero=>exact npk cn (h2 _ (D3 L2 q cn hq)).2.2
   |succ lv=>
    have hq':hpg (upH h) lv q=some cn:=hq
    rw[DK] at hq'
    cases hh2:hpg h lv q with
    |none=>rw[hh2] at hq';cases hq'
    |some c0=>
     rw[hh2] at hq'
     simp only[Option.map_some,Option.some.injEq] at hq'
     subst hq'
     exact AV.npt_up _ c0)
 exact⟨F2,Θ2,own2,m1,r2.trans m2⟩
theorem W.frzB {c:Cx} {code:Code} {S:St} {Q:Exit→St→Prop} {h:HP} (t k:Nat) (x:DD) (ts ks:List Nat) (hh:S.hp.tail=upH h) (h0:S.hp≠[]) (ht:S.tm t=.pt 0 k []) (hk:hd S k=some (.d x))
  (h1:∀p∈tls S ts,p.1≠t∧p.2.cl (hls (hd S) ks)) (h2:∀p∈hls (hd S) ks,p.1≠k∧p.2.cl (hls (hd S) ks)) {T:St} (e:(⟨S.n,tl ((t,.el x.vw)::tls S ts),al (hls (hd S) ks)::S.hp.tail⟩:St)=T) (w:W c code T Q):W c code S Q:=by
 subst e
 have e1:S.hp=hd S::upH h:=by rw[←hh];exact VO h0
 rw[hh] at w
 refine W.ahead (OI t k x (tls S ts) (hls (hd S) ks) e1 ht hk (fun p hp=>⟨(h1 p hp).1,?_,(h1 p hp).2⟩) (fun p hp=>⟨(h2 p hp).1,Gs _ _ p hp,(h2 p hp).2⟩)) w
 obtain⟨t, -,rfl⟩:=List.mem_map.1 hp
 rfl
mutual
def DD.ow:DD→Prop
 | .lf _=>True
 | .st fs=>DD.ows fs
 | .sl o _ es=>o=true∧DD.ows es
def DD.ows:List DD→Prop
 |[]=>True
 |d::ds=>d.ow∧DD.ows ds
end
theorem DD.ows_iff:∀l:List DD,DD.ows l↔∀d∈l,d.ow
 |[]=>by simp[DD.ows]
 |d::l=>by simp[DD.ows,DD.ows_iff l]
mutual
theorem rp.keepO {w w':World} {F F':Nat→Nat}:∀(d:DD) (cs:List Value) (bs:List Nat),rp w F d cs bs→d.ow→(∀b∈bs,w'.heap[b]? =w.heap[b]? ∧F' b=F b)→rp w' F' d cs bs
 | .lf v,cs,bs,h,_,_=>by simpa only[rp] using h
 | .st fs,cs,bs,h,o,k=>by
  simp only[rp] at h ⊢
  simp only[DD.ow] at o
  exact rpS.keepO fs cs bs h o k
 | .sl o s es,cs,bs,h,q,k=>by
  simp only[DD.ow] at q
  obtain⟨rfl,q⟩:=q
  simp only[rp] at h ⊢
  obtain⟨hs,hp,a,cap,h1,h2,h3,h4,h5⟩:=h
  refine⟨hs,hp,a,cap,h1,h2,h3,h4,?_⟩
  rcases h5 with h5|⟨b,off,r,ha,he,hf,h6⟩
  ·exact .inl h5
  ·rcases h6 with ⟨ho, -, -⟩|⟨-,hb,hoff,hF,cur,e,hh,hc⟩
   ·cases ho
   ·subst hb
    have hk:=k b (by simp)
    exact .inr ⟨b,off,r,ha,rpE.keepO hk.1 es off r he q (fun x hx=>k x (by simp[hx])),by rw[hk.2];exact hf,.inr ⟨trivial,rfl,hoff,hk.2.trans hF,cur,e,hk.1.trans hh,hc⟩⟩
theorem rpS.keepO {w w':World} {F F':Nat→Nat}:∀(l:List DD) (cs:List Value) (bs:List Nat),rpS w F l cs bs→DD.ows l→(∀b∈bs,w'.heap[b]? =w.heap[b]? ∧F' b=F b)→rpS w' F' l cs bs
 |[],cs,bs,h,_,_=>by simpa only[rpS] using h
 |d::l,cs,bs,h,o,k=>by
  simp only[rpS] at h ⊢
  simp only[DD.ows] at o
  obtain⟨c1,c2,b1,b2,h1,h2,h3,h4⟩:=h
  subst h2
  exact⟨c1,c2,b1,b2,h1,rfl,rp.keepO d c1 b1 h3 o.1 (fun x hx=>k x (by simp[hx])),rpS.keepO l c2 b2 h4 o.2 (fun x hx=>k x (by simp[hx]))⟩
theorem rpE.keepO {w w':World} {F F':Nat→Nat} {b:Nat} (hb:w'.heap[b]? =w.heap[b]?):∀(l:List DD) (off:Nat) (bs:List Nat),rpE w F l b off bs→DD.ows l→(∀b∈bs,w'.heap[b]? =w.heap[b]? ∧F' b=F b)→rpE w' F' l b off bs
 |[],_,bs,h,_,_=>by simpa only[rpE] using h
 |d::l,off,bs,h,o,k=>by
  simp only[rpE] at h ⊢
  simp only[DD.ows] at o
  obtain⟨cs,b1,b2,h1,h2,h3,h4⟩:=h
  subst h1
  exact⟨cs,b1,b2,rfl,fun j u hu=>by rw[Ft hb];exact h2 j u hu,rp.keepO d cs b1 h3 o.1 (fun x hx=>k x (by simp[hx])),rpE.keepO hb l _ b2 h4 o.2 (fun x hx=>k x (by simp[hx]))⟩
end
theorem rms.sl {w:World} {F:Nat→Nat} {s:Sh} {es:List DD} {v:Value} {bs:List Nat} (h:rms w F s es v bs) (hn:bs.Nodup):∃F1,rp w F1 (.sl true s es) [v] bs∧(∀x,x∉bs.head? →F1 x=F x)∧∀x∈bs.head?,F x=0∧F1 x=es.length*s.w:=by
 obtain⟨h0,h1,a,cap,rfl,h3,h4,h5,h6⟩:=h
 rcases h6 with ⟨rfl,rfl,rfl⟩|⟨b,r,cur,e,rfl,rfl,g1,g2,g3,g4⟩
 ·refine⟨F,?_,fun _ _=>rfl,by simp⟩
  simp only[rp]
  exact⟨h0,h1,a,0,rfl,by simp,by omega,h5,.inl ⟨trivial,trivial,fun _=>rfl⟩⟩
 ·have hbr:=(List.nodup_cons.1 hn).1
  refine⟨upd F b (es.length*s.w),?_,fun x hx=>BC _ _ (fun e=>hx (by simp[e])),fun x hx=> ?_⟩
  ·simp only[rp]
   refine⟨h0,h1,_,cap,rfl,h3,h4,h5,.inr ⟨b,0,r,rfl,?_,by rw[Au];omega,.inr ⟨trivial,rfl,rfl,Au _ _ _,cur,e,g3,g4⟩⟩⟩
   exact rpE.keepB rfl es 0 r g2 ⟨fun _ _ _ => rfl, fun x => by
    by_cases e:x=b
    ·subst e;rw[g1];exact Nat.zero_le _
    ·rw[BC _ _ e];exact Nat.le_refl _,fun x hx=>⟨rfl,BC _ _ (fun e=>hbr (by rw[←e];exact hx))⟩⟩
  ·simp at hx;subst hx;exact⟨g1,Au _ _ _⟩
theorem rms.of {w:World} {F F1:Nat→Nat} {s:Sh} {es:List DD} {v:Value} {bs:List Nat} (h:rp w F1 (.sl true s es) [v] bs) (ho:DD.ows es) (hn:bs.Nodup) (hF:∀x∈bs,x∉bs.head? →F x=F1 x) (h0:∀x∈bs.head?,F x=0):rms w F s es v bs:=by
 simp only[rp,List.cons.injEq,and_true] at h
 obtain⟨g0,g1,a,cap,rfl,g3,g4,g5,g6⟩:=h
 refine⟨g0,g1,a,cap,rfl,g3,g4,g5,?_⟩
 rcases g6 with ⟨rfl,rfl,g7⟩|⟨b,off,r,rfl,k1,k2,k3⟩
 ·exact .inl ⟨rfl,rfl,g7 trivial⟩
 ·rcases k3 with ⟨e, -, -⟩|⟨-,rfl,rfl,k5,cur,e,k6,k7⟩
  ·simp at e
  ·have hbr:=(List.nodup_cons.1 hn).1
   exact .inr ⟨b,r,cur,e,rfl,rfl,h0 b (by simp),rpE.keepO rfl es 0 r k1 ho (fun x hx=>⟨rfl,hF x (by simp[hx]) (by simp;rintro rfl;exact hbr hx)⟩),k6,k7⟩
section
variable {c:Cx} {S:St}
theorem Rel.asT {w:World} {F:Nat→Nat} {Θ:Ty} {own:Who→List Nat} {a:Act} (h:Rel w F Θ own S a) (t:Nat) (r:AV) (hr:rv w F Θ r (a.tmps.getD t undef) (own (.t t))):Rel w F Θ own ⟨S.n,upd S.tm t r,S.hp⟩ a:=
 ⟨h.n, h.df, fun u => by
  show rv w F Θ (upd S.tm t r u) _ _
  by_cases e:u=t
  ·subst e;rw[Au];exact hr
  ·rw[BC _ _ e];exact h.tm u,h.hn,h.hs,h.nd,h.dj,h.lt,h.top,h.gl⟩
theorem TC {t:Nat} {s:Sh} (ht:S.tm t=.d (.sl true s [])):Wz S ⟨S.n,upd S.tm t (.ms s []),S.hp⟩:=fun w F Θ own a hR=>by
 refine⟨F,Θ,own,hR.asT t _ ?_,Stp.refl _ _ _ _⟩
 have hv:=hR.tm t
 rw[ht] at hv
 simp only[rv] at hv ⊢
 obtain⟨cs,h1,h2⟩:=hv
 have hl:=rp.length _ _ _ h1
 match cs,hl with
 |[v],_=>
  rw[h2]
  refine rms.of (F1:=F) h1 trivial (hR.nd _) (fun _ _ _=>rfl) fun x hx=> ?_
  simp only[rp] at h1
  obtain⟨-, -,a2,cap, -, -, -, -,g⟩:=h1
  rcases g with ⟨g, -, -⟩|⟨b,off,r, -, -, -,g⟩
  ·rw[g] at hx;simp at hx
  ·rcases g with ⟨g, -, -⟩|⟨-,g, -,g2, -⟩
   ·simp at g
   ·rw[g] at hx;simp at hx;subst hx;simpa using g2
theorem TD {t:Nat} {s:Sh} {es:List DD} (ht:S.tm t=.ms s es):Wz S ⟨S.n,upd S.tm t (.d (.sl true s es)),S.hp⟩:=fun w F Θ own a hR=>by
 have hv:=hR.tm t
 rw[ht] at hv
 simp only[rv] at hv
 obtain⟨F1,h1,h2,h3⟩:=hv.sl (hR.nd _)
 have hd:∀x,x∈(own (.t t)).head? →x∈own (.t t):=fun x hx=>List.mem_of_mem_head? hx
 have mono:∀b,F b≤F1 b:=fun b=>by
  by_cases e:b∈(own (.t t)).head?
  ·rw[(h3 b e).1];exact Nat.zero_le _
  ·rw[h2 b e];exact Nat.le_refl _
 have kp:∀x,x≠ .t t→Kp w F w F1 (own x):=fun x hx=>⟨fun _ _ _=>rfl,mono,fun b hb=>⟨rfl,h2 b (fun e=>hR.dj x (.t t) hx b hb (hd b e))⟩⟩
 have ks:Ks w F w F1 (fun b=>b∈own (.t t)):=⟨rfl,rfl,rfl,Nat.le_refl _,fun _ _ _=>rfl,mono,fun b _ hb=>⟨rfl,h2 b (fun e=>hb (hd b e))⟩⟩
 have hT:∀lv k (x:Nat×Sh),Θ lv k=some x→Θ lv k=some x:=fun _ _ _ q=>q
 refine⟨F1,Θ,own,⟨hR.n,hR.df,fun u=> ?_,hR.hn,fun lv k cn hc=> ?_,hR.nd,hR.dj,hR.lt,fun b hb=> ?_,hR.gl.ks ks⟩,⟨⟨rfl,rfl,rfl,Nat.le_refl _,fun _ _ _=>rfl,mono,fun b hb hn=>⟨rfl,h2 b (fun e=>hn ⟨_,hd b e⟩)⟩⟩,fun x b hb=> .inl ⟨x,hb⟩,fun _ _=>rfl⟩⟩
 ·show rv w F1 Θ (upd S.tm t _ u) _ _
  by_cases e:u=t
  ·subst e;rw[Au]
   simp only[rv]
   exact⟨_,h1,rfl⟩
  ·rw[BC _ _ e];exact rv.keep hT _ _ _ (hR.tm u) (kp _ (by simpa using e))
 ·obtain⟨b,s2,cur,ty,g1,g2,g3,g4,g5,g6⟩:=hR.hs lv k cn hc
  exact⟨b,s2,cur,ty,g1,g2,(h2 b (fun e=>hR.dj (.l lv k) (.t t) (by simp) b (by rw[g2];simp) (hd b e))).trans g3,g4,g5,rc.keep hT _ _ _ g6 (kp _ (by simp))⟩
 ·rw[h2 b (fun e=>by have:=hR.lt _ b (hd b e);omega)];exact hR.top b hb
def IH:Value→Nat
 | .slice (some a) _ _=>a.block
 |_=>0
def SlV (v:Value) (n:Nat):Prop:=∃a cap,v=.slice a n cap∧(0<n→a=some ⟨IH v,0,none⟩)∧n≤maxLen
theorem Rel.msOpen {w:World} {F:Nat→Nat} {Θ:Ty} {own:Who→List Nat} {a:Act} (h:Rel w F Θ own S a) {t:Nat} {s:Sh} {es:List DD} (ht:S.tm t=.ms s es):∃v,SlV v es.length∧Rel w F Θ own ⟨S.n,upd S.tm t (.mb v s es),S.hp⟩ a:=by
 have hv:=h.tm t
 rw[ht] at hv
 simp only[rv] at hv
 have hv2:=hv
 obtain⟨-, -,a2,cap,e,m1,m2,m3,g⟩:=hv
 refine⟨_,⟨a2,cap,e,fun hn=> ?_,by omega⟩,h.asT t _ ?_⟩
 ·rcases g with ⟨-,g, -⟩|⟨b,r,cur,ty,g1, -⟩
  ·subst g;simp at hn
  ·subst g1;rw[e];rfl
 ·simp only[rv]
  exact⟨trivial,hv2⟩
theorem W.msOpen {code:Code} {Q:Exit→St→Prop} (t:Nat) {s:Sh} {es:List DD} (k:∀v,SlV v es.length→W c code ⟨S.n,upd S.tm t (.mb v s es),S.hp⟩ Q) (ht:S.tm t=.ms s es:=by rfl):W c code S Q:=fun w F Θ own a hR=>by
 obtain⟨v,hv,h⟩:=hR.msOpen ht
 exact k v hv w F Θ own a h
theorem OH {t:Nat} {v:Value} {s:Sh} {es:List DD} (ht:S.tm t=.mb v s es):Wz S ⟨S.n,upd S.tm t (.ms s es),S.hp⟩:=fun w F Θ own a hR=>by
 refine⟨F,Θ,own,hR.asT t _ ?_,Stp.refl _ _ _ _⟩
 have hv:=hR.tm t
 rw[ht] at hv
 simp only[rv] at hv ⊢
 exact hv.2
theorem Lc {w:World} {F:Nat→Nat} {Θ:Ty} {v0 v:Value} {s:Sh} {es:List DD} {bs:List Nat} (h:rv w F Θ (.mb v0 s es) v bs) (hn:0<es.length):v=v0∧∃r,bs=IH v0::r∧rms w F s es v (IH v0::r):=by
 simp only[rv] at h
 obtain⟨rfl,h⟩:=h
 have h0:=h
 obtain⟨-, -,a2,cap,e, -, -, -,g⟩:=h
 rcases g with ⟨-,g, -⟩|⟨b,r,cur,ty,g1,g2, -⟩
 ·subst g;simp at hn
 ·have hb:IH v=b:=by rw[e,g1];rfl
  rw[hb]
  exact⟨rfl,r,g2,by rw[←g2];exact h0⟩
end
section
variable {c:Cx} {o:Oper} {S:St}
theorem Gk {a:Act} {t:Nat}:a.put (some t) (a.tmps.getD t undef)=a:=by
 unfold Act.put
 have:a.tmps.setIfInBounds t (a.tmps.getD t undef)=a.tmps:=by
  refine Array.ext_getElem? fun i=> ?_
  rw[Array.getElem?_setIfInBounds]
  by_cases e:t=i
  ·subst e
   by_cases h:t<a.tmps.size
   ·simp[h]
   ·simp[h]
  ·rw[if_neg e]
 show(⟨a.tmps.setIfInBounds t (a.tmps.getD t undef),a.defers⟩:Act)=a
 rw[this]
theorem Xa (hd:∀k,o.dst=some k→k<S.n) (T:Nat) (x:Operand) (i:Operand) (ho:o.op=.indexAddr T x i) (ti:TI) (e:Nat) (s:Sh) (ht:c.ty T=some ti) (hk:ti.kd=.sl e s) {v0:Value} (hx:evT c T S x=.pv v0) (ox:okO c T x) {m:Nat} (hv:SlV v0 m) (k:IntKind) (n:Int) (hi:evT c 0 S i=.d (.lf (.int k n))) (oi:okO c 0 i) (h0:0≤n) (hn:n.toNat<m):
  Snd c o S ⟨S.n,B0 S.tm o.dst (.mp (IH v0) s n.toNat []),S.hp⟩:=by
 intro w F Θ own a hR
 obtain⟨e2, -⟩:=CN hR hi oi
 have hvx:=BT hR ox
 rw[hx] at hvx
 simp only[rv] at hvx
 obtain⟨-,e1⟩:=hvx
 obtain⟨a',cap,g1,g2, -⟩:=hv
 have g2:=g2 (by omega)
 generalize IH v0=b at g2 ⊢
 subst g2
 have hd2:=(c.ok T ti ht).kd
 rw[hk] at hd2
 obtain⟨-, -,hu,j,hj,hjs⟩:=hd2
 have e3:a.eval x=.slice (some ⟨b,0,none⟩) m cap:=e1.trans g1
 have hrun:(execOp a.eval o).run c.P w=.ok (.value (.pointer (some ⟨b,n.toNat*s.w,none⟩))) w:=by
  unfold execOp
  have hlt:0≤n∧n<(m:Int):=⟨h0,by omega⟩
  simp[ho,e3,e2,Go.Instr.indexAt,asIntOf,run_underlying hu,hlt,sizeOf,typeInfo,hj,hjs,Addr.add_lit]
 obtain⟨own',g1,g2⟩:=hR.pure o.dst hd [] List.nodup_nil (.mp b s n.toNat []) _ (by simp only[List.flatMap_nil,rv];exact⟨trivial,0,by cases s<;>rfl,rfl⟩)
 exact⟨_,w,F,Θ,own',.inl hrun,g1,g2⟩
theorem UB (hd:∀k,o.dst=some k→k<S.n) (T:Nat) (x:Operand) (ho:o.op=.call { callee:=.builtin .len,args:= #[x],argTypes:= #[T] }) {v0:Value} (hx:evT c T S x=.pv v0) (ox:okO c T x) {m:Nat} (hv:SlV v0 m) (ti:TI) (e:Nat) (s':Sh) (ht:c.ty T=some ti) (hk:ti.kd=.sl e s'):Snd c o S ⟨S.n,B0 S.tm o.dst (.d (.lf (.int .i64 (m:Int)))),S.hp⟩:=by
 intro w F Θ own a hR
 have hvx:=BT hR ox
 rw[hx] at hvx
 simp only[rv] at hvx
 obtain⟨-,e1⟩:=hvx
 obtain⟨a',cap,g1, -,hm⟩:=hv
 have hd2:=(c.ok T ti ht).kd
 rw[hk] at hd2
 obtain⟨-, -,hu, -⟩:=hd2
 unfold maxLen at hm
 have e3:a.eval x=.slice a' m cap:=e1.trans g1
 have hrun:(execOp a.eval o).run c.P w=.ok (.value (.int .i64 (m:Int))) w:=by
  unfold execOp
  simp[ho,e3,resolve,invoke,builtin,Builtin.len_,run_underlying hu,goInt]
 obtain⟨own',g1,g2⟩:=hR.pure o.dst hd [] List.nodup_nil (.d (.lf (.int .i64 (m:Int)))) _ (Dp (by simp[BL,IntKind.min,IntKind.max,IntKind.bits,IntKind.signed];omega))
 exact⟨_,w,F,Θ,own',.inl hrun,g1,g2⟩
theorem UC (hd:∀k,o.dst=some k→k<S.n) (T i:Nat) (x:Operand) (ho:o.op=.fieldAddr T x i) (ti:TI) (fl:List (Nat×Sh)) (ht:c.ty T=some ti) (hk:ti.kd=.st fl) {b j:Nat} {s:Sh} {p:List Nat} (hx:evT c 0 S x=.mp b s j p) (ox:okO c 0 x)
  (hp:∀off,C8 s p=some off→C8 s (p++[i])=some (off+Sh.ws ((fl.map Prod.snd).take i))) (hi:i<fl.length):Snd c o S ⟨S.n,B0 S.tm o.dst (.mp b s j (p++[i])),S.hp⟩:=by
 intro w F Θ own a hR
 have hv:=BT (T:=0) hR ox
 rw[hx] at hv
 simp only[rv] at hv
 obtain⟨-,off,e2,e3⟩:=hv
 have hd2:=(c.ok T ti ht).kd
 rw[hk] at hd2
 obtain⟨hsh,fs',hu,hsz,hfl⟩:=hd2
 obtain⟨f,g1,g2,g3,g4,⟨jj,g5,g6⟩, -⟩:=hfl i fl[i].1 fl[i].2 (List.getElem?_eq_getElem hi)
 have hrun:(execOp a.eval o).run c.P w=.ok (.value (.pointer (some ⟨b,j*s.w+(off+f.offset),none⟩))) w:=by
  unfold execOp
  have hne:¬jj.size=0:=by omega
  simp[ho,e3,Go.Instr.fieldAt,run_underlying hu,g1,Go.Instr.sureAddr,fieldPlace,sizeOf,typeInfo,g2,g5,hne,Addr.add_lit,Nat.add_assoc]
 obtain⟨own',k1,k2⟩:=hR.pure o.dst hd [] List.nodup_nil (.mp b s j (p++[i])) _ (by simp only[List.flatMap_nil,rv];exact⟨trivial,off+f.offset,by rw[hp off e2,g3],rfl⟩)
 exact⟨_,w,F,Θ,own',.inl hrun,k1,k2⟩
theorem Rv (hd:∀k,o.dst=some k→k<S.n) (T:Nat) (x:Operand) (ho:o.op=.load T x) (ti:TI) (ht:c.ty T=some ti) (ox:okO c 0 x) {b j t:Nat} {v0:Value} {s:Sh} {p:List Nat} {es:List DD} (hx:evT c 0 S x=.mp b s j p) (hm:S.tm t=.mb v0 s es) (hbv:b=IH v0) (hj:j<es.length) (hr:(D8 es[j] p).sh=ti.sh):
  Snd c o S ⟨S.n,B0 S.tm o.dst (.d (D8 es[j] p).vw),S.hp⟩:=by
 intro w F Θ own a hR
 have hT:=c.ok T ti ht
 have hv:=BT (T:=0) hR ox
 rw[hx] at hv
 simp only[rv] at hv
 obtain⟨-,off,e2,e3⟩:=hv
 have hb:=hR.tm t
 rw[hm] at hb
 obtain⟨-,r,hb0,hb⟩:=Lc hb (by omega)
 rw[←hbv] at hb
 obtain⟨hs,hp,a',cap,e1,h1,h2,h3,h4⟩:=hb
 rcases h4 with ⟨h4, -, -⟩|⟨b',r',cur,ty,rfl,h5,h6,h7, -⟩
 ·simp at h4
 simp only[List.cons.injEq] at h5
 obtain⟨rfl,rfl⟩:=h5
 obtain⟨cs,bk,g1,g2, -⟩:=rpE.get es 0 r hs h7 j es[j] (List.getElem?_eq_getElem hj)
 have hsh:(es[j]).sh=s:=hs _ (gm hj)
 obtain⟨c1,ce,c2,b1,be,b2,rfl, -,k1,k2, -⟩:=rp.focus p es[j] cs bk g2 off (by rw[hsh];exact e2)
 have hc:Cf w b (j*s.w+off) ce:=fun q u hu=>by
  have:=g1 (c1.length+q) u (by rw[List.getElem?_append_right (by omega)];simp;rw[List.getElem?_append_left (List.getElem?_eq_some_iff.1 hu).1];exact hu)
  rw[k1] at this
  rw[show j*s.w+off+q=0+j*s.w+(off+q) by omega];exact this
 have hrun:(execOp a.eval o).run c.P w=.ok (.value ((D8 es[j] p).mk ce)) w:=by
  unfold execOp
  simp[ho,e3,Go.Instr.loadAt,Go.Instr.sureAddr,De hT hc k2 hr]
 obtain⟨own',m1,m2⟩:=hR.pure o.dst hd [] List.nodup_nil (.d (D8 es[j] p).vw) _ (by simp only[List.flatMap_nil,rv];exact⟨ce,rp.view _ _ _ k2,by rw[DD.mk_vw]⟩)
 exact⟨_,w,F,Θ,own',.inl hrun,m1,m2⟩
theorem Q0 {z:DD} (hz:z.ow):∀(p:List Nat) (d:DD),d.ow→(Dd d p z).ow
 |[],d,_=>by simpa only[Dd] using hz
 |i::p,.lf v,h=>by simpa only[Dd] using h
 |i::p,.sl o s es,h=>by simpa only[Dd] using h
 |i::p,.st l,h=>by
  simp only[Dd,DD.ow] at h ⊢
  rw[DD.ows_iff] at h ⊢
  intro d hd
  rcases List.mem_or_eq_of_mem_set hd with hd|rfl
  ·exact h d hd
  ·refine Q0 hz p _ ?_
   rw[List.getD_eq_getElem?_getD]
   cases hq:l[i]? with
   |none=>trivial
   |some e=>exact h e (List.mem_of_getElem? hq)
theorem SH {α:Type} {p e s y:List α} (h:(p++(e++s)).Nodup) (hy:y.Nodup) (hd:∀q∈y,q∉p++(e++s)):(p++(y++s)).Nodup:=by
 have h1:=List.nodup_append.1 h
 have h2:=List.nodup_append.1 h1.2.1
 refine List.nodup_append.2 ⟨h1.1,List.nodup_append.2 ⟨hy,h2.2.1,fun a ha b hb e=> ?_⟩,fun a ha b hb e=> ?_⟩
 ·subst e;exact hd a ha (List.mem_append_right _ (List.mem_append_right _ hb))
 ·subst e
  rcases List.mem_append.1 hb with hb|hb
  ·exact hd a hb (List.mem_append_left _ ha)
  ·exact h1.2.2 a ha a (List.mem_append_right _ hb) rfl
theorem OQ (hd:o.dst=none) (T:Nat) (x y:Operand) (ho:o.op=.store T x y) (ti:TI) (ht:c.ty T=some ti) (ox:okO c 0 x) (oy:okO c T y) {b j t:Nat} {v0:Value} {s:Sh} {p:List Nat} {es:List DD} (hx:evT c 0 S x=.mp b s j p) (hm:S.tm t=.mb v0 s es) (hbv:b=IH v0) (hj:j<es.length) {z:DD} (hy:tkT c T S y=.d z)
  (hr:(D8 es[j] p).sh=ti.sh) (hz:z.sh=ti.sh) (hzo:z.ow) (hes:DD.ows es) (hty:t∉tmO y) (htn:t<S.n):Snd c o S ⟨S.n,upd (BB S.tm (t::tmO y)) t (.mb v0 s (es.set j (Dd es[j] p z))),S.hp⟩:=by
 intro w F Θ own a hR
 have hT:=c.ok T ti ht
 have hv:=BT (T:=0) hR ox
 rw[hx] at hv
 simp only[rv] at hv
 obtain⟨-,off,e2,e3⟩:=hv
 have hb:=hR.tm t
 rw[hm] at hb
 obtain⟨hv0,r,hbo,hb⟩:=Lc hb (by omega)
 rw[←hbv] at hb hbo
 obtain⟨hs,hp,a',cap,e1,h1,h2,h3,h4⟩:=hb
 rcases h4 with ⟨h4, -, -⟩|⟨b',r',cur,ty,rfl,h5,h6,h7,h8,h9⟩
 ·simp at h4
 simp only[List.cons.injEq] at h5
 obtain⟨rfl,rfl⟩:=h5
 have hyv:=Ga hR oy
 rw[hy] at hyv
 simp only[rv] at hyv
 obtain⟨cz,hyv,ey⟩:=hyv
 have hcz:=rp.length _ _ _ hyv
 have hown:(own (.t t)).Nodup:=hR.nd _
 have hbn:b∉r:=by rw[hbo] at hown;exact(List.nodup_cons.1 hown).1
 have hyl:∀q∈(tmO y).flatMap fun t=>own (.t t),∃u∈tmO y,q∈own (.t u):=fun q hq=>by obtain⟨u,hu,h⟩:=List.mem_flatMap.1 hq;exact⟨u,hu,h⟩
 have hyt:∀q∈(tmO y).flatMap fun t=>own (.t t),q∉own (.t t):=fun q hq h=>by
  obtain⟨u,hu,h'⟩:=hyl q hq
  exact hR.dj (.t u) (.t t) (fun e=>hty (by cases e;exact hu)) q h' h
 -- the row's cells
 obtain⟨xs,g1,g2⟩:=rpE.toS es 0 r h7
 have hxl:=rpS.length es xs r g2
 rw[DD.shs_eq,Sh.ws_map es hs] at hxl
 obtain⟨c1,ce,c2,b1,be,b2,rfl,rfl,k1,k2,k3⟩:=rpS.focus es xs r g2 j es[j] (List.getElem?_eq_getElem hj)
 have hsh:(es[j]).sh=s:=hs _ (gm hj)
 obtain⟨d1,de,d2,q1,qe,q2,rfl,rfl,m1,m2,m3⟩:=rp.focus p es[j] ce be k2 off (by rw[hsh];exact e2)
 obtain⟨n1,n2⟩:=m3 z cz _ (hz.trans hr.symm) hyv
 have n3:=k3 _ _ _ n1
 have hk1:c1.length=j*s.w:=by
  rw[k1,DD.shs_eq, ←List.map_take,Sh.ws_map _ (fun d hd=>hs d (List.mem_of_mem_take hd)),List.length_take]
  congr 1;omega
 have hde:de.length=cz.length:=by rw[rp.length _ _ _ m2,hcz,hr,hz]
 have hcap:es.length*s.w≤cap*s.w:=Nat.mul_le_mul_right _ h1
 have hsz:(j*s.w+off)+cz.length≤cur.size:=by
  have:c1.length+(d1.length+de.length)≤es.length*s.w:=by rw[←hxl];simp
  omega
 let arr:=(cur.toList.take (j*s.w+off)++cz++cur.toList.drop (j*s.w+off+cz.length))
 have hks:Ks w F (w.setRow b arr.toArray) F (fun x=>x=b):=JL h8 h6
 have hrun:(execOp a.eval o).run c.P w=.ok .skip (w.setRow b arr.toArray):=by
  unfold execOp
  have hmk:(a.eval y).cells=cz.toArray:=by rw[ey];exact EA hyv
  have:=Gf (c:=c) hT (a.eval y) hmk (by rw[hcz,hz]) (rp.one _ _ _ hyv) h8 (off:=j*s.w+off) hsz
  simp only[ho,e3,Go.Instr.storeAt,Go.Instr.sureAddr,Sem.run_bind,Sem.run_pure,Result.andThen_ok,this]
  rfl
 have hat:=setRow_heap w b cur arr.toArray ty (0,0) h8
 have hnew:∀d∈es.set j (Dd es[j] p z),d.sh=s:=fun d hd=>by
  rcases List.mem_or_eq_of_mem_set hd with hd|rfl
  ·exact hs d hd
  ·rw[n2,hsh]
 have hnow:DD.ows (es.set j (Dd es[j] p z)):=by
  rw[DD.ows_iff] at hes ⊢
  intro d hd
  rcases List.mem_or_eq_of_mem_set hd with hd|rfl
  ·exact hes d hd
  ·exact Q0 hzo p _ (hes _ (gm hj))
 have sub:∀q∈b1++((q1++((tmO y).flatMap (fun t=>own (.t t))++q2))++b2),q∈b1++((q1++(qe++q2))++b2)∨q∈(tmO y).flatMap fun t=>own (.t t):=fun q hq=>by
  simp only[List.mem_append] at hq ⊢
  rcases hq with h|(h|h|h)|h
  ·exact .inl (.inl h)
  ·exact .inl (.inr (.inl (.inl h)))
  ·exact .inr h
  ·exact .inl (.inr (.inl (.inr (.inr h))))
  ·exact .inl (.inr (.inr h))
 have hbq:∀q∈b1++((q1++((tmO y).flatMap (fun t=>own (.t t))++q2))++b2),q≠b:=fun q hq e=>by
  subst e
  rcases sub q hq with h|h
  ·exact hbn h
  ·exact hyt q h (by rw[hbo];simp)
 have hlt:∀q∈b1++((q1++((tmO y).flatMap (fun t=>own (.t t))++q2))++b2),q<w.heap.size:=fun q hq=>by
  rcases sub q hq with h|h
  ·exact hR.lt (.t t) q (by rw[hbo];exact List.mem_cons_of_mem _ h)
  ·obtain⟨u, -,h'⟩:=hyl q h;exact hR.lt _ q h'
 have hS2:=rpS.keepO _ _ _ n3 hnow (fun q hq=>hks.out q (hlt q hq) (hbq q hq))
 have hnd:(b::(b1++((q1++((tmO y).flatMap (fun t=>own (.t t))++q2))++b2))).Nodup:=by
  refine List.nodup_cons.2 ⟨fun h=>hbq b h rfl,?_⟩
  rw[hbo] at hown
  have h0:=(List.nodup_cons.1 hown).2
  have hyn:((tmO y).flatMap fun t=>own (.t t)).Nodup:=by
   refine List.pairwise_flatMap.2 ⟨fun t _=>hR.nd _,?_⟩
   cases y<;>simp[tmO]
  have hdj:∀q∈(tmO y).flatMap (fun t=>own (.t t)),q∉b1++((q1++(qe++q2))++b2):=fun q hq h=>hyt q hq (by rw[hbo];exact List.mem_cons_of_mem _ h)
  have e1:∀X:List Nat,b1++((q1++(X++q2))++b2)=(b1++q1)++(X++(q2++b2)):=fun X=>by simp
  rw[e1] at h0 ⊢
  rw[e1] at hdj
  exact SH h0 hyn hdj
 obtain⟨own',w1,w2⟩:=hR.fin (w':=w.setRow b arr.toArray) (F':=F) (some t) (fun k hk=>by cases hk;exact htn) (t::tmO y) (.mb v0 s (es.set j (Dd es[j] p z))) (a.tmps.getD t undef) (b::(b1++((q1++((tmO y).flatMap (fun t=>own (.t t))++q2))++b2)))
  ⟨hks.os,hks.tape,hks.output,hks.size,hks.cell,hks.mono,fun q hq hne=>hks.out q hq (fun e=>hne ⟨t,by simp,by rw[hbo,e];simp⟩)⟩ (fun q hq=>hR.top q (by rw[size_setRow] at hq;exact hq))
  (by
   simp only[rv]
   refine⟨hv0,hnew,hp,_,cap,by rw[List.length_set];exact e1,by rw[List.length_set];exact h1,h2,h3,.inr ⟨b,_,arr.toArray,ty,rfl,rfl,h6,?_,hat,?_⟩⟩
   ·refine rpS.toE _ _ 0 _ hS2 fun q u hu=> ?_
    rw[cell_of_row _ _ _ _ ty (0,0) hat,Nat.zero_add]
    simp only[List.getElem?_toArray]
    have old:∀q u,(c1++((d1++(de++d2))++c2))[q]? =some u→cur.toList[q]? =some u:=fun q u hu=>by
     have:=g1 q u hu
     rw[cell_of_row w _ _ _ ty (0,0) h8,Nat.zero_add] at this
     rw[Array.getElem?_toList];exact this
    show(cur.toList.take (j*s.w+off)++cz++cur.toList.drop (j*s.w+off+cz.length))[q]? =some u
    have hpl:(c1++d1).length=j*s.w+off:=by simp[hk1,m1]
    have htk:cur.toList.take (j*s.w+off)=c1++d1:=by
     refine List.ext_getElem? fun i=> ?_
     rw[List.getElem?_take]
     split
     ·rename_i hi
      have hi2:i<(c1++d1).length:=by omega
      have:=old i (c1++d1)[i] (by rw[show c1++((d1++(de++d2))++c2)=(c1++d1)++(de++(d2++c2)) by simp,List.getElem?_append_left hi2,List.getElem?_eq_getElem hi2])
      rw[this,List.getElem?_eq_getElem hi2]
     ·rename_i hi
      rw[List.getElem?_eq_none (by omega)]
    rw[htk]
    rw[show c1++((d1++(cz++d2))++c2)=(c1++d1)++cz++(d2++c2) by simp] at hu
    by_cases hq:q<((c1++d1)++cz).length
    ·rw[List.getElem?_append_left hq] at hu ⊢;exact hu
    ·rw[List.getElem?_append_right (by omega)] at hu ⊢
     rw[List.getElem?_drop]
     have hl3:((c1++d1)++cz).length=j*s.w+off+cz.length:=by rw[List.length_append,hpl]
     rw[hl3] at hu ⊢
     have := old q u (by
      rw[show c1++((d1++(de++d2))++c2)=((c1++d1)++de)++(d2++c2) by simp,List.getElem?_append_right (by rw[List.length_append,hpl,hde];omega),List.length_append,hpl,hde];exact hu)
     rw[show j*s.w+off+cz.length+(q - (j*s.w+off+cz.length))=q by omega];exact this
   ·simp only[arr,List.size_toArray,List.length_append,List.length_take,List.length_drop,Array.length_toList]
    omega)
  hnd (fun q hq => by
   left
   rcases List.mem_cons.1 hq with rfl|hq
   ·exact⟨t,by simp,by rw[hbo];simp⟩
   ·rcases sub q hq with h|h
    ·exact⟨t,by simp,by rw[hbo];exact List.mem_cons_of_mem _ h⟩
    ·obtain ⟨u, hu, h'⟩ := hyl q h; exact ⟨u, List.mem_cons_of_mem _ hu, h'⟩) (fun q hq => by
   rw[size_setRow]
   rcases List.mem_cons.1 hq with rfl|hq
   ·exact hR.lt (.t t) q (by rw[hbo];simp)
   ·exact hlt q hq)
 rw[Gk] at w1
 refine⟨undef,_,F,Θ,own',.inr ⟨rfl,hrun⟩,?_,w2⟩
 rw[hd]
 exact w1
theorem Ms (hd:∀k,o.dst=some k→k<S.n) (T x:Nat) (y:Operand) (ho:o.op=.call { callee:=.builtin .append,args:= #[.tmp x,y],argTypes:= #[T,T] }) (hxy:x∉tmO y) (ti te:TI) (e:Nat) (s:Sh) (ht:c.ty T=some ti) (hk:ti.kd=.sl e s)
  (hte:c.ty e=some te) (hts:te.sh=s) (oy:okO c T y) (es ys:List DD) (ob:Bool) (hx:S.tm x=.ms s es) (hy:tkT c T S y=.d (.sl ob s ys)) (hes:DD.ows es) (hys:DD.ows ys)
  (hm:es.length+ys.length≤maxLen) (hby:(es.length+ys.length)*te.bytes≤140737488355328):Snd c o S ⟨S.n,B0 (BB S.tm (x::tmO y)) o.dst (.ms s (es++ys)),S.hp⟩:=by
 intro w F Θ own a hR
 have hT:=c.ok T ti ht
 have hE:=c.ok e te hte
 obtain⟨ii,hi1,hi2,hi3,hi4⟩:=hE.info
 have hkd:=hT.kd
 rw[hk] at hkd
 obtain⟨-,h0,hu, -⟩:=hkd
 have hvx:=hR.tm x
 rw[hx] at hvx
 simp only[rv] at hvx
 obtain⟨F1,h1,h2,h3⟩:=hvx.sl (hR.nd _)
 have hvy:=Ga hR oy
 rw[hy] at hvy
 simp only[rv] at hvy
 obtain⟨cy,hvy,ey⟩:=hvy
 have hhd:∀q,q∈(own (.t x)).head? →q∈own (.t x):=fun q hq=>List.mem_of_mem_head? hq
 have mono:∀b,F b≤F1 b:=fun b=>by
  by_cases e:b∈(own (.t x)).head?
  ·rw[(h3 b e).1];exact Nat.zero_le _
  ·rw[h2 b e];exact Nat.le_refl _
 have hyx:∀q∈(tmO y).flatMap fun t=>own (.t t),q∉own (.t x):=fun q hq h=>by
  obtain⟨u,hu,h'⟩:=List.mem_flatMap.1 hq
  exact hR.dj (.t u) (.t x) (fun e=>hxy (by cases e;exact hu)) q h' h
 have hvy1:rp w F1 (.sl ob s ys) cy ((tmO y).flatMap fun t=>own (.t t)):=rp.keep _ _ _ hvy ⟨fun _ _ _=>rfl,mono,fun b hb=>⟨rfl,h2 b (fun e=>hyx b hb (hhd b e))⟩⟩
 have gy:∃vy,cy=[vy]∧a.eval y=vy:=by
  have h:=hvy
  simp only[rp] at h
  obtain⟨-, -,a',cap,rfl, -⟩:=h
  exact⟨_,rfl,ey⟩
 obtain⟨vy,rfl,ey'⟩:=gy
 have hyn:((tmO y).flatMap fun t=>own (.t t)).Nodup:=by
  refine List.pairwise_flatMap.2 ⟨fun t _=>hR.nd _,?_⟩
  cases y<;>simp[tmO]
 have hnd:(own (.t x)++(tmO y).flatMap fun t=>own (.t t)).Nodup:=List.nodup_append.2 ⟨hR.nd _,hyn,fun p hp q hq e=>by subst e;exact hyx p hq hp⟩
 have hsub:∀b,b∈own (.t x)++((tmO y).flatMap fun t=>own (.t t))→∃t∈x::tmO y,b∈own (.t t):=fun b hb=>by
  rcases List.mem_append.1 hb with h|h
  ·exact⟨x,by simp,h⟩
  ·obtain⟨u,hu,h'⟩:=List.mem_flatMap.1 h;exact⟨u,List.mem_cons_of_mem _ hu,h'⟩
 have htop1:∀b,w.heap.size≤b→F1 b=0:=fun b hb=>by rw[h2 b (fun e=>by have:=hR.lt _ b (hhd b e);omega)];exact hR.top b hb
 obtain⟨v',w',F2,bs,m1,m2,m3,m4,m5,m6,m7,m8⟩:=Kw (P:=c.P) T o.type e ii te.z te.zc hu hi1 (by rw[hi2,hts]) hi4 hE.z (by rw[hE.zs,hts]) h1 hvy1 hnd (fun b hb=>by obtain⟨t,_,q⟩:=hsub b hb;exact hR.lt _ b q) htop1 hm (by rw[hi3];exact hby)
 have hrun:(execOp a.eval o).run c.P w=.ok (.value v') w':=by
  unfold execOp
  have ex':a.eval (.tmp x)=a.tmps.getD x undef:=rfl
  simp only[ho,resolve,invoke,builtin,Sem.run_bind,Sem.run_pure,Result.andThen_ok,List.map_toArray,List.map_cons,List.map_nil,ex',ey',m1]
 -- the first block of the result is not frozen
 let F':Nat→Nat:=fun b=>if b∈bs.head? then 0 else F2 b
 have f0:∀b,b∈bs.head? →F' b=0:=fun b hb=>if_pos hb
 have f1:∀b,b∉bs.head? →F' b=F2 b:=fun b hb=>if_neg hb
 have hF0:∀b,b∈bs.head? →F b=0:=fun b hb=>by
  rcases m8 b hb with h|h
  ·exact(h3 b h).1
  ·exact hR.top b h
 have ks : Ks w F w' F' (fun b => ∃ t ∈ x :: tmO y, b ∈ own (.t t)) := ⟨m3.os, m3.tape, m3.output, m3.size, fun b q hq => m3.cell b q (Nat.lt_of_lt_of_le hq (mono b)), fun b => by
  by_cases e:b∈bs.head?
  ·rw[hF0 b e];exact Nat.zero_le _
  ·rw[f1 b e];exact Nat.le_trans (mono b) (m3.mono b),fun b hb hne=>by
   have g1:b∉own (.t x):=fun h=>hne ⟨x,by simp,h⟩
   have g2:=m3.out b hb g1
   have g3:b∉bs.head? :=fun h=>by
    rcases m8 b h with q|q
    ·exact g1 (hhd b q)
    ·omega
   exact⟨g2.1,(f1 b g3).trans (g2.2.trans (h2 b (fun e=>g1 (hhd b e))))⟩⟩
 obtain ⟨own', k1, k2⟩ := hR.fin (w' := w') (F' := F') o.dst hd (x :: tmO y) (.ms s (es ++ ys)) v' bs ks (fun b hb => by
   by_cases e:b∈bs.head?
   ·exact f0 b e
   ·rw[f1 b e];exact m7 b hb)
  (by
   simp only[rv]
   refine rms.of m2 ?_ m4 (fun q _ hq=>f1 q hq) f0
   rw[DD.ows_iff] at hes hys ⊢
   intro d hd
   rcases List.mem_append.1 hd with h|h
   ·exact hes d h
   ·exact hys d h) m4 (fun b hb=>by rcases m5 b hb with h|h;exact .inl (hsub b h);exact .inr h) m6
 exact⟨_,_,_,Θ,own',.inl hrun,k1,k2⟩
end
section
variable {α β γ:Type} [DecidableEq γ]
def Ex (f:β→Nat):List β→Nat
 |[]=>0
 |c::l=>f c+Ex f l
theorem Mq (f g:β→Nat):∀l:List β,Ex (fun c=>f c+g c) l=Ex f l+Ex g l
 |[]=>rfl
 |c::l=>by simp only[Ex,Mq f g l];omega
theorem Rr (l:List β):Ex (fun _:β=>0) l=0:=by induction l<;>simp_all [Ex]
theorem Mp (g:β→γ) (y:γ):∀l:List β,(l.map g).Nodup→Ex (fun c=>if y=g c then 1 else 0) l≤1
 |[],_=>by simp[Ex]
 |c::l,h=>by
  simp only[List.map_cons,List.nodup_cons] at h
  have ih:=Mp g y l h.2
  simp only[Ex]
  by_cases e:y=g c
  ·have:Ex (fun c=>if y=g c then 1 else 0) l=0:=by
    have:∀m:List β,(∀c∈m,y≠g c)→Ex (fun c=>if y=g c then 1 else 0) m=0:=by
     intro m;induction m with
     |nil=>intro _;rfl
     |cons d m ih=>intro hm;simp only[Ex];rw[if_neg (hm d (by simp)),ih (fun c hc=>hm c (by simp[hc]))]
    exact this l (fun d hd q=>h.1 (by rw[←e,q];exact List.mem_map_of_mem hd))
   rw[this,if_pos e];omega
  ·rw[if_neg e];omega
theorem Iy (g:β→γ) (f:α→γ) (cs:List β) (h:(cs.map g).Nodup):∀a:List α,Ex (fun c=>a.countP fun x=>decide (f x=g c)) cs≤a.length
 |[]=>by simp[Rr]
 |x::a=>by
  have ih:=Iy g f cs h a
  have h1:=Mp g (f x) cs h
  have e:(fun c=>(x::a).countP fun x=>decide (f x=g c))=fun c=>(a.countP fun x=>decide (f x=g c))+if f x=g c then 1 else 0:=by
   funext c;rw[List.countP_cons];simp
  rw[e,Mq,List.length_cons];omega
theorem Mo (f:β→Nat):∀l:List β,(∀c∈l,1≤f c)→Ex f l≤l.length→∀c∈l,f c=1
 |[],_,_,c,hc=>by simp at hc
 |d::l,h1,h2,c,hc=>by
  have hl:l.length≤Ex f l:=by
   have:∀m:List β,(∀c∈m,1≤f c)→m.length≤Ex f m:=by
    intro m;induction m with
    |nil=>intro _;simp
    |cons d m ih=>intro hm;simp only[Ex,List.length_cons];have:=hm d (by simp);have:=ih (fun c hc=>hm c (by simp[hc]));omega
   exact this l (fun c hc=>h1 c (by simp[hc]))
  simp only[Ex,List.length_cons] at h2
  have hd:=h1 d (by simp)
  rcases List.mem_cons.1 hc with rfl|hc
  ·omega
  ·exact Mo f l (fun c hc=>h1 c (by simp[hc])) (by omega) c hc
theorem VY (g:β→γ) (f:α→γ) (q:β→α→Bool) (cs:List β) (a:List α) (hn:(cs.map g).Nodup) (hl:a.length=cs.length):
  (∀c∈cs,(a.countP fun x=>decide (f x=g c) && q c x)=1)↔(∀c∈cs,∃x,a.find? (fun x=>decide (f x=g c))=some x∧q c x=true):=by
 have hs:=Iy g f cs hn a
 have one:(∀c∈cs,1≤a.countP fun x=>decide (f x=g c))→∀c∈cs,(a.countP fun x=>decide (f x=g c))=1:=fun h=>Mo _ cs h (by omega)
 constructor
 ·intro h c hc
  have h1 := one (fun d hd => by
   have:=h d hd
   have h2:(a.countP fun x=>decide (f x=g d) && q d x)≤a.countP fun x=>decide (f x=g d):=List.countP_mono_left (fun x _ hx=>by simp at hx ⊢;exact hx.1)
   omega) c hc
  cases hf:a.find? (fun x=>decide (f x=g c)) with
  |none=>
   rw[List.find?_eq_none] at hf
   have:(a.countP fun x=>decide (f x=g c))=0:=List.countP_eq_zero.2 (fun x hx=>hf x hx)
   omega
  |some x=>
   refine⟨x,rfl,?_⟩
   have h2:=h c hc
   -- the element that is counted
   obtain⟨y,hy,hy2⟩:=List.countP_pos_iff.1 (show 0<a.countP fun x=>decide (f x=g c) && q c x by omega)
   simp only[Bool.and_eq_true,decide_eq_true_eq] at hy2
   have key:∀l:List α,(l.countP fun x=>decide (f x=g c))≤1→y∈l→l.find? (fun x=>decide (f x=g c))=some x→x=y:=by
    intro l;induction l with
    |nil=>intro _ hy;simp at hy
    |cons z l ih=>
     intro hc1 hy hf
     rw[List.countP_cons] at hc1
     by_cases e:f z=g c
     ·rw[List.find?_cons_of_pos (by simpa using e)] at hf
      cases hf
      rcases List.mem_cons.1 hy with rfl|hy
      ·rfl
      ·have:0<l.countP fun x=>decide (f x=g c):=List.countP_pos_iff.2 ⟨y,hy,by simpa using hy2.1⟩
       simp[e] at hc1;have:=hc1 y hy;exact absurd hy2.1 this
     ·rw[List.find?_cons_of_neg (by simpa using e)] at hf
      rcases List.mem_cons.1 hy with rfl|hy
      ·exact absurd hy2.1 e
      ·exact ih (by simp[e] at hc1 ⊢;exact hc1) hy hf
   rw[key a (by omega) hy hf];exact hy2.2
 ·intro h c hc
  have h1 := one (fun d hd => by
   obtain⟨x,hx, -⟩:=h d hd
   have h2:=List.find?_some hx
   have h3:=List.mem_of_find?_eq_some hx
   exact List.countP_pos_iff.2 ⟨x,h3,h2⟩) c hc
  obtain⟨x,hx,hq⟩:=h c hc
  have h2:=List.find?_some hx
  have h3:=List.mem_of_find?_eq_some hx
  have h4:0<a.countP fun x=>decide (f x=g c) && q c x:=List.countP_pos_iff.2 ⟨x,h3,by simp only[h2,hq,Bool.and_self]⟩
  have h5:(a.countP fun x=>decide (f x=g c) && q c x)≤a.countP fun x=>decide (f x=g c):=List.countP_mono_left (fun x _ hx=>by simp at hx ⊢;exact hx.1)
  omega
end
theorem Zf {α:Type} {g:α→ByteArray} {s:ByteArray} {l:List α} {x:α} {i:Nat} (h:byN g s l=some (x,i)):x∈l:=by
 obtain⟨y,hy,k,h2⟩:=Dk h
 unfold byF at h2
 split at h2
 ·cases h2;exact hy
 ·cases h2
theorem cS (t:AS) (s:ByteArray):(siR t s).1.Al.length≤t.sz:=by
 unfold siR
 cases h:byN AC.A6 s t.AU with
 |none=>exact Nat.zero_le _
 |some x=>
  obtain⟨x,i⟩:=x
  have h1:=Ah AC.sz (Zf h)
  have h2:=x.sz_eq;have h3:=t.sz_eq
  unfold szs at h2 h3
  simp only[DW];omega
theorem Po {t:AS} (hz:t.sz≤134217728) (s:ByteArray):IntKind.i64.wrap (((siR t s).1.Al.length:Int)+1)=((siR t s).1.Al.length:Int)+1:=BF (by omega) (by have:=cS t s;omega)
