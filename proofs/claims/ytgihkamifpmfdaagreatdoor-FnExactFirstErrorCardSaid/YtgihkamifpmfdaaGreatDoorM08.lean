/- Part 08. No condition. -/
import Derived.Test.YtgihkamifpmfdaaGreatDoorM07
namespace Go.Proofs.YtgihkamifpmfdaaGreatDoor
open Go.RowKit
set_option linter.unusedVariables false
set_option linter.unusedSimpArgs false
mutual
def AV.npt (D:Nat→Prop):AV→Prop
 | .un=>True
 | .d _=>True
 | .pt lv k _=>lv=0→¬D k
 | .el _=>True
 | .rw lv k _=>lv=0→¬D k
 | .tp l=>AV.npts D l
 | .fn _ c=>AV.npts D c
 | .fr l=>AV.npts D l
 | .ep a=>a.npt D
 | .ms _ _=>True
 | .mb _ _ _=>True
 | .mp _ _ _ _=>True
 | .pv _=>True
 | .mt _=>True
 | .mn _ _=>True
def AV.npts (D:Nat→Prop):List AV→Prop
 |[]=>True
 |a::l=>a.npt D∧AV.npts D l
end
mutual
theorem AV.npt_up (D:Nat→Prop):∀a:AV,a.up.npt D
 | .un=>trivial
 | .d _=>trivial
 | .pt _ _ _=>by simp only[AV.up,AV.npt];intro h;omega
 | .el _=>trivial
 | .rw _ _ _=>by simp only[AV.up,AV.npt];intro h;omega
 | .tp l=>by simp only[AV.up,AV.npt];exact AV.npts_up D l
 | .fn _ c=>by simp only[AV.up,AV.npt];exact AV.npts_up D c
 | .fr l=>by simp only[AV.up,AV.npt];exact AV.npts_up D l
 | .ep a=>by simp only[AV.up,AV.npt];exact AV.npt_up D a
 | .ms _ _=>trivial
 | .mb _ _ _=>trivial
 | .mp _ _ _ _=>trivial
 | .pv _=>trivial
 | .mt _=>trivial
 | .mn _ _=>trivial
theorem AV.npts_up (D:Nat→Prop):∀l:List AV,AV.npts D (AV.ups l)
 |[]=>trivial
 |a::l=>by simp only[AV.ups,AV.npts];exact⟨AV.npt_up D a,AV.npts_up D l⟩
end
mutual
theorem rv.drop {w:World} {F:Nat→Nat} {Θ Θ':Ty} {D:Nat→Prop} (hT:∀lv q,¬(lv=0∧D q)→Θ' lv q=Θ lv q):∀(a:AV) (v:Value) (bs:List Nat),a.npt D→rv w F Θ a v bs→rv w F Θ' a v bs
 | .un,v,bs,_,h=>by simpa only[rv] using h
 | .d x,v,bs,_,h=>by simpa only[rv] using h
 | .pt lv k p,v,bs,n,h=>by
  simp only[AV.npt] at n
  simpa only[rv,hT lv k (fun ⟨h1,h2⟩=>n h1 h2)] using h
 | .el x,v,bs,_,h=>by simpa only[rv] using h
 | .rw lv k m,v,bs,n,h=>by
  simp only[AV.npt] at n
  simpa only[rv,hT lv k (fun ⟨h1,h2⟩=>n h1 h2)] using h
 | .tp l,v,bs,n,h=>by
  simp only[AV.npt] at n
  simp only[rv] at h ⊢
  obtain⟨vs,h1,h2⟩:=h
  exact⟨vs,h1,rvS.drop hT l vs bs n h2⟩
 | .fn f c,v,bs,n,h=>by
  simp only[AV.npt] at n
  simp only[rv] at h ⊢
  obtain⟨vs,h1,h2⟩:=h
  exact⟨vs,h1,rvS.drop hT c vs bs n h2⟩
 | .fr l,v,bs,n,h=>by
  simp only[AV.npt] at n
  simp only[rv] at h ⊢
  obtain⟨h0,b,vs,h1,h2,h3,h4,h5⟩:=h
  exact⟨h0,b,vs,h1,h2,h3,rvS.drop hT l vs [] n h4,h5⟩
 | .ep a,v,bs,n,h=>by
  simp only[AV.npt] at n
  simp only[rv] at h ⊢
  obtain⟨h0,b,off,u,h1,h2,h3,h4⟩:=h
  exact⟨h0,b,off,u,h1,h2,rv.drop hT a u [] n h3,h4⟩
 | .ms s l,v,bs,_,h=>by simpa only[rv] using h
 | .mb b s l,v,bs,_,h=>by simpa only[rv] using h
 | .mp _ _ _ _,v,bs,_,h=>by simpa only[rv] using h
 | .pv _,v,bs,_,h=>by simpa only[rv] using h
 | .mt _,v,bs,_,h=>by simpa only[rv] using h
 | .mn _ _,v,bs,_,h=>by simpa only[rv] using h
theorem rvS.drop {w:World} {F:Nat→Nat} {Θ Θ':Ty} {D:Nat→Prop} (hT:∀lv q,¬(lv=0∧D q)→Θ' lv q=Θ lv q):∀(l:List AV) (vs:List Value) (bs:List Nat),AV.npts D l→rvS w F Θ l vs bs→rvS w F Θ' l vs bs
 |[],vs,bs,_,h=>by simpa only[rvS] using h
 |a::l,vs,bs,n,h=>by
  simp only[AV.npts] at n
  simp only[rvS] at h ⊢
  obtain⟨v,r,b1,b2,h1,h2,h3,h4⟩:=h
  exact⟨v,r,b1,b2,h1,h2,rv.drop hT a v b1 n.1 h3,rvS.drop hT l r b2 n.2 h4⟩
end
theorem rc.drop {w:World} {F:Nat→Nat} {Θ Θ':Ty} {D:Nat→Prop} (hT:∀lv q,¬(lv=0∧D q)→Θ' lv q=Θ lv q) (c:AV) (cs:List Value) (bs:List Nat) (n:c.npt D) (h:rc w F Θ c cs bs):rc w F Θ' c cs bs:=by
 cases c<;>simp only[rc] at h ⊢
 case d x=>exact h
 all_goals
  obtain⟨v,h1,h2,h3⟩:=h
  exact⟨v,h1,h2,rv.drop hT _ _ _ n h3⟩
structure Wk (S S':St):Prop where
 n:S'.n=S.n
 tm:∀t,S'.tm t=S.tm t∨S'.tm t=.un
 hp:∀lv k,hpg S'.hp lv k=hpg S.hp lv k∨(lv=0∧hpg S'.hp lv k=none)
 nt:∀t,(S'.tm t).npt (fun k=>hpg S'.hp 0 k=none)
 nh:∀lv q cn,hpg S'.hp lv q=some cn→cn.npt (fun k=>hpg S'.hp 0 k=none)
theorem Rel.weak {w:World} {F:Nat→Nat} {Θ:Ty} {own:Who→List Nat} {S S':St} {a:Act} (h:Rel w F Θ own S a) (k:Wk S S'):∃Θ' own',Rel w F Θ' own' S' a∧Stp w F Θ own w F Θ' own':=by
 classical
 let Θ':Ty:=fun lv q=>if lv=0∧hpg S'.hp 0 q=none then none else Θ lv q
 have hT:∀lv q,¬(lv=0∧hpg S'.hp 0 q=none)→Θ' lv q=Θ lv q:=fun lv q hn=>if_neg hn
 let own':Who→List Nat:=fun x=>match x with
  | .t t=>if S'.tm t=S.tm t then own (.t t) else []
  | .h lv q=>if lv=0∧hpg S'.hp 0 q=none then [] else own (.h lv q)
  | .l lv q=>if lv=0∧hpg S'.hp 0 q=none then [] else own (.l lv q)
 have sub:∀x b,b∈own' x→b∈own x:=by
  intro x b hb
  cases x with
  |t t=>simp only[own'] at hb;split at hb;exact hb;simp at hb
  |h lv q=>simp only[own'] at hb;split at hb;simp at hb;exact hb
  |l lv q=>simp only[own'] at hb;split at hb;simp at hb;exact hb
 refine⟨Θ',own',⟨h.n.trans k.n.symm,h.df,fun t=> ?_,fun lv q hq=> ?_,fun lv q cn hq=> ?_,fun x=> ?_,fun x y hxy b hx hy=>h.dj x y hxy b (sub x b hx) (sub y b hy),fun x b hb=>h.lt x b (sub x b hb),h.top,h.gl⟩,⟨Ks.refl _ _ _,fun x b hb=> .inl ⟨x,sub x b hb⟩,fun lv q=> ?_⟩⟩
 ·have hn:=k.nt t
  by_cases e:S'.tm t=S.tm t
  ·have:own' (.t t)=own (.t t):=if_pos e
   rw[this]
   rw[e] at hn ⊢
   exact rv.drop hT _ _ _ hn (h.tm t)
  ·have:own' (.t t)=[]:=if_neg e
   rw[this,(k.tm t).resolve_left e]
   simp only[rv]
 ·by_cases e:lv=0∧hpg S'.hp 0 q=none
  ·exact⟨if_pos e,if_pos e,if_pos e⟩
  ·have:hpg S.hp lv q=none:=by
    rcases k.hp lv q with e1|⟨rfl,e1⟩
    ·rw[←e1];exact hq
    ·exact absurd ⟨rfl,e1⟩ e
   obtain⟨h1,h2,h3⟩:=h.hn lv q this
   exact⟨(if_neg e).trans h1,(if_neg e).trans h2,(if_neg e).trans h3⟩
 ·have e:¬(lv=0∧hpg S'.hp 0 q=none):=by
   rintro ⟨rfl,e⟩
   rw[hq] at e;cases e
  have:hpg S.hp lv q=some cn:=by
   rcases k.hp lv q with e1|⟨rfl,e1⟩
   ·rw[←e1];exact hq
   ·exact absurd ⟨rfl,e1⟩ e
  obtain⟨b,s,cur,t,h1,h2,h3,h4,h5,h6⟩:=h.hs lv q cn this
  exact ⟨b, s, cur, t, (if_neg e).trans h1, (if_neg e).trans h2, h3, h4, h5, by
   have:own' (.h lv q)=own (.h lv q):=if_neg e
   rw[this]
   exact rc.drop hT _ _ _ (k.nh lv q cn hq) h6⟩
 ·cases x with
  |t t=>show(if _ then _ else _:List Nat).Nodup;split;exact h.nd _;exact List.nodup_nil
  |h lv q=>show(if _ then _ else _:List Nat).Nodup;split;exact List.nodup_nil;exact h.nd _
  |l lv q=>show(if _ then _ else _:List Nat).Nodup;split;exact List.nodup_nil;exact h.nd _
 ·exact if_neg (by simp)
theorem W.weak {c:Cx} {code:Code} {S S':St} {Q:Exit→St→Prop} (k:Wk S S') (h:W c code S' Q):W c code S Q:=fun w F Θ own a hR=>by
 obtain⟨Θ1,own1,h1,h2⟩:=hR.weak k
 exact wp_mono (h w F Θ1 own1 a h1) fun _ _ _ ⟨S2,F2,Θ2,own2,k1,k2,k3⟩=>⟨S2,F2,Θ2,own2,k1,k2,h2.trans k3⟩
theorem Rel.freeze {w:World} {F:Nat→Nat} {Θ:Ty} {own:Who→List Nat} {S:St} {a:Act} (h:Rel w F Θ own S a) (t k n:Nat) (ht:S.tm t=.rw 0 k n) (es:List DD) (hk:hpg S.hp 0 k=some (.d (.st es))) (s:Sh) (hsp:0<s.w) (hes:DD.shs es=List.replicate n s)
  (S':St) (hn:S'.n=S.n) (htm:∀u,u≠t→S'.tm u=S.tm u∨S'.tm u=.un) (ht':S'.tm t=.d (.sl true s es)) (hhp:∀lv q,¬(lv=0∧q=k)→hpg S'.hp lv q=hpg S.hp lv q) (hk':hpg S'.hp 0 k=none)
  (hnt:∀u,u≠t→(S'.tm u).npt (fun q=>q=k)) (hnh:∀lv q cn,hpg S'.hp lv q=some cn→cn.npt (fun q=>q=k)):∃F' Θ' own',Rel w F' Θ' own' S' a∧Stp w F Θ own w F' Θ' own':=by
 classical
 obtain⟨b,s0,cur,ty,z1,z2,z3,z4,z5,z6⟩:=h.hs 0 k _ hk
 have hvt:=h.tm t
 rw[ht] at hvt
 simp only[rv] at hvt
 obtain⟨ho,b',s1,y1,y2,y3,y4⟩:=hvt
 rw[z1] at y1
 simp only[Option.some.injEq,Prod.mk.injEq] at y1
 obtain⟨rfl,rfl⟩:=y1
 simp only[AV.csh,DD.sh,Option.some.injEq,Sh.st.injEq] at z4
 rw[hes] at z4
 have hlen:es.length=n:=by have:=congrArg List.length hes;rwa [DD.shs_eq,List.length_map,List.length_replicate] at this
 have hall:∀d∈es,d.sh=s:=fun d hd=>by
  have:d.sh∈DD.shs es:=by rw[DD.shs_eq];exact List.mem_map_of_mem hd
  rw[hes] at this
  exact(List.mem_replicate.1 this).2
 simp only[rc,rp] at z6
 have hcl:=rpS.length es _ _ z6
 rw[DD.shs_eq,Sh.ws_map es hall] at hcl
 have hs1:n=0∨s1=s:=by
  cases n with
  |zero=>exact .inl rfl
  |succ n=>right;rw[List.replicate_succ,List.replicate_succ] at z4;exact(List.cons.inj z4).1.symm
 let F':=upd F b (es.length*s.w)
 have hks:Ks w F w F' (fun x=>x=b):=by
  have e:w.setRow b cur=w:=setRow_self w b cur ty (0,0) z5
  have:=M2 (F:=F) (n:=es.length*s.w) (arr:=cur) z5 (by omega) (fun _ _=>rfl)
  rwa [e] at this
 let Θ':Ty:=fun lv q=>if lv=0∧q=k then none else Θ lv q
 have hT:∀lv q,¬(lv=0∧q=k)→Θ' lv q=Θ lv q:=fun lv q hn=>if_neg hn
 have hTT:∀lv q (x:Nat×Sh),Θ lv q=some x→Θ lv q=some x:=fun _ _ _ q=>q
 let own':Who→List Nat:=fun x=>match x with
  | .t u=>if u=t then (if s.w=0∨n=0 then [] else b::own (.h 0 k)) else if S'.tm u=S.tm u then own (.t u) else []
  | .h lv q=>if lv=0∧q=k then [] else own (.h lv q)
  | .l lv q=>if lv=0∧q=k then [] else own (.l lv q)
 have kp:∀x,x≠ .l 0 k→Kp w F w F' (own x):=fun x hx=>hks.kp (h.lt x) (fun q hq e=>h.dj (.l 0 k) x (Ne.symm hx) q (by rw[z2,e];simp) hq)
 have kp0:Kp w F w F' []:=hks.kp (by simp) (by simp)
 have src:∀x y,y∈own' x→(x=.t t∧(y=b∨y∈own (.h 0 k)))∨(x≠ .t t∧x≠ .h 0 k∧x≠ .l 0 k∧y∈own x):=by
  intro x y hy
  cases x with
  |t u=>
   simp only[own'] at hy
   split at hy
   ·rename_i e;subst e
    split at hy
    ·simp at hy
    ·exact .inl ⟨rfl,by simpa using hy⟩
   ·rename_i e
    split at hy
    ·exact .inr ⟨by simpa using e,by simp,by simp,hy⟩
    ·simp at hy
  |h lv q=>
   simp only[own'] at hy
   split at hy
   ·simp at hy
   ·rename_i e;exact .inr ⟨by simp,by simpa using e,by simp,hy⟩
  |l lv q=>
   simp only[own'] at hy
   split at hy
   ·simp at hy
   ·rename_i e;exact .inr ⟨by simp,by simp,by simpa using e,hy⟩
 have bh:b∉own (.h 0 k):=fun hb=>h.dj (.l 0 k) (.h 0 k) (by simp) b (by rw[z2];simp) hb
 refine⟨F',Θ',own',⟨h.n.trans hn.symm,h.df,fun u=> ?_,fun lv q hq=> ?_,fun lv q cn hq=> ?_,fun x=> ?_,fun x y hxy z hx hy=> ?_,fun x z hz=> ?_,fun z hz=> ?_,h.gl.ks hks⟩,⟨⟨rfl,rfl,rfl,Nat.le_refl _,hks.cell,hks.mono,fun z hz hne=>hks.out z hz (fun e=>hne ⟨.l 0 k,by rw[z2,e];simp⟩)⟩,fun x z hz=> ?_,fun lv q=>if_neg (by simp)⟩⟩
 ·by_cases hu:u=t
  ·subst hu
   rw[ht']
   simp only[rv]
   refine⟨[.slice (some ⟨b,0,none⟩) es.length es.length],?_,by rw[y2,hlen];rfl⟩
   have hou:own' (.t u)=if s.w=0∨n=0 then [] else b::own (.h 0 k):=if_pos rfl
   rw[hou]
   have hsw:0<s.w∨n=0:=by
    rcases hs1 with e|e
    ·exact .inr e
    ·subst e;exact .inl y3
   simp only[rp]
   refine⟨hall,hsp,_,_,rfl,Nat.le_refl _,by omega,by simp,?_⟩
   ·by_cases hn0:s.w=0∨n=0
    ·rw[if_pos hn0]
     left
     have:n=0:=by rcases hn0 with e|e;rcases hsw with e2|e2;omega;exact e2;exact e
     have hnil:es=[]:=List.length_eq_zero_iff.1 (by omega)
     exact⟨rfl,hnil,fun _=>by omega⟩
    ·rw[if_neg hn0]
     right
     have hk0:Kp w F w F' (own (.h 0 k)):=kp _ (by simp)
     refine⟨b,0,own (.h 0 k),rfl,rpS.toE es cur.toList 0 _ (rpS.keep es _ _ z6 hk0) (fun j u hu=> ?_),by show _≤upd F b _ b;rw[Aw];omega,.inr ⟨trivial,rfl,rfl,Aw _ _ _,cur,ty,z5,by simp at hcl;omega⟩⟩
     rw[cell_of_row w b _ cur ty (0,0) z5,Nat.zero_add]
     simpa using hu
  ·have hnp:=hnt u hu
   rcases htm u hu with e|e
   ·have:own' (.t u)=own (.t u):=by show(if _ then _ else if _ then _ else _)=_;rw[if_neg hu,if_pos e]
    rw[this]
    rw[e] at hnp ⊢
    exact rv.drop hT _ _ _ hnp (rv.keep hTT _ _ _ (h.tm u) (kp _ (by simp)))
   ·rw[e]
    by_cases e2:S'.tm u=S.tm u
    ·have:own' (.t u)=own (.t u):=by show(if _ then _ else if _ then _ else _)=_;rw[if_neg hu,if_pos e2]
     rw[this]
     have h3:=h.tm u
     rw[←e2,e] at h3
     simpa only[rv] using h3
    ·have:own' (.t u)=[]:=by show(if _ then _ else if _ then _ else _)=_;rw[if_neg hu,if_neg e2]
     rw[this]
     simp only[rv]
 ·by_cases e:lv=0∧q=k
  ·exact⟨if_pos e,if_pos e,if_pos e⟩
  ·rw[hhp lv q e] at hq
   obtain⟨h1,h2,h3⟩:=h.hn lv q hq
   exact⟨(if_neg e).trans h1,(if_neg e).trans h2,(if_neg e).trans h3⟩
 ·have e:¬(lv=0∧q=k):=by
   rintro ⟨rfl,rfl⟩
   rw[hk'] at hq;cases hq
  have hnp:=hnh lv q cn hq
  rw[hhp lv q e] at hq
  obtain⟨b2,s2,cur2,t2,h1,h2,h3,h4,h5,h6⟩:=h.hs lv q cn hq
  have hne:b2≠b:=fun e2=>h.dj (.l lv q) (.l 0 k) (by simpa using e) b2 (by rw[h2];simp) (by rw[z2,e2];simp)
  refine⟨b2,s2,cur2,t2,(if_neg e).trans h1,(if_neg e).trans h2,(BE _ _ hne).trans h3,h4,h5,?_⟩
  have:own' (.h lv q)=own (.h lv q):=if_neg e
  rw[this]
  exact rc.drop hT _ _ _ hnp (rc.keep hTT _ _ _ h6 (kp _ (by simp)))
 ·cases x with
  |t u=>
   show(if _ then (if _ then _ else _) else if _ then _ else _:List Nat).Nodup
   split
   ·split
    ·exact List.nodup_nil
    ·exact List.nodup_cons.2 ⟨bh,h.nd _⟩
   ·split
    ·exact h.nd _
    ·exact List.nodup_nil
  |h lv q=>show(if _ then _ else _:List Nat).Nodup;split;exact List.nodup_nil;exact h.nd _
  |l lv q=>show(if _ then _ else _:List Nat).Nodup;split;exact List.nodup_nil;exact h.nd _
 ·rcases src x z hx with ⟨rfl,g⟩|⟨g1,g2,g3,g4⟩<;>rcases src y z hy with ⟨rfl,k1⟩|⟨k1,k2,k3,k4⟩
  ·exact hxy rfl
  ·rcases g with rfl|g
   ·exact h.dj (.l 0 k) y (Ne.symm k3) z (by rw[z2];simp) k4
   ·exact h.dj (.h 0 k) y (Ne.symm k2) z g k4
  ·rcases k1 with rfl|k1
   ·exact h.dj (.l 0 k) x (Ne.symm g3) z (by rw[z2];simp) g4
   ·exact h.dj (.h 0 k) x (Ne.symm g2) z k1 g4
  ·exact h.dj x y hxy z g4 k4
 ·rcases src x z hz with ⟨rfl,rfl|g⟩|⟨g1,g2,g3,g4⟩
  ·exact h.lt (.l 0 k) z (by rw[z2];simp)
  ·exact h.lt _ z g
  ·exact h.lt _ z g4
 ·have hb:b<w.heap.size:=h.lt (.l 0 k) b (by rw[z2];simp)
  exact(BE _ _ (by omega)).trans (h.top z hz)
 ·left
  rcases src x z hz with ⟨rfl,rfl|g⟩|⟨g1,g2,g3,g4⟩
  ·exact⟨.l 0 k,by rw[z2];simp⟩
  ·exact⟨_,g⟩
  ·exact⟨_,g4⟩
def upH (h:HP):HP:=h.map fun f k=>(f k).map AV.up
theorem DM:∀(h:HP) (lv k:Nat),hpg (upH h) lv k=(hpg h lv k).map AV.up
 |[],lv,k=>rfl
 |f::h,0,k=>rfl
 |f::h,lv+1,k=>DM h lv k
mutual
theorem AV.nz_up:∀a:AV,a.up.nz
 | .un=>trivial
 | .d _=>trivial
 | .pt _ _ _=>Nat.succ_pos _
 | .el _=>trivial
 | .rw _ _ _=>Nat.succ_pos _
 | .tp l=>by simp only[AV.up,AV.nz];exact AV.nzs_up l
 | .fn _ c=>by simp only[AV.up,AV.nz];exact AV.nzs_up c
 | .fr l=>by simp only[AV.up,AV.nz];exact AV.nzs_up l
 | .ep a=>by simp only[AV.up,AV.nz];exact AV.nz_up a
 | .ms _ _=>trivial
 | .mb _ _ _=>trivial
 | .mp _ _ _ _=>trivial
 | .pv _=>trivial
 | .mt _=>trivial
 | .mn _ _=>trivial
theorem AV.nzs_up:∀l:List AV,AV.nzs (AV.ups l)
 |[]=>trivial
 |a::l=>by simp only[AV.ups,AV.nzs];exact⟨AV.nz_up a,AV.nzs_up l⟩
end
mutual
theorem AV.dn_up:∀a:AV,a.up.dn=a
 | .un=>rfl
 | .d _=>rfl
 | .pt _ _ _=>rfl
 | .el _=>rfl
 | .rw _ _ _=>rfl
 | .tp l=>by simp only[AV.up,AV.dn,AV.dns_up l]
 | .fn _ c=>by simp only[AV.up,AV.dn,AV.dns_up c]
 | .fr l=>by simp only[AV.up,AV.dn,AV.dns_up l]
 | .ep a=>by simp only[AV.up,AV.dn,AV.dn_up a]
 | .ms _ _=>rfl
 | .mb _ _ _=>rfl
 | .mp _ _ _ _=>rfl
 | .pv _=>rfl
 | .mt _=>rfl
 | .mn _ _=>rfl
theorem AV.dns_up:∀l:List AV,AV.dns (AV.ups l)=l
 |[]=>rfl
 |a::l=>by simp only[AV.ups,AV.dns,AV.dn_up a,AV.dns_up l]
end
theorem AV.csh_up (a:AV):a.up.csh=a.csh:=by cases a<;>rfl
theorem rc.push {w:World} {F:Nat→Nat} {Θ Θ':Ty} (hT:∀lv k,Θ' (lv+1) k=Θ lv k) (c:AV) (cs:List Value) (bs:List Nat) (h:rc w F Θ c cs bs):rc w F Θ' c.up cs bs:=by
 cases c<;>simp only[rc,AV.up] at h ⊢
 case d x=>exact h
 all_goals
  obtain⟨v,h1,h2,h3⟩:=h
  refine⟨v,h1,h2,?_⟩
  have:=rv.push hT _ _ _ h3
  simpa only[AV.up] using this
theorem rc.pop {w:World} {F:Nat→Nat} {Θ Θ':Ty} (hT:∀lv k,Θ' (lv+1) k=Θ lv k) (c:AV) (cs:List Value) (bs:List Nat) (h:rc w F Θ' c.up cs bs):rc w F Θ c cs bs:=by
 have key:∀a:AV,∀v,rv w F Θ' a.up v bs→rv w F Θ a v bs:=fun a v q=>by
  have:=rv.pop hT a.up v bs (AV.nz_up a) q
  rwa [AV.dn_up] at this
 cases c<;>simp only[rc,AV.up] at h ⊢
 case d x=>exact h
 all_goals
  obtain⟨v,h1,h2,h3⟩:=h
  refine⟨v,h1,h2,key _ v ?_⟩
  simpa only[AV.up] using h3
theorem Rel.push {w:World} {F:Nat→Nat} {Θ:Ty} {own:Who→List Nat} {args:List AV} {h:HP} {vs:List Value} (hR:Rel w F Θ own (Ck args h) ⟨vs.toArray,[]⟩) (n:Nat) (hn:args.length≤n):
  ∃own',Rel w F Θ.push own' ⟨n,fun t=>(args.getD t .un).up,(fun _=>none)::upH h⟩ ⟨vs.toArray++Array.replicate (n - vs.toArray.size) undef,[]⟩∧∀x b,b∈own' x→∃y,b∈own y:=by
 have hvl:vs.length=args.length:=by have:=hR.n;simpa[Ck] using this
 have hT:∀lv k,Θ.push (lv+1) k=Θ lv k:=fun _ _=>rfl
 let own':Who→List Nat:=fun
  | .t t=>own (.t t)
  | .h 0 _=>[]
  | .h (lv+1) k=>own (.h lv k)
  | .l 0 _=>[]
  | .l (lv+1) k=>own (.l lv k)
 have src:∀x b,b∈own' x→∃y,b∈own y∧(match x with| .t t=>y=.t t| .h (lv+1) k=>y=.h lv k| .l (lv+1) k=>y=.l lv k|_=>False):=by
  intro x b hb
  match x with
  | .t t=>exact⟨_,hb,rfl⟩
  | .h 0 _=>simp[own'] at hb
  | .h (lv+1) k=>exact⟨_,hb,rfl⟩
  | .l 0 _=>simp[own'] at hb
  | .l (lv+1) k=>exact⟨_,hb,rfl⟩
 refine⟨own',⟨?_,rfl,fun t=> ?_,fun lv k hq=> ?_,fun lv k cn hq=> ?_,fun x=> ?_,fun x y hxy b hx hy=> ?_,fun x b hb=> ?_,hR.top,hR.gl⟩,fun x b hb=>by obtain⟨y,h1, -⟩:=src x b hb;exact⟨y,h1⟩⟩
 ·simp;omega
 ·have h1:=rv.push hT _ _ _ (hR.tm t)
  have e:(vs.toArray++Array.replicate (n - vs.toArray.size) undef).getD t undef=vs.toArray.getD t undef:=by
   simp only[Array.getD_eq_getD_getElem?,Array.getElem?_append]
   split
   ·rfl
   ·rename_i hlt
    have:vs.toArray[t]? =none:=Array.getElem?_eq_none (by omega)
    rw[this,Array.getElem?_replicate]
    split<;>rfl
  rw[e]
  exact h1
 ·cases lv with
  |zero=>exact⟨rfl,rfl,rfl⟩
  |succ lv=>
   have:hpg h lv k=none:=by
    have hq':hpg (upH h) lv k=none:=hq
    rw[DM] at hq'
    cases hh:hpg h lv k with
    |none=>rfl
    |some v=>rw[hh] at hq';cases hq'
   exact hR.hn lv k this
 ·cases lv with
  |zero=>cases hq
  |succ lv=>
   have hq':hpg (upH h) lv k=some cn:=hq
   rw[DM] at hq'
   cases hh:hpg h lv k with
   |none=>rw[hh] at hq';cases hq'
   |some c0=>
    rw[hh] at hq'
    simp only[Option.map_some,Option.some.injEq] at hq'
    subst hq'
    obtain⟨b,s,cur,t,h1,h2,h3,h4,h5,h6⟩:=hR.hs lv k c0 hh
    exact⟨b,s,cur,t,h1,h2,h3,by rw[AV.csh_up];exact h4,h5,rc.push hT _ _ _ h6⟩
 ·match x with
  | .t t=>exact hR.nd _
  | .h 0 _=>exact List.nodup_nil
  | .h (lv+1) k=>exact hR.nd _
  | .l 0 _=>exact List.nodup_nil
  | .l (lv+1) k=>exact hR.nd _
 ·obtain⟨x',h1,h2⟩:=src x b hx
  obtain⟨y',g1,g2⟩:=src y b hy
  refine hR.dj x' y' (fun e=>hxy ?_) b h1 g1
  subst e
  match x,y with
  | .t t,.t u=>simp only at h2 g2;rw[h2] at g2;cases g2;rfl
  | .t t,.h (lv+1) k=>simp only at h2 g2;rw[h2] at g2;cases g2
  | .t t,.l (lv+1) k=>simp only at h2 g2;rw[h2] at g2;cases g2
  | .h (lv+1) k,.t u=>simp only at h2 g2;rw[h2] at g2;cases g2
  | .h (lv+1) k,.h (lv'+1) k'=>simp only at h2 g2;rw[h2] at g2;cases g2;rfl
  | .h (lv+1) k,.l (lv'+1) k'=>simp only at h2 g2;rw[h2] at g2;cases g2
  | .l (lv+1) k,.t u=>simp only at h2 g2;rw[h2] at g2;cases g2
  | .l (lv+1) k,.h (lv'+1) k'=>simp only at h2 g2;rw[h2] at g2;cases g2
  | .l (lv+1) k,.l (lv'+1) k'=>simp only at h2 g2;rw[h2] at g2;cases g2;rfl
 ·obtain⟨y,h1, -⟩:=src x b hb
  exact hR.lt y b h1
def JM (S:St):ResultVar→AV
 | .tmp t=>S.tm t
 | .cell t _=>match S.tm t with
  | .pt 0 k []=>(hpg S.hp 0 k).getD .un
  |_=> .un
def Fa (S:St):ResultVar→Who
 | .tmp t=> .t t
 | .cell t _=>match S.tm t with
  | .pt 0 k []=> .h 0 k
  |_=> .t t
def LN (c:Cx) (S:St):ResultVar→Prop
 | .tmp _=>True
 | .cell t T=>∃k y ti,S.tm t=.pt 0 k []∧hpg S.hp 0 k=some (.d y)∧c.ty T=some ti∧y.sh=ti.sh
theorem Z3 {c:Cx} {w:World} {F:Nat→Nat} {Θ:Ty} {own:Who→List Nat} {S:St} {a:Act} (h:Rel w F Θ own S a) (x:ResultVar) (hx:LN c S x):
  ∃v,(match x with| .tmp t=>pure (a.tmps.getD t undef)| .cell t T=>do loadVar T (←asAddr (a.tmps.getD t undef)):Sem Value).run c.P w=.ok v w∧rv w F Θ (JM S x) v (own (Fa S x)):=by
 cases x with
 |tmp t=>exact⟨_,rfl,h.tm t⟩
 |cell t T=>
  obtain⟨k,y,ti,h1,h2,h3,h4⟩:=hx
  have hv:=h.tm t
  rw[h1] at hv
  simp only[rv,EB] at hv
  obtain⟨-,b,s,off,e1,e2,e3⟩:=hv
  cases e2
  obtain⟨b',s',cur,ty,z1,z2,z3,z4,z5,z6⟩:=h.hs 0 k _ h2
  rw[e1] at z1
  cases z1
  simp only[rc] at z6
  have hc:CQ w b 0 cur.toList:=by
   intro j u hu
   rw[cell_of_row w b _ cur ty (0,0) z5]
   simpa using hu
  refine⟨y.mk cur.toList,?_,?_⟩
  ·have:=Dg (c:=c) (c.ok T ti h3) hc z6 h4
   simp only[Sem.run_bind]
   rw[e3]
   simp[asAddr,this]
  ·simp only[JM,Fa,h1,h2,Option.getD_some,rv]
   exact⟨cur.toList,z6,rfl⟩
def Res (c:Cx) (fn:Func) (S:St) (r:AV):Prop:=(∀x∈fn.results.toList,LN c S x∧(JM S x).nz)∧(fn.results.toList.map (Fa S)).Nodup∧r=match fn.results.toList.map (fun x=>(JM S x).dn) with
 |[x]=>x
 |l=> .tp l
theorem NQ {c:Cx} {w:World} {F:Nat→Nat} {Θ Θ1:Ty} {own:Who→List Nat} {S:St} {a:Act} (h:Rel w F Θ1 own S a) (hT:∀lv k,Θ1 (lv+1) k=Θ lv k):∀(l:List ResultVar),(∀x∈l,LN c S x∧(JM S x).nz)→
  ∃vs,(l.mapM fun| .tmp t=>pure (a.tmps.getD t undef)| .cell t T=>do loadVar T (←asAddr (a.tmps.getD t undef)):Sem (List Value)).run c.P w=.ok vs w∧rvS w F Θ (l.map fun x=>(JM S x).dn) vs (l.flatMap fun x=>own (Fa S x))∧vs.length=l.length
 |[],_=>⟨[],by simp,by simp[rvS],rfl⟩
 |x::l,hx=>by
  obtain⟨v,h1,h2⟩:=Z3 h x (hx x (by simp)).1
  obtain⟨vs,h3,h4,h5⟩:=NQ h hT l (fun y hy=>hx y (by simp[hy]))
  refine⟨v::vs,?_,?_,by simp[h5]⟩
  ·rw[List.mapM_cons]
   simp only[Sem.run_bind,h1,Result.andThen_ok,h3,Sem.run_pure]
  ·simp only[List.map_cons,List.flatMap_cons,rvS]
   exact⟨v,vs,_,_,rfl,rfl,rv.pop hT _ _ _ (hx x (by simp)).2 h2,h4⟩
theorem CS.of {c:Cx} {f:Nat} {fn:Func} {body:Code} (hf:CU c.P f fn body) (args:List AV) (h h':HP) (r:AV) (hlen:args.length≤fn.ntmps)
  (hW:W c body ⟨fn.ntmps,fun t=>(args.getD t .un).up,(fun _=>none)::upH h⟩ (fun e S=>(e=.normal∨e=.ret)∧(∃f1,S.hp=f1::upH h')∧Res c fn S r)):CS c.P f args h r h':=by
 intro w F Θ own vs hR
 obtain⟨ownP,hP,hPs⟩:=hR.push fn.ntmps hlen
 refine calls_of_wp hf.get hf.bd (wp_mono (hW w F Θ.push ownP _ hP) fun e a1 w1 ⟨S1,F1,Θ1,own1,⟨he,⟨f1,hh⟩,hres⟩,hR1,hS1⟩=> ?_)
 have hT:∀lv k,Θ1 (lv+1) k=Θ lv k:=fun lv k=>hS1.ty lv k
 obtain⟨r1,r2,r3⟩:=hres
 obtain⟨rs,k1,k2,k3⟩:=NQ (c:=c) hR1 hT fn.results.toList r1
 have hsrc:∀b,b∈(fn.results.toList.flatMap fun x=>own1 (Fa S1 x))→∃x∈fn.results.toList,b∈own1 (Fa S1 x):=fun b hb=>by
  obtain⟨x,hx,q⟩:=List.mem_flatMap.1 hb;exact⟨x,hx,q⟩
 have hnd:(fn.results.toList.flatMap fun x=>own1 (Fa S1 x)).Nodup:=by
  refine List.pairwise_flatMap.2 ⟨fun x _=>hR1.nd _,?_⟩
  have:=List.pairwise_map.1 r2
  refine List.Pairwise.imp (fun {x y} hxy b hb q hq e=> ?_) this
  subst e
  exact hR1.dj _ _ hxy b hb hq
 have hval:∃v,(results fn a1.tmps).run c.P w1=.ok v w1∧rv w1 F1 Θ r v (fn.results.toList.flatMap fun x=>own1 (Fa S1 x)):=by
  have hm:(fn.results.mapM fun| .tmp t=>pure (a1.tmps.getD t undef)| .cell t T=>do loadVar T (←asAddr (a1.tmps.getD t undef)):Sem (Array Value)).run c.P w1=.ok rs.toArray w1:=by
   rw[Array.mapM_eq_mapM_toList,map_eq_pure_bind,Sem.run_bind,k1]
   rfl
  have hres:results fn a1.tmps=(fn.results.mapM (fun| .tmp t=>pure (a1.tmps.getD t undef)| .cell t T=>do loadVar T (←asAddr (a1.tmps.getD t undef)):ResultVar→Sem Value)>>=fun vs=>pure (if h:vs.size=1 then vs[0] else .tuple vs)):=rfl
  cases hl:fn.results.toList with
  |nil=>
   rw[hl] at k2 k3 r3
   simp only[List.map_nil] at r3
   subst r3
   refine⟨.tuple rs.toArray,?_,by simp only[rv];exact⟨rs,rfl,k2⟩⟩
   rw[hres,Sem.run_bind,hm]
   simp at k3
   simp[k3]
  |cons x l=>
   cases l with
   |nil=>
    rw[hl] at k2 k3 r3
    simp only[List.map_cons,List.map_nil] at r3 k2
    subst r3
    obtain⟨v,rfl⟩:=List.length_eq_one_iff.1 k3
    simp only[rvS] at k2
    obtain⟨v',r',b1,b2,e1,e2,g1,g2⟩:=k2
    simp only[List.cons.injEq] at e1
    obtain⟨rfl,rfl⟩:=e1
    obtain⟨-,rfl⟩:=g2
    refine⟨v,?_,by rw[e2];simpa using g1⟩
    rw[hres,Sem.run_bind,hm]
    simp
   |cons y l=>
    rw[hl] at k2 k3 r3
    simp only[List.map_cons] at r3 k2
    subst r3
    refine⟨.tuple rs.toArray,?_,by simp only[rv];exact⟨rs,rfl,by simpa using k2⟩⟩
    rw[hres,Sem.run_bind,hm]
    simp only[List.length_cons] at k3
    have:¬rs.toArray.size=1:=by simp;omega
    simp at this
    simp[this]
 obtain⟨v,v1,v2⟩:=hval
 let own2:Who→List Nat:=fun
  | .t 0=>fn.results.toList.flatMap fun x=>own1 (Fa S1 x)
  | .t (_+1)=>[]
  | .h lv k=>own1 (.h (lv+1) k)
  | .l lv k=>own1 (.l (lv+1) k)
 have noW:∀x∈fn.results.toList,∀lv k,Fa S1 x≠ .h (lv+1) k∧Fa S1 x≠ .l (lv+1) k:=by
  intro x hx lv k
  cases x with
  |tmp t=>simp[Fa]
  |cell t T=>
   obtain⟨q,y,ti,h1, -⟩:=(r1 _ hx).1
   simp[Fa,h1]
 have src2:∀x b,b∈own2 x→(x=.t 0∧∃z∈fn.results.toList,b∈own1 (Fa S1 z))∨(∃lv k,x=.h lv k∧b∈own1 (.h (lv+1) k))∨(∃lv k,x=.l lv k∧b∈own1 (.l (lv+1) k)):=by
  intro x b hb
  match x with
  | .t 0=>exact .inl ⟨rfl,hsrc b hb⟩
  | .t (_+1)=>simp[own2] at hb
  | .h lv k=>exact .inr (.inl ⟨lv,k,rfl,hb⟩)
  | .l lv k=>exact .inr (.inr ⟨lv,k,rfl,hb⟩)
 have hfin:∃F' own',Rel w1 F' Θ own' (Gr r h') ⟨#[v],[]⟩∧Stp w F Θ own w1 F' Θ own':=by
  refine⟨F1,own2,⟨rfl,rfl,fun t=> ?_,fun lv k hq=> ?_,fun lv k cn hq=> ?_,fun x=> ?_,fun x y hxy b hx hy=> ?_,fun x b hb=> ?_,hR1.top,hR1.gl⟩,⟨⟨hS1.ks.os,hS1.ks.tape,hS1.ks.output,hS1.ks.size,hS1.ks.cell,hS1.ks.mono,fun b hb hne=>hS1.ks.out b hb (fun ⟨x,hx⟩=>hne (hPs x b hx))⟩,fun x b hb=> ?_,fun _ _=>rfl⟩⟩
  ·cases t with
   |zero=>simpa[Gr] using v2
   |succ t=>simp[Gr,rv,own2]
  ·have h0:hpg S1.hp (lv+1) k=none:=by
    rw[hh]
    show hpg (upH h') lv k=none
    have hq':hpg h' lv k=none:=hq
    rw[DM,hq'];rfl
   obtain⟨g1,g2,g3⟩:=hR1.hn (lv+1) k h0
   exact⟨by rw[←hT];exact g1,g2,g3⟩
  ·have h0:hpg S1.hp (lv+1) k=some cn.up:=by
    rw[hh]
    show hpg (upH h') lv k=some cn.up
    have hq':hpg h' lv k=some cn:=hq
    rw[DM,hq'];rfl
   obtain⟨b,s,cur,t,g1,g2,g3,g4,g5,g6⟩:=hR1.hs (lv+1) k _ h0
   exact⟨b,s,cur,t,by rw[←hT];exact g1,g2,g3,by rw[←AV.csh_up];exact g4,g5,rc.pop hT _ _ _ g6⟩
  ·match x with
   | .t 0=>exact hnd
   | .t (_+1)=>exact List.nodup_nil
   | .h lv k=>exact hR1.nd _
   | .l lv k=>exact hR1.nd _
  ·rcases src2 x b hx with ⟨rfl,z,hz,hb⟩|⟨lv,k,rfl,hb⟩|⟨lv,k,rfl,hb⟩<;>rcases src2 y b hy with ⟨rfl,z',hz',hb'⟩|⟨lv',k',rfl,hb'⟩|⟨lv',k',rfl,hb'⟩
   ·exact hxy rfl
   ·exact hR1.dj _ _ (noW z hz lv' k').1 b hb hb'
   ·exact hR1.dj _ _ (noW z hz lv' k').2 b hb hb'
   ·exact hR1.dj _ _ (noW z' hz' lv k).1 b hb' hb
   ·exact hR1.dj _ _ (by simpa using hxy) b hb hb'
   ·exact hR1.dj _ _ (by simp) b hb hb'
   ·exact hR1.dj _ _ (noW z' hz' lv k).2 b hb' hb
   ·exact hR1.dj _ _ (by simp) b hb hb'
   ·exact hR1.dj _ _ (by simpa using hxy) b hb hb'
  ·rcases src2 x b hb with ⟨rfl,z,hz,hb⟩|⟨lv,k,rfl,hb⟩|⟨lv,k,rfl,hb⟩
   ·exact hR1.lt _ b hb
   ·exact hR1.lt _ b hb
   ·exact hR1.lt _ b hb
  ·have:∃y,b∈own1 y:=by
    rcases src2 x b hb with ⟨rfl,z,hz,hb⟩|⟨lv,k,rfl,hb⟩|⟨lv,k,rfl,hb⟩
    ·exact⟨_,hb⟩
    ·exact⟨_,hb⟩
    ·exact⟨_,hb⟩
   obtain⟨y,hy⟩:=this
   rcases hS1.fr y b hy with ⟨z,hz⟩|hz
   ·exact .inl (hPs z b hz)
   ·exact .inr hz
 obtain⟨F',own',q1,q2⟩:=hfin
 have hdf:=hR1.df
 rcases he with rfl|rfl
 ·exact⟨hdf,v,v1,v,F',own',rfl,q1,q2⟩
 ·exact⟨hdf,v,v1,v,F',own',rfl,q1,q2⟩
inductive Ef where
  |val
  |ld (lv k:Nat)
  |al (k:Nat) (cn:AV)
  |st (lv k:Nat) (cn:AV)
  |hp (h:HP)
  |bw (t:Nat)
structure Fsk where
  o:Oper
  ts:List Nat
  r:AV
  ef:Ef
def Ef.ap:Ef→HP→HP
  | .val,h=>h
  | .ld _ _,h=>h
  | .al k cn,h=>hps h 0 k (some cn)
  | .st lv k cn,h=>hps h lv k (some cn)
  | .hp h',_=>h'
  | .bw _,h=>h
def Ef.bs:Ef→List Nat
  | .bw t=>[t]
  |_=>[]
def Fsk.ap (f:Fsk) (S:St):St:=⟨S.n,B1 (BD S.tm f.ts) f.o.dst f.r,f.ef.ap S.hp⟩
def Ef.agr:Ef→HP→HP→Prop
  | .val,_,_=>True
  | .ld lv k,h,h'=>hpg h' lv k=hpg h lv k
  | .al k _,h,h'=>hpg h' 0 k=hpg h 0 k∧h'.length=h.length
  | .st lv k _,h,h'=>hpg h' lv k=hpg h lv k
  | .hp _,h,h'=>h'=h
  | .bw _,_,_=>True
structure Fsk.agr (ops:Array Oper) (f:Fsk) (S S':St):Prop where
  n:S'.n=S.n
  rd:∀t∈f.o.looksAt ops,(S'.tm t).vw=(S.tm t).vw
  ts:∀t∈f.ts,S'.tm t=S.tm t
  hp:f.ef.agr S.hp S'.hp
  bw:∀t∈f.ef.bs,S'.tm t=S.tm t
def Fsk.valid (c:Cx) (ops:Array Oper) (f:Fsk) (S:St):Prop:=∀S',f.agr ops S S'→OS c ops f.o S' (f.ap S')
theorem Fsk.agr.refl {ops:Array Oper} {f:Fsk} {S:St}:f.agr ops S S:=⟨rfl,fun _ _=>rfl,fun _ _=>rfl,by cases f.ef<;>simp[Ef.agr],fun _ _=>rfl⟩
theorem Fsk.agr.trans {ops:Array Oper} {f:Fsk} {S1 S2 S3:St} (h:f.agr ops S1 S2) (k:f.agr ops S2 S3):f.agr ops S1 S3:=by
  refine⟨k.n.trans h.n,fun t ht=>(k.rd t ht).trans (h.rd t ht),fun t ht=>(k.ts t ht).trans (h.ts t ht),?_,fun t ht=>(k.bw t ht).trans (h.bw t ht)⟩
  have h1:=h.hp;have h2:=k.hp
  cases he:f.ef<;>rw[he] at h1 h2<;>simp only[Ef.agr] at h1 h2 ⊢
  · exact h2.trans h1
  · exact⟨h2.1.trans h1.1,h2.2.trans h1.2⟩
  · exact h2.trans h1
  · exact h2.trans h1
theorem Fsk.valid.agr {c:Cx} {ops:Array Oper} {f:Fsk} {S S':St} (h:f.valid c ops S) (k:f.agr ops S S'):f.valid c ops S':=fun S2 q=>h S2 (k.trans q)
def L5:Ef→Ef→Bool
  | .val,.val=>true
  | .val,.ld _ _=>true
  | .ld _ _,.val=>true
  | .ld _ _,.ld _ _=>true
  | .val,.al _ _=>true
  | .al _ _,.val=>true
  | .ld _ _,.al _ _=>true
  | .val,.hp _=>true
  | .hp _,.val=>true
  | .val,.st _ _ _=>true
  | .st _ _ _,.val=>true
  | .ld a b,.st p q _=> !(a==p && b==q)
  | .st a b _,.ld p q=> !(a==p && b==q)
  | .st a b _,.al k _=> !(a==0 && b==k)
  | .al k _,.st a b _=> !(a==0 && b==k)
  | .al k _,.al j _=> !(k==j)
  | .st a b _,.st p q _=> !(a==p && b==q)
  | .val,.bw _=>true
  | .bw _,.val=>true
  | .bw _,.bw _=>true
  | .bw _,.ld _ _=>true
  | .ld _ _,.bw _=>true
  | .bw _,.al _ _=>true
  | .al _ _,.bw _=>true
  | .bw _,.hp _=>true
  | .hp _,.bw _=>true
  | .bw _,.st _ _ _=>true
  | .st _ _ _,.bw _=>true
  |_,_=>false
def bwB (x y:Fsk):Bool:=y.ef.bs.all fun t=> !x.ts.contains t && x.o.dst !=some t
def Vm (ops:Array Oper) (x y:Fsk):Bool:=
  (match x.o.dst with
   |some d=> !(y.o.looksAt ops).contains d && !y.ts.contains d && y.o.dst !=some d
   |none=>true) &&
  (match y.o.dst with
   |some d=> !(x.o.looksAt ops).contains d && !x.ts.contains d
   |none=>true) &&
  (x.ts.all fun t=> !y.ts.contains t) && L5 x.ef y.ef && (bwB x y && bwB y x)
structure Ind (ops:Array Oper) (x y:Fsk):Prop where
  xy:∀d,x.o.dst=some d→d∉y.o.looksAt ops∧d∉y.ts∧y.o.dst≠some d
  yx:∀d,y.o.dst=some d→d∉x.o.looksAt ops∧d∉x.ts
  ts:∀t∈x.ts,t∉y.ts
  kd:L5 x.ef y.ef=true
  b1:∀t∈y.ef.bs,t∉x.ts∧x.o.dst≠some t
  b2:∀t∈x.ef.bs,t∉y.ts∧y.o.dst≠some t
theorem Vl {ops:Array Oper} {x y:Fsk} (h:Vm ops x y=true):Ind ops x y:=by
  simp only[Vm,Bool.and_eq_true] at h
  obtain⟨⟨⟨⟨h1,h2⟩,h3⟩,h4⟩,h5,h6⟩:=h
  have hb:∀a b:Fsk,bwB a b=true→∀t∈b.ef.bs,t∉a.ts∧a.o.dst≠some t:=fun a b hq t ht=>by
    unfold bwB at hq
    have:=List.all_eq_true.1 hq t ht
    simpa using this
  refine⟨fun d hd=> ?_,fun d hd=> ?_,fun t ht=> ?_,h4,hb x y h5,hb y x h6⟩
  · rw[hd] at h1
    simp only[Bool.and_eq_true,Bool.not_eq_true',List.contains_eq_mem,decide_eq_false_iff_not,bne_iff_ne] at h1
    exact⟨h1.1.1,h1.1.2,h1.2⟩
  · rw[hd] at h2
    simp only[Bool.and_eq_true,Bool.not_eq_true',List.contains_eq_mem,decide_eq_false_iff_not] at h2
    exact h2
  · simp only[List.all_eq_true,Bool.not_eq_true',List.contains_eq_mem,decide_eq_false_iff_not] at h3
    exact h3 t ht
theorem FH (f:Fsk) (S:St) (t:Nat) (h:f.o.dst≠some t):(f.ap S).tm t=if t∈f.ts then (S.tm t).vw else S.tm t:=by
  show B1 (BD S.tm f.ts) f.o.dst f.r t=_
  have:B1 (BD S.tm f.ts) f.o.dst f.r t=BD S.tm f.ts t:=by
    cases hd:f.o.dst with
    |none=>rfl
    |some d=>exact BE _ _ (fun e=>h (by rw[hd,e]))
  rw[this,DQ]
theorem Jk:∀(h:HP) (a b k:Nat) (u v:Option AV),¬(a=0∧b=k)→hps (hps h 0 k v) a b u=hps (hps h a b u) 0 k v
  |[],_,_,_,_,_,_=>rfl
  |f::h,0,b,k,u,v,n=>by
    show upd (upd f k v) b u::h=upd (upd f b u) k v::h
    congr 1
    funext q
    simp only[upd]
    cases hb:q==b<;>cases hk:q==k<;>simp
    simp only[beq_iff_eq] at hb hk
    exact absurd ⟨rfl,hb.symm.trans hk⟩ n
  |f::h,a+1,b,k,u,v,_=>rfl
theorem L9:∀(h:HP) (a b p q:Nat) (u v:Option AV),¬(a=p∧b=q)→hps (hps h p q v) a b u=hps (hps h a b u) p q v
  |[],_,_,_,_,_,_,_=>rfl
  |f::h,0,b,0,q,u,v,n=>Jk (f::h) 0 b q u v (fun e=>n ⟨rfl,e.2⟩)
  |f::h,0,b,p+1,q,u,v,_=>rfl
  |f::h,a+1,b,0,q,u,v,_=>rfl
  |f::h,a+1,b,p+1,q,u,v,n=>congrArg (f:: ·) (L9 h a b p q u v (fun e=>n ⟨by rw[e.1],e.2⟩))
theorem Gy:∀(h:HP) (lv k:Nat) (v:Option AV),(hps h lv k v).length=h.length
  |[],_,_,_=>rfl
  |_::_,0,_,_=>rfl
  |_::h,lv+1,k,v=>by simp only[hps,List.length_cons,Gy h lv k v]
theorem lK {ops:Array Oper} {x y:Fsk} (I:Ind ops x y) (S:St):y.agr ops (x.ap S) S:=by
  have hd:∀t,t∈y.o.looksAt ops∨t∈y.ts→x.o.dst≠some t:=fun t ht e=>by
    have:=I.xy t e
    rcases ht with h|h
    · exact this.1 h
    · exact this.2.1 h
  refine⟨rfl,fun t ht=> ?_,fun t ht=> ?_,?_,fun t ht=>by have:=I.b1 t ht;rw[FH x S t this.2,if_neg this.1]⟩
  · rw[FH x S t (hd t (.inl ht))]
    split
    · rw[AV.vw_vw]
    · rfl
  · rw[FH x S t (hd t (.inr ht)),if_neg (fun h=>I.ts t h ht)]
  · have hk:=I.kd
    show y.ef.agr (x.ef.ap S.hp) S.hp
    cases hx:x.ef<;>cases hy:y.ef<;>rw[hx,hy] at hk<;>simp only[L5,Bool.false_eq_true] at hk<;>simp[Ef.agr,Ef.ap]
    all_goals first
      |(rw[CG,if_neg];rintro ⟨e1,e2, -⟩;simp[e1,e2] at hk;done)
      |(refine⟨?_,(Gy _ _ _ _).symm⟩;rw[CG,if_neg];rintro ⟨e1,e2, -⟩;simp[e1,e2] at hk;done)
      |(rw[CG,if_neg];rintro ⟨e1,e2, -⟩;simp[←e1, ←e2] at hk;done)
      |(refine⟨?_,(Gy _ _ _ _).symm⟩;rw[CG,if_neg];rintro ⟨e1,e2, -⟩;simp[←e1, ←e2] at hk;done)
theorem lL {ops:Array Oper} {x y:Fsk} (I:Ind ops x y) (S:St) (hy:∀k cn,y.ef=.al k cn→∀lv q,x.ef=.ld lv q→¬(lv=0∧q=k)):x.agr ops S (y.ap S):=by
  have hd:∀t,t∈x.o.looksAt ops∨t∈x.ts→y.o.dst≠some t:=fun t ht e=>by
    have:=I.yx t e
    rcases ht with h|h
    · exact this.1 h
    · exact this.2 h
  refine⟨rfl,fun t ht=> ?_,fun t ht=> ?_,?_,fun t ht=>by have:=I.b2 t ht;rw[FH y S t this.2,if_neg this.1]⟩
  · rw[FH y S t (hd t (.inl ht))]
    split
    · rw[AV.vw_vw]
    · rfl
  · rw[FH y S t (hd t (.inr ht)),if_neg (fun h=>I.ts t ht h)]
  · have hk:=I.kd
    show x.ef.agr S.hp (y.ef.ap S.hp)
    cases hx:x.ef<;>cases hy2:y.ef<;>rw[hx,hy2] at hk<;>simp only[L5,Bool.false_eq_true] at hk<;>simp[Ef.agr,Ef.ap]
    all_goals first
      |(rw[CG,if_neg];rintro ⟨e1,e2, -⟩;simp[e1,e2] at hk;done)
      |(refine⟨?_,Gy _ _ _ _⟩;rw[CG,if_neg];rintro ⟨e1,e2, -⟩;simp[e1,e2] at hk;done)
      |(rw[CG,if_neg];rintro ⟨e1,e2, -⟩;simp[←e1, ←e2] at hk;done)
      |(refine⟨?_,Gy _ _ _ _⟩;rw[CG,if_neg];rintro ⟨e1,e2, -⟩;simp[←e1, ←e2] at hk;done)
      |(rw[CG,if_neg];rintro ⟨rfl,rfl, -⟩;exact hy _ _ hy2 _ _ hx ⟨rfl,rfl⟩)
theorem bF {ops:Array Oper} {x y:Fsk} (I:Ind ops x y) (S:St):x.ap (y.ap S)=y.ap (x.ap S):=by
  have htm:(x.ap (y.ap S)).tm=(y.ap (x.ap S)).tm:=by
    funext t
    by_cases hx:x.o.dst=some t
    · have hy:y.o.dst≠some t:=(I.xy t hx).2.2
      have h1:(x.ap (y.ap S)).tm t=x.r:=by
        show B1 _ x.o.dst x.r t=_
        rw[hx];exact Aw _ _ _
      rw[h1,FH y _ t hy,if_neg (I.xy t hx).2.1]
      show x.r=B1 _ x.o.dst x.r t
      rw[hx];exact(Aw _ _ _).symm
    · by_cases hy:y.o.dst=some t
      · have h1:(y.ap (x.ap S)).tm t=y.r:=by
          show B1 _ y.o.dst y.r t=_
          rw[hy];exact Aw _ _ _
        rw[h1,FH x _ t hx,if_neg (I.yx t hy).2]
        show B1 _ y.o.dst y.r t=_
        rw[hy];exact Aw _ _ _
      · rw[FH x _ t hx,FH y _ t hy,FH y _ t hy,FH x _ t hx]
        by_cases h1:t∈x.ts
        · by_cases h2:t∈y.ts
          · exact absurd h2 (I.ts t h1)
          · simp only[if_pos h1,if_neg h2]
        · simp only[if_neg h1]
  have hhp:(x.ap (y.ap S)).hp=(y.ap (x.ap S)).hp:=by
    have hk:=I.kd
    show x.ef.ap (y.ef.ap S.hp)=y.ef.ap (x.ef.ap S.hp)
    cases hx:x.ef<;>cases hy:y.ef<;>rw[hx,hy] at hk<;>simp only[L5,Bool.false_eq_true] at hk<;>first|rfl|exact Jk _ _ _ _ _ _ (fun q=>by simp[q.1,q.2] at hk)|exact L9 _ _ _ _ _ _ _ (fun q=>by simp[q.1,q.2] at hk)|exact(Jk _ _ _ _ _ _ (fun q=>by simp[q.1,q.2] at hk)).symm
  show(⟨_,_,_⟩:St)=⟨_,_,_⟩
  congr 1
def Pth (c:Cx) (ops:Array Oper):List Fsk→St→St→Prop
  |[],S,S'=>S=S'
  |f::l,S,S'=>(f.valid c ops S∧(∀lv q,f.ef=.ld lv q→hpg S.hp lv q≠none)∧(∀k cn,f.ef=.al k cn→hpg S.hp 0 k=none))∧Pth c ops l (f.ap S) S'
theorem Pth.front {c:Cx} {ops:Array Oper} {y:Fsk} {l:List Fsk}:∀(xs:List Fsk) (S S':St),Pth c ops (xs++y::l) S S'→(∀x∈xs,Ind ops x y)→
    (y.valid c ops S∧(∀lv q,y.ef=.ld lv q→hpg S.hp lv q≠none)∧(∀k cn,y.ef=.al k cn→hpg S.hp 0 k=none))∧Pth c ops (xs++l) (y.ap S) S'
  |[],S,S',h,_=>h
  |x::xs,S,S',h,hI=>by
    obtain⟨⟨h1,h2,h3⟩,h4⟩:=h
    obtain⟨⟨k1,k2,k3⟩,k4⟩:=Pth.front xs (x.ap S) S' h4 (fun z hz=>hI z (by simp[hz]))
    have I:=hI x (by simp)
    have e1:=lK I S
    have hkd:=I.kd
    have q2:∀lv q,y.ef=.ld lv q→hpg S.hp lv q≠none:=fun lv q hy=>by
      have h0:=k2 lv q hy
      have h5:=e1.hp
      rw[hy] at h5
      simp only[Ef.agr] at h5
      rw[h5];exact h0
    have q3:∀k cn,y.ef=.al k cn→hpg S.hp 0 k=none:=fun k cn hy=>by
      have h0:=k3 k cn hy
      have h5:=e1.hp
      rw[hy] at h5
      simp only[Ef.agr] at h5
      rw[h5.1];exact h0
    have hne:∀k cn,y.ef=.al k cn→∀lv q,x.ef=.ld lv q→¬(lv=0∧q=k):=fun k cn hy lv q hx ⟨e2,e3⟩=>by
      subst e2;subst e3
      exact h2 _ _ hx (q3 _ _ hy)
    have e2:=lL I S hne
    refine⟨⟨k1.agr e1,q2,q3⟩,⟨h1.agr e2,fun lv q hx=> ?_,fun k cn hx=> ?_⟩,?_⟩
    · have h5:=e2.hp
      rw[hx] at h5
      simp only[Ef.agr] at h5
      rw[h5];exact h2 lv q hx
    · have h5:=e2.hp
      rw[hx] at h5
      simp only[Ef.agr] at h5
      rw[h5.1];exact h3 k cn hx
    · show Pth c ops (xs++l) (x.ap (y.ap S)) S'
      rw[bF I]
      exact k4
def MO (ops:Array Oper):Nat→Nat→Nat→Bool
  |0,_,_=>false
  |n+1,a,i=>match ops[a]? with
    |none=>false
    |some o=>o.after.toList.any fun e=>Region.binds .any e && (e.on==i||MO ops n e.on i)
def Re (ops:Array Oper) (fs:List Fsk):Bool:=
  (fs.length == ops.size) && ((List.range ops.size).all fun i => match ops[i]? with
    |none=>false
    |some o=>o.after.toList.all fun e=> !Region.binds .any e||decide (e.on<i)) &&
  ((List.range ops.size).all fun j => (List.range j).all fun i => MO ops ops.size j i || match fs[i]?, fs[j]? with
    |some x,some y=>Vm ops x y
    |_,_=>false)
