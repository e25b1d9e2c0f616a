/- Part 15. No condition. -/
import Derived.Test.YtgihkamifpmfdaaGreatDoorM13
namespace Go.Proofs.YtgihkamifpmfdaaGreatDoor
open Go.RowKit
set_option linter.unusedVariables false
set_option linter.unusedSimpArgs false
mutual
def DD.ow:DD→Prop
 | .lf _=>True
 | .st fs=>DD.ows fs
 | .sl o _ es=>o=true∧DD.ows es
def DD.ows:List DD→Prop
 |[]=>True
 |d::ds=>d.ow∧DD.ows ds
end
theorem DD.ows_iff:∀l:List DD,DD.ows l↔∀d∈l,d.ow
 |[]=>by simp[DD.ows]
 |d::l=>by simp[DD.ows,DD.ows_iff l]
mutual
theorem rp.keepO {w w':World} {F F':Nat→Nat}:∀(d:DD) (cs:List Value) (bs:List Nat),rp w F d cs bs→d.ow→(∀b∈bs,w'.heap[b]? =w.heap[b]? ∧F' b=F b)→rp w' F' d cs bs
 | .lf v,cs,bs,h,_,_=>by simpa only[rp] using h
 | .st fs,cs,bs,h,o,k=>by
  simp only[rp] at h ⊢
  simp only[DD.ow] at o
  exact rpS.keepO fs cs bs h o k
 | .sl o s es,cs,bs,h,q,k=>by
  simp only[DD.ow] at q
  obtain⟨rfl,q⟩:=q
  simp only[rp] at h ⊢
  obtain⟨hs,hp,a,cap,h1,h2,h3,h4,h5⟩:=h
  refine⟨hs,hp,a,cap,h1,h2,h3,h4,?_⟩
  rcases h5 with h5|⟨b,off,r,ha,he,hf,h6⟩
  ·exact .inl h5
  ·rcases h6 with ⟨ho, -, -⟩|⟨-,hb,hoff,hF,cur,e,hh,hc⟩
   ·cases ho
   ·subst hb
    have hk:=k b (by simp)
    exact .inr ⟨b,off,r,ha,rpE.keepO hk.1 es off r he q (fun x hx=>k x (by simp[hx])),by rw[hk.2];exact hf,.inr ⟨trivial,rfl,hoff,hk.2.trans hF,cur,e,hk.1.trans hh,hc⟩⟩
theorem rpS.keepO {w w':World} {F F':Nat→Nat}:∀(l:List DD) (cs:List Value) (bs:List Nat),rpS w F l cs bs→DD.ows l→(∀b∈bs,w'.heap[b]? =w.heap[b]? ∧F' b=F b)→rpS w' F' l cs bs
 |[],cs,bs,h,_,_=>by simpa only[rpS] using h
 |d::l,cs,bs,h,o,k=>by
  simp only[rpS] at h ⊢
  simp only[DD.ows] at o
  obtain⟨c1,c2,b1,b2,h1,h2,h3,h4⟩:=h
  subst h2
  exact⟨c1,c2,b1,b2,h1,rfl,rp.keepO d c1 b1 h3 o.1 (fun x hx=>k x (by simp[hx])),rpS.keepO l c2 b2 h4 o.2 (fun x hx=>k x (by simp[hx]))⟩
theorem rpE.keepO {w w':World} {F F':Nat→Nat} {b:Nat} (hb:w'.heap[b]? =w.heap[b]?):∀(l:List DD) (off:Nat) (bs:List Nat),rpE w F l b off bs→DD.ows l→(∀b∈bs,w'.heap[b]? =w.heap[b]? ∧F' b=F b)→rpE w' F' l b off bs
 |[],_,bs,h,_,_=>by simpa only[rpE] using h
 |d::l,off,bs,h,o,k=>by
  simp only[rpE] at h ⊢
  simp only[DD.ows] at o
  obtain⟨cs,b1,b2,h1,h2,h3,h4⟩:=h
  subst h1
  exact⟨cs,b1,b2,rfl,fun j u hu=>by rw[Fx hb];exact h2 j u hu,rp.keepO d cs b1 h3 o.1 (fun x hx=>k x (by simp[hx])),rpE.keepO hb l _ b2 h4 o.2 (fun x hx=>k x (by simp[hx]))⟩
end
theorem rms.sl {w:World} {F:Nat→Nat} {s:Sh} {es:List DD} {v:Value} {bs:List Nat} (h:rms w F s es v bs) (hn:bs.Nodup):∃F1,rp w F1 (.sl true s es) [v] bs∧(∀x,x∉bs.head? →F1 x=F x)∧∀x∈bs.head?,F x=0∧F1 x=es.length*s.w:=by
 obtain⟨h0,h1,a,cap,rfl,h3,h4,h5,h6⟩:=h
 rcases h6 with ⟨rfl,rfl,rfl⟩|⟨b,r,cur,e,rfl,rfl,g1,g2,g3,g4⟩
 ·refine⟨F,?_,fun _ _=>rfl,by simp⟩
  simp only[rp]
  exact⟨h0,h1,a,0,rfl,by simp,by omega,h5,.inl ⟨trivial,trivial,fun _=>rfl⟩⟩
 ·have hbr:=(List.nodup_cons.1 hn).1
  refine⟨upd F b (es.length*s.w),?_,fun x hx=>BE _ _ (fun e=>hx (by simp[e])),fun x hx=> ?_⟩
  ·simp only[rp]
   refine⟨h0,h1,_,cap,rfl,h3,h4,h5,.inr ⟨b,0,r,rfl,?_,by rw[Aw];omega,.inr ⟨trivial,rfl,rfl,Aw _ _ _,cur,e,g3,g4⟩⟩⟩
   exact rpE.keepB rfl es 0 r g2 ⟨fun _ _ _ => rfl, fun x => by
    by_cases e:x=b
    ·subst e;rw[g1];exact Nat.zero_le _
    ·rw[BE _ _ e];exact Nat.le_refl _,fun x hx=>⟨rfl,BE _ _ (fun e=>hbr (by rw[←e];exact hx))⟩⟩
  ·simp at hx;subst hx;exact⟨g1,Aw _ _ _⟩
theorem rms.of {w:World} {F F1:Nat→Nat} {s:Sh} {es:List DD} {v:Value} {bs:List Nat} (h:rp w F1 (.sl true s es) [v] bs) (ho:DD.ows es) (hn:bs.Nodup) (hF:∀x∈bs,x∉bs.head? →F x=F1 x) (h0:∀x∈bs.head?,F x=0):rms w F s es v bs:=by
 simp only[rp,List.cons.injEq,and_true] at h
 obtain⟨g0,g1,a,cap,rfl,g3,g4,g5,g6⟩:=h
 refine⟨g0,g1,a,cap,rfl,g3,g4,g5,?_⟩
 rcases g6 with ⟨rfl,rfl,g7⟩|⟨b,off,r,rfl,k1,k2,k3⟩
 ·exact .inl ⟨rfl,rfl,g7 trivial⟩
 ·rcases k3 with ⟨e, -, -⟩|⟨-,rfl,rfl,k5,cur,e,k6,k7⟩
  ·simp at e
  ·have hbr:=(List.nodup_cons.1 hn).1
   exact .inr ⟨b,r,cur,e,rfl,rfl,h0 b (by simp),rpE.keepO rfl es 0 r k1 ho (fun x hx=>⟨rfl,hF x (by simp[hx]) (by simp;rintro rfl;exact hbr hx)⟩),k6,k7⟩
section
variable {c:Cx} {S:St}
theorem Rel.asT {w:World} {F:Nat→Nat} {Θ:Ty} {own:Who→List Nat} {a:Act} (h:Rel w F Θ own S a) (t:Nat) (r:AV) (hr:rv w F Θ r (a.tmps.getD t undef) (own (.t t))):Rel w F Θ own ⟨S.n,upd S.tm t r,S.hp⟩ a:=
 ⟨h.n, h.df, fun u => by
  show rv w F Θ (upd S.tm t r u) _ _
  by_cases e:u=t
  ·subst e;rw[Aw];exact hr
  ·rw[BE _ _ e];exact h.tm u,h.hn,h.hs,h.nd,h.dj,h.lt,h.top,h.gl⟩
theorem Tm {t:Nat} {s:Sh} (ht:S.tm t=.d (.sl true s [])):Wz S ⟨S.n,upd S.tm t (.ms s []),S.hp⟩:=fun w F Θ own a hR=>by
 refine⟨F,Θ,own,hR.asT t _ ?_,Stp.refl _ _ _ _⟩
 have hv:=hR.tm t
 rw[ht] at hv
 simp only[rv] at hv ⊢
 obtain⟨cs,h1,h2⟩:=hv
 have hl:=rp.length _ _ _ h1
 match cs,hl with
 |[v],_=>
  rw[h2]
  refine rms.of (F1:=F) h1 trivial (hR.nd _) (fun _ _ _=>rfl) fun x hx=> ?_
  simp only[rp] at h1
  obtain⟨-, -,a2,cap, -, -, -, -,g⟩:=h1
  rcases g with ⟨g, -, -⟩|⟨b,off,r, -, -, -,g⟩
  ·rw[g] at hx;simp at hx
  ·rcases g with ⟨g, -, -⟩|⟨-,g, -,g2, -⟩
   ·simp at g
   ·rw[g] at hx;simp at hx;subst hx;simpa using g2
theorem Tn {t:Nat} {s:Sh} {es:List DD} (ht:S.tm t=.ms s es):Wz S ⟨S.n,upd S.tm t (.d (.sl true s es)),S.hp⟩:=fun w F Θ own a hR=>by
 have hv:=hR.tm t
 rw[ht] at hv
 simp only[rv] at hv
 obtain⟨F1,h1,h2,h3⟩:=hv.sl (hR.nd _)
 have hd:∀x,x∈(own (.t t)).head? →x∈own (.t t):=fun x hx=>List.mem_of_mem_head? hx
 have mono:∀b,F b≤F1 b:=fun b=>by
  by_cases e:b∈(own (.t t)).head?
  ·rw[(h3 b e).1];exact Nat.zero_le _
  ·rw[h2 b e];exact Nat.le_refl _
 have kp:∀x,x≠ .t t→Kp w F w F1 (own x):=fun x hx=>⟨fun _ _ _=>rfl,mono,fun b hb=>⟨rfl,h2 b (fun e=>hR.dj x (.t t) hx b hb (hd b e))⟩⟩
 have ks:Ks w F w F1 (fun b=>b∈own (.t t)):=⟨rfl,rfl,rfl,Nat.le_refl _,fun _ _ _=>rfl,mono,fun b _ hb=>⟨rfl,h2 b (fun e=>hb (hd b e))⟩⟩
 have hT:∀lv k (x:Nat×Sh),Θ lv k=some x→Θ lv k=some x:=fun _ _ _ q=>q
 refine⟨F1,Θ,own,⟨hR.n,hR.df,fun u=> ?_,hR.hn,fun lv k cn hc=> ?_,hR.nd,hR.dj,hR.lt,fun b hb=> ?_,hR.gl.ks ks⟩,⟨⟨rfl,rfl,rfl,Nat.le_refl _,fun _ _ _=>rfl,mono,fun b hb hn=>⟨rfl,h2 b (fun e=>hn ⟨_,hd b e⟩)⟩⟩,fun x b hb=> .inl ⟨x,hb⟩,fun _ _=>rfl⟩⟩
 ·show rv w F1 Θ (upd S.tm t _ u) _ _
  by_cases e:u=t
  ·subst e;rw[Aw]
   simp only[rv]
   exact⟨_,h1,rfl⟩
  ·rw[BE _ _ e];exact rv.keep hT _ _ _ (hR.tm u) (kp _ (by simpa using e))
 ·obtain⟨b,s2,cur,ty,g1,g2,g3,g4,g5,g6⟩:=hR.hs lv k cn hc
  exact⟨b,s2,cur,ty,g1,g2,(h2 b (fun e=>hR.dj (.l lv k) (.t t) (by simp) b (by rw[g2];simp) (hd b e))).trans g3,g4,g5,rc.keep hT _ _ _ g6 (kp _ (by simp))⟩
 ·rw[h2 b (fun e=>by have:=hR.lt _ b (hd b e);omega)];exact hR.top b hb
def Ia:Value→Nat
 | .slice (some a) _ _=>a.block
 |_=>0
def SlV (v:Value) (n:Nat):Prop:=∃a cap,v=.slice a n cap∧(0<n→a=some ⟨Ia v,0,none⟩)∧n≤maxLen
theorem Rel.msOpen {w:World} {F:Nat→Nat} {Θ:Ty} {own:Who→List Nat} {a:Act} (h:Rel w F Θ own S a) {t:Nat} {s:Sh} {es:List DD} (ht:S.tm t=.ms s es):∃v,SlV v es.length∧Rel w F Θ own ⟨S.n,upd S.tm t (.mb v s es),S.hp⟩ a:=by
 have hv:=h.tm t
 rw[ht] at hv
 simp only[rv] at hv
 have hv2:=hv
 obtain⟨-, -,a2,cap,e,m1,m2,m3,g⟩:=hv
 refine⟨_,⟨a2,cap,e,fun hn=> ?_,by omega⟩,h.asT t _ ?_⟩
 ·rcases g with ⟨-,g, -⟩|⟨b,r,cur,ty,g1, -⟩
  ·subst g;simp at hn
  ·subst g1;rw[e];rfl
 ·simp only[rv]
  exact⟨trivial,hv2⟩
theorem W.msOpen {code:Code} {Q:Exit→St→Prop} (t:Nat) {s:Sh} {es:List DD} (k:∀v,SlV v es.length→W c code ⟨S.n,upd S.tm t (.mb v s es),S.hp⟩ Q) (ht:S.tm t=.ms s es:=by rfl):W c code S Q:=fun w F Θ own a hR=>by
 obtain⟨v,hv,h⟩:=hR.msOpen ht
 exact k v hv w F Θ own a h
theorem Og {t:Nat} {v:Value} {s:Sh} {es:List DD} (ht:S.tm t=.mb v s es):Wz S ⟨S.n,upd S.tm t (.ms s es),S.hp⟩:=fun w F Θ own a hR=>by
 refine⟨F,Θ,own,hR.asT t _ ?_,Stp.refl _ _ _ _⟩
 have hv:=hR.tm t
 rw[ht] at hv
 simp only[rv] at hv ⊢
 exact hv.2
theorem Lz {w:World} {F:Nat→Nat} {Θ:Ty} {v0 v:Value} {s:Sh} {es:List DD} {bs:List Nat} (h:rv w F Θ (.mb v0 s es) v bs) (hn:0<es.length):v=v0∧∃r,bs=Ia v0::r∧rms w F s es v (Ia v0::r):=by
 simp only[rv] at h
 obtain⟨rfl,h⟩:=h
 have h0:=h
 obtain⟨-, -,a2,cap,e, -, -, -,g⟩:=h
 rcases g with ⟨-,g, -⟩|⟨b,r,cur,ty,g1,g2, -⟩
 ·subst g;simp at hn
 ·have hb:Ia v=b:=by rw[e,g1];rfl
  rw[hb]
  exact⟨rfl,r,g2,by rw[←g2];exact h0⟩
end
section
variable {c:Cx} {o:Oper} {S:St}
theorem Gs {a:Act} {t:Nat}:a.put (some t) (a.tmps.getD t undef)=a:=by
 unfold Act.put
 have:a.tmps.setIfInBounds t (a.tmps.getD t undef)=a.tmps:=by
  refine Array.ext_getElem? fun i=> ?_
  rw[Array.getElem?_setIfInBounds]
  by_cases e:t=i
  ·subst e
   by_cases h:t<a.tmps.size
   ·simp[h]
   ·simp[h]
  ·rw[if_neg e]
 show(⟨a.tmps.setIfInBounds t (a.tmps.getD t undef),a.defers⟩:Act)=a
 rw[this]
theorem Yb (hd:∀k,o.dst=some k→k<S.n) (T:Nat) (x:Operand) (i:Operand) (ho:o.op=.indexAddr T x i) (ti:TI) (e:Nat) (s:Sh) (ht:c.ty T=some ti) (hk:ti.kd=.sl e s) {v0:Value} (hx:evT c T S x=.pv v0) (ox:okO c T x) {m:Nat} (hv:SlV v0 m) (k:IntKind) (n:Int) (hi:evT c 0 S i=.d (.lf (.int k n))) (oi:okO c 0 i) (h0:0≤n) (hn:n.toNat<m):
  Snd c o S ⟨S.n,B1 S.tm o.dst (.mp (Ia v0) s n.toNat []),S.hp⟩:=by
 intro w F Θ own a hR
 obtain⟨e2, -⟩:=CM hR hi oi
 have hvx:=BU hR ox
 rw[hx] at hvx
 simp only[rv] at hvx
 obtain⟨-,e1⟩:=hvx
 obtain⟨a',cap,g1,g2, -⟩:=hv
 have g2:=g2 (by omega)
 generalize Ia v0=b at g2 ⊢
 subst g2
 have hd2:=(c.ok T ti ht).kd
 rw[hk] at hd2
 obtain⟨-, -,hu,j,hj,hjs⟩:=hd2
 have e3:a.eval x=.slice (some ⟨b,0,none⟩) m cap:=e1.trans g1
 have hrun:(execOp a.eval o).run c.P w=.ok (.value (.pointer (some ⟨b,n.toNat*s.w,none⟩))) w:=by
  unfold execOp
  have hlt:0≤n∧n<(m:Int):=⟨h0,by omega⟩
  simp[ho,e3,e2,Go.Instr.indexAt,asIntOf,run_underlying hu,hlt,sizeOf,typeInfo,hj,hjs,Addr.add_lit]
 obtain⟨own',g1,g2⟩:=hR.pure o.dst hd [] List.nodup_nil (.mp b s n.toNat []) _ (by simp only[List.flatMap_nil,rv];exact⟨trivial,0,by cases s<;>rfl,rfl⟩)
 exact⟨_,w,F,Θ,own',.inl hrun,g1,g2⟩
theorem Ul (hd:∀k,o.dst=some k→k<S.n) (T:Nat) (x:Operand) (ho:o.op=.call { callee:=.builtin .len,args:= #[x],argTypes:= #[T] }) {v0:Value} (hx:evT c T S x=.pv v0) (ox:okO c T x) {m:Nat} (hv:SlV v0 m) (ti:TI) (e:Nat) (s':Sh) (ht:c.ty T=some ti) (hk:ti.kd=.sl e s'):Snd c o S ⟨S.n,B1 S.tm o.dst (dI' m),S.hp⟩:=by
 intro w F Θ own a hR
 have hvx:=BU hR ox
 rw[hx] at hvx
 simp only[rv] at hvx
 obtain⟨-,e1⟩:=hvx
 obtain⟨a',cap,g1, -,hm⟩:=hv
 have hd2:=(c.ok T ti ht).kd
 rw[hk] at hd2
 obtain⟨-, -,hu, -⟩:=hd2
 unfold maxLen at hm
 have e3:a.eval x=.slice a' m cap:=e1.trans g1
 have hrun:(execOp a.eval o).run c.P w=.ok (.value (.int .i64 (m:Int))) w:=by
  unfold execOp
  simp[ho,e3,resolve,invoke,builtin,Builtin.len_,run_underlying hu,goInt]
 obtain⟨own',g1,g2⟩:=hR.pure o.dst hd [] List.nodup_nil (.d (.lf (.int .i64 (m:Int)))) _ (Dr (by simp[BK,IntKind.min,IntKind.max,IntKind.bits,IntKind.signed];omega))
 exact⟨_,w,F,Θ,own',.inl hrun,g1,g2⟩
theorem Um (hd:∀k,o.dst=some k→k<S.n) (T i:Nat) (x:Operand) (ho:o.op=.fieldAddr T x i) (ti:TI) (fl:List (Nat×Sh)) (ht:c.ty T=some ti) (hk:ti.kd=.st fl) {b j:Nat} {s:Sh} {p:List Nat} (hx:evT c 0 S x=.mp b s j p) (ox:okO c 0 x)
  (hp:∀off,C8 s p=some off→C8 s (p++[i])=some (off+Sh.ws ((fl.map Prod.snd).take i))) (hi:i<fl.length):Snd c o S ⟨S.n,B1 S.tm o.dst (.mp b s j (p++[i])),S.hp⟩:=by
 intro w F Θ own a hR
 have hv:=BU (T:=0) hR ox
 rw[hx] at hv
 simp only[rv] at hv
 obtain⟨-,off,e2,e3⟩:=hv
 have hd2:=(c.ok T ti ht).kd
 rw[hk] at hd2
 obtain⟨hsh,fs',hu,hsz,hfl⟩:=hd2
 obtain⟨f,g1,g2,g3,g4,⟨jj,g5,g6⟩, -⟩:=hfl i fl[i].1 fl[i].2 (List.getElem?_eq_getElem hi)
 have hrun:(execOp a.eval o).run c.P w=.ok (.value (.pointer (some ⟨b,j*s.w+(off+f.offset),none⟩))) w:=by
  unfold execOp
  have hne:¬jj.size=0:=by omega
  simp[ho,e3,Go.Instr.fieldAt,run_underlying hu,g1,Go.Instr.sureAddr,fieldPlace,sizeOf,typeInfo,g2,g5,hne,Addr.add_lit,Nat.add_assoc]
 obtain⟨own',k1,k2⟩:=hR.pure o.dst hd [] List.nodup_nil (.mp b s j (p++[i])) _ (by simp only[List.flatMap_nil,rv];exact⟨trivial,off+f.offset,by rw[hp off e2,g3],rfl⟩)
 exact⟨_,w,F,Θ,own',.inl hrun,k1,k2⟩
theorem SW (hd:∀k,o.dst=some k→k<S.n) (T:Nat) (x:Operand) (ho:o.op=.load T x) (ti:TI) (ht:c.ty T=some ti) (ox:okO c 0 x) {b j t:Nat} {v0:Value} {s:Sh} {p:List Nat} {es:List DD} (hx:evT c 0 S x=.mp b s j p) (hm:S.tm t=.mb v0 s es) (hbv:b=Ia v0) (hj:j<es.length) (hr:(D9 es[j] p).sh=ti.sh):
  Snd c o S ⟨S.n,B1 S.tm o.dst (.d (D9 es[j] p).vw),S.hp⟩:=by
 intro w F Θ own a hR
 have hT:=c.ok T ti ht
 have hv:=BU (T:=0) hR ox
 rw[hx] at hv
 simp only[rv] at hv
 obtain⟨-,off,e2,e3⟩:=hv
 have hb:=hR.tm t
 rw[hm] at hb
 obtain⟨-,r,hb0,hb⟩:=Lz hb (by omega)
 rw[←hbv] at hb
 obtain⟨hs,hp,a',cap,e1,h1,h2,h3,h4⟩:=hb
 rcases h4 with ⟨h4, -, -⟩|⟨b',r',cur,ty,rfl,h5,h6,h7, -⟩
 ·simp at h4
 simp only[List.cons.injEq] at h5
 obtain⟨rfl,rfl⟩:=h5
 obtain⟨cs,bk,g1,g2, -⟩:=rpE.get es 0 r hs h7 j es[j] (List.getElem?_eq_getElem hj)
 have hsh:(es[j]).sh=s:=hs _ (gm hj)
 obtain⟨c1,ce,c2,b1,be,b2,rfl, -,k1,k2, -⟩:=rp.focus p es[j] cs bk g2 off (by rw[hsh];exact e2)
 have hc:CQ w b (j*s.w+off) ce:=fun q u hu=>by
  have:=g1 (c1.length+q) u (by rw[List.getElem?_append_right (by omega)];simp;rw[List.getElem?_append_left (List.getElem?_eq_some_iff.1 hu).1];exact hu)
  rw[k1] at this
  rw[show j*s.w+off+q=0+j*s.w+(off+q) by omega];exact this
 have hrun:(execOp a.eval o).run c.P w=.ok (.value ((D9 es[j] p).mk ce)) w:=by
  unfold execOp
  simp[ho,e3,Go.Instr.loadAt,Go.Instr.sureAddr,Dg hT hc k2 hr]
 obtain⟨own',m1,m2⟩:=hR.pure o.dst hd [] List.nodup_nil (.d (D9 es[j] p).vw) _ (by simp only[List.flatMap_nil,rv];exact⟨ce,rp.view _ _ _ k2,by rw[DD.mk_vw]⟩)
 exact⟨_,w,F,Θ,own',.inl hrun,m1,m2⟩
theorem QP {z:DD} (hz:z.ow):∀(p:List Nat) (d:DD),d.ow→(Df d p z).ow
 |[],d,_=>by simpa only[Df] using hz
 |i::p,.lf v,h=>by simpa only[Df] using h
 |i::p,.sl o s es,h=>by simpa only[Df] using h
 |i::p,.st l,h=>by
  simp only[Df,DD.ow] at h ⊢
  rw[DD.ows_iff] at h ⊢
  intro d hd
  rcases List.mem_or_eq_of_mem_set hd with hd|rfl
  ·exact h d hd
  ·refine QP hz p _ ?_
   rw[List.getD_eq_getElem?_getD]
   cases hq:l[i]? with
   |none=>trivial
   |some e=>exact h e (List.mem_of_getElem? hq)
theorem Sr {α:Type} {p e s y:List α} (h:(p++(e++s)).Nodup) (hy:y.Nodup) (hd:∀q∈y,q∉p++(e++s)):(p++(y++s)).Nodup:=by
 have h1:=List.nodup_append.1 h
 have h2:=List.nodup_append.1 h1.2.1
 refine List.nodup_append.2 ⟨h1.1,List.nodup_append.2 ⟨hy,h2.2.1,fun a ha b hb e=> ?_⟩,fun a ha b hb e=> ?_⟩
 ·subst e;exact hd a ha (List.mem_append_right _ (List.mem_append_right _ hb))
 ·subst e
  rcases List.mem_append.1 hb with hb|hb
  ·exact hd a hb (List.mem_append_left _ ha)
  ·exact h1.2.2 a ha a (List.mem_append_right _ hb) rfl
theorem Oq (hd:o.dst=none) (T:Nat) (x y:Operand) (ho:o.op=.store T x y) (ti:TI) (ht:c.ty T=some ti) (ox:okO c 0 x) (oy:okO c T y) {b j t:Nat} {v0:Value} {s:Sh} {p:List Nat} {es:List DD} (hx:evT c 0 S x=.mp b s j p) (hm:S.tm t=.mb v0 s es) (hbv:b=Ia v0) (hj:j<es.length) {z:DD} (hy:tkT c T S y=.d z)
  (hr:(D9 es[j] p).sh=ti.sh) (hz:z.sh=ti.sh) (hzo:z.ow) (hes:DD.ows es) (hty:t∉tmO y) (htn:t<S.n):Snd c o S ⟨S.n,upd (BD S.tm (t::tmO y)) t (.mb v0 s (es.set j (Df es[j] p z))),S.hp⟩:=by
 intro w F Θ own a hR
 have hT:=c.ok T ti ht
 have hv:=BU (T:=0) hR ox
 rw[hx] at hv
 simp only[rv] at hv
 obtain⟨-,off,e2,e3⟩:=hv
 have hb:=hR.tm t
 rw[hm] at hb
 obtain⟨hv0,r,hbo,hb⟩:=Lz hb (by omega)
 rw[←hbv] at hb hbo
 obtain⟨hs,hp,a',cap,e1,h1,h2,h3,h4⟩:=hb
 rcases h4 with ⟨h4, -, -⟩|⟨b',r',cur,ty,rfl,h5,h6,h7,h8,h9⟩
 ·simp at h4
 simp only[List.cons.injEq] at h5
 obtain⟨rfl,rfl⟩:=h5
 have hyv:=Gf hR oy
 rw[hy] at hyv
 simp only[rv] at hyv
 obtain⟨cz,hyv,ey⟩:=hyv
 have hcz:=rp.length _ _ _ hyv
 have hown:(own (.t t)).Nodup:=hR.nd _
 have hbn:b∉r:=by rw[hbo] at hown;exact(List.nodup_cons.1 hown).1
 have hyl:∀q∈(tmO y).flatMap fun t=>own (.t t),∃u∈tmO y,q∈own (.t u):=fun q hq=>by obtain⟨u,hu,h⟩:=List.mem_flatMap.1 hq;exact⟨u,hu,h⟩
 have hyt:∀q∈(tmO y).flatMap fun t=>own (.t t),q∉own (.t t):=fun q hq h=>by
  obtain⟨u,hu,h'⟩:=hyl q hq
  exact hR.dj (.t u) (.t t) (fun e=>hty (by cases e;exact hu)) q h' h
 -- the row's cells
 obtain⟨xs,g1,g2⟩:=rpE.toS es 0 r h7
 have hxl:=rpS.length es xs r g2
 rw[DD.shs_eq,Sh.ws_map es hs] at hxl
 obtain⟨c1,ce,c2,b1,be,b2,rfl,rfl,k1,k2,k3⟩:=rpS.focus es xs r g2 j es[j] (List.getElem?_eq_getElem hj)
 have hsh:(es[j]).sh=s:=hs _ (gm hj)
 obtain⟨d1,de,d2,q1,qe,q2,rfl,rfl,m1,m2,m3⟩:=rp.focus p es[j] ce be k2 off (by rw[hsh];exact e2)
 obtain⟨n1,n2⟩:=m3 z cz _ (hz.trans hr.symm) hyv
 have n3:=k3 _ _ _ n1
 have hk1:c1.length=j*s.w:=by
  rw[k1,DD.shs_eq, ←List.map_take,Sh.ws_map _ (fun d hd=>hs d (List.mem_of_mem_take hd)),List.length_take]
  congr 1;omega
 have hde:de.length=cz.length:=by rw[rp.length _ _ _ m2,hcz,hr,hz]
 have hcap:es.length*s.w≤cap*s.w:=Nat.mul_le_mul_right _ h1
 have hsz:(j*s.w+off)+cz.length≤cur.size:=by
  have:c1.length+(d1.length+de.length)≤es.length*s.w:=by rw[←hxl];simp
  omega
 let arr:=(cur.toList.take (j*s.w+off)++cz++cur.toList.drop (j*s.w+off+cz.length))
 have hks:Ks w F (w.setRow b arr.toArray) F (fun x=>x=b):=Jf h8 h6
 have hrun:(execOp a.eval o).run c.P w=.ok .skip (w.setRow b arr.toArray):=by
  unfold execOp
  have hmk:(a.eval y).cells=cz.toArray:=by rw[ey];exact EC hyv
  have:=Gk (c:=c) hT (a.eval y) hmk (by rw[hcz,hz]) (rp.one _ _ _ hyv) h8 (off:=j*s.w+off) hsz
  simp only[ho,e3,Go.Instr.storeAt,Go.Instr.sureAddr,Sem.run_bind,Sem.run_pure,Result.andThen_ok,this]
  rfl
 have hat:=setRow_heap w b cur arr.toArray ty (0,0) h8
 have hnew:∀d∈es.set j (Df es[j] p z),d.sh=s:=fun d hd=>by
  rcases List.mem_or_eq_of_mem_set hd with hd|rfl
  ·exact hs d hd
  ·rw[n2,hsh]
 have hnow:DD.ows (es.set j (Df es[j] p z)):=by
  rw[DD.ows_iff] at hes ⊢
  intro d hd
  rcases List.mem_or_eq_of_mem_set hd with hd|rfl
  ·exact hes d hd
  ·exact QP hzo p _ (hes _ (gm hj))
 have sub:∀q∈b1++((q1++((tmO y).flatMap (fun t=>own (.t t))++q2))++b2),q∈b1++((q1++(qe++q2))++b2)∨q∈(tmO y).flatMap fun t=>own (.t t):=fun q hq=>by
  simp only[List.mem_append] at hq ⊢
  rcases hq with h|(h|h|h)|h
  ·exact .inl (.inl h)
  ·exact .inl (.inr (.inl (.inl h)))
  ·exact .inr h
  ·exact .inl (.inr (.inl (.inr (.inr h))))
  ·exact .inl (.inr (.inr h))
 have hbq:∀q∈b1++((q1++((tmO y).flatMap (fun t=>own (.t t))++q2))++b2),q≠b:=fun q hq e=>by
  subst e
  rcases sub q hq with h|h
  ·exact hbn h
  ·exact hyt q h (by rw[hbo];simp)
 have hlt:∀q∈b1++((q1++((tmO y).flatMap (fun t=>own (.t t))++q2))++b2),q<w.heap.size:=fun q hq=>by
  rcases sub q hq with h|h
  ·exact hR.lt (.t t) q (by rw[hbo];exact List.mem_cons_of_mem _ h)
  ·obtain⟨u, -,h'⟩:=hyl q h;exact hR.lt _ q h'
 have hS2:=rpS.keepO _ _ _ n3 hnow (fun q hq=>hks.out q (hlt q hq) (hbq q hq))
 have hnd:(b::(b1++((q1++((tmO y).flatMap (fun t=>own (.t t))++q2))++b2))).Nodup:=by
  refine List.nodup_cons.2 ⟨fun h=>hbq b h rfl,?_⟩
  rw[hbo] at hown
  have h0:=(List.nodup_cons.1 hown).2
  have hyn:((tmO y).flatMap fun t=>own (.t t)).Nodup:=by
   refine List.pairwise_flatMap.2 ⟨fun t _=>hR.nd _,?_⟩
   cases y<;>simp[tmO]
  have hdj:∀q∈(tmO y).flatMap (fun t=>own (.t t)),q∉b1++((q1++(qe++q2))++b2):=fun q hq h=>hyt q hq (by rw[hbo];exact List.mem_cons_of_mem _ h)
  have e1:∀X:List Nat,b1++((q1++(X++q2))++b2)=(b1++q1)++(X++(q2++b2)):=fun X=>by simp
  rw[e1] at h0 ⊢
  rw[e1] at hdj
  exact Sr h0 hyn hdj
 obtain⟨own',w1,w2⟩:=hR.fin (w':=w.setRow b arr.toArray) (F':=F) (some t) (fun k hk=>by cases hk;exact htn) (t::tmO y) (.mb v0 s (es.set j (Df es[j] p z))) (a.tmps.getD t undef) (b::(b1++((q1++((tmO y).flatMap (fun t=>own (.t t))++q2))++b2)))
  ⟨hks.os,hks.tape,hks.output,hks.size,hks.cell,hks.mono,fun q hq hne=>hks.out q hq (fun e=>hne ⟨t,by simp,by rw[hbo,e];simp⟩)⟩ (fun q hq=>hR.top q (by rw[size_setRow] at hq;exact hq))
  (by
   simp only[rv]
   refine⟨hv0,hnew,hp,_,cap,by rw[List.length_set];exact e1,by rw[List.length_set];exact h1,h2,h3,.inr ⟨b,_,arr.toArray,ty,rfl,rfl,h6,?_,hat,?_⟩⟩
   ·refine rpS.toE _ _ 0 _ hS2 fun q u hu=> ?_
    rw[cell_of_row _ _ _ _ ty (0,0) hat,Nat.zero_add]
    simp only[List.getElem?_toArray]
    have old:∀q u,(c1++((d1++(de++d2))++c2))[q]? =some u→cur.toList[q]? =some u:=fun q u hu=>by
     have:=g1 q u hu
     rw[cell_of_row w _ _ _ ty (0,0) h8,Nat.zero_add] at this
     rw[Array.getElem?_toList];exact this
    show(cur.toList.take (j*s.w+off)++cz++cur.toList.drop (j*s.w+off+cz.length))[q]? =some u
    have hpl:(c1++d1).length=j*s.w+off:=by simp[hk1,m1]
    have htk:cur.toList.take (j*s.w+off)=c1++d1:=by
     refine List.ext_getElem? fun i=> ?_
     rw[List.getElem?_take]
     split
     ·rename_i hi
      have hi2:i<(c1++d1).length:=by omega
      have:=old i (c1++d1)[i] (by rw[show c1++((d1++(de++d2))++c2)=(c1++d1)++(de++(d2++c2)) by simp,List.getElem?_append_left hi2,List.getElem?_eq_getElem hi2])
      rw[this,List.getElem?_eq_getElem hi2]
     ·rename_i hi
      rw[List.getElem?_eq_none (by omega)]
    rw[htk]
    rw[show c1++((d1++(cz++d2))++c2)=(c1++d1)++cz++(d2++c2) by simp] at hu
    by_cases hq:q<((c1++d1)++cz).length
    ·rw[List.getElem?_append_left hq] at hu ⊢;exact hu
    ·rw[List.getElem?_append_right (by omega)] at hu ⊢
     rw[List.getElem?_drop]
     have hl3:((c1++d1)++cz).length=j*s.w+off+cz.length:=by rw[List.length_append,hpl]
     rw[hl3] at hu ⊢
     have := old q u (by
      rw[show c1++((d1++(de++d2))++c2)=((c1++d1)++de)++(d2++c2) by simp,List.getElem?_append_right (by rw[List.length_append,hpl,hde];omega),List.length_append,hpl,hde];exact hu)
     rw[show j*s.w+off+cz.length+(q - (j*s.w+off+cz.length))=q by omega];exact this
   ·simp only[arr,List.size_toArray,List.length_append,List.length_take,List.length_drop,Array.length_toList]
    omega)
  hnd (fun q hq => by
   left
   rcases List.mem_cons.1 hq with rfl|hq
   ·exact⟨t,by simp,by rw[hbo];simp⟩
   ·rcases sub q hq with h|h
    ·exact⟨t,by simp,by rw[hbo];exact List.mem_cons_of_mem _ h⟩
    ·obtain ⟨u, hu, h'⟩ := hyl q h; exact ⟨u, List.mem_cons_of_mem _ hu, h'⟩) (fun q hq => by
   rw[size_setRow]
   rcases List.mem_cons.1 hq with rfl|hq
   ·exact hR.lt (.t t) q (by rw[hbo];simp)
   ·exact hlt q hq)
 rw[Gs] at w1
 refine⟨undef,_,F,Θ,own',.inr ⟨rfl,hrun⟩,?_,w2⟩
 rw[hd]
 exact w1
theorem NG (hd:∀k,o.dst=some k→k<S.n) (T x:Nat) (y:Operand) (ho:o.op=.call { callee:=.builtin .append,args:= #[.tmp x,y],argTypes:= #[T,T] }) (hxy:x∉tmO y) (ti te:TI) (e:Nat) (s:Sh) (ht:c.ty T=some ti) (hk:ti.kd=.sl e s)
  (hte:c.ty e=some te) (hts:te.sh=s) (oy:okO c T y) (es ys:List DD) (ob:Bool) (hx:S.tm x=.ms s es) (hy:tkT c T S y=.d (.sl ob s ys)) (hes:DD.ows es) (hys:DD.ows ys)
  (hm:es.length+ys.length≤maxLen) (hby:(es.length+ys.length)*te.bytes≤140737488355328):Snd c o S ⟨S.n,B1 (BD S.tm (x::tmO y)) o.dst (.ms s (es++ys)),S.hp⟩:=by
 intro w F Θ own a hR
 have hT:=c.ok T ti ht
 have hE:=c.ok e te hte
 obtain⟨ii,hi1,hi2,hi3,hi4⟩:=hE.info
 have hkd:=hT.kd
 rw[hk] at hkd
 obtain⟨-,h0,hu, -⟩:=hkd
 have hvx:=hR.tm x
 rw[hx] at hvx
 simp only[rv] at hvx
 obtain⟨F1,h1,h2,h3⟩:=hvx.sl (hR.nd _)
 have hvy:=Gf hR oy
 rw[hy] at hvy
 simp only[rv] at hvy
 obtain⟨cy,hvy,ey⟩:=hvy
 have hhd:∀q,q∈(own (.t x)).head? →q∈own (.t x):=fun q hq=>List.mem_of_mem_head? hq
 have mono:∀b,F b≤F1 b:=fun b=>by
  by_cases e:b∈(own (.t x)).head?
  ·rw[(h3 b e).1];exact Nat.zero_le _
  ·rw[h2 b e];exact Nat.le_refl _
 have hyx:∀q∈(tmO y).flatMap fun t=>own (.t t),q∉own (.t x):=fun q hq h=>by
  obtain⟨u,hu,h'⟩:=List.mem_flatMap.1 hq
  exact hR.dj (.t u) (.t x) (fun e=>hxy (by cases e;exact hu)) q h' h
 have hvy1:rp w F1 (.sl ob s ys) cy ((tmO y).flatMap fun t=>own (.t t)):=rp.keep _ _ _ hvy ⟨fun _ _ _=>rfl,mono,fun b hb=>⟨rfl,h2 b (fun e=>hyx b hb (hhd b e))⟩⟩
 have gy:∃vy,cy=[vy]∧a.eval y=vy:=by
  have h:=hvy
  simp only[rp] at h
  obtain⟨-, -,a',cap,rfl, -⟩:=h
  exact⟨_,rfl,ey⟩
 obtain⟨vy,rfl,ey'⟩:=gy
 have hyn:((tmO y).flatMap fun t=>own (.t t)).Nodup:=by
  refine List.pairwise_flatMap.2 ⟨fun t _=>hR.nd _,?_⟩
  cases y<;>simp[tmO]
 have hnd:(own (.t x)++(tmO y).flatMap fun t=>own (.t t)).Nodup:=List.nodup_append.2 ⟨hR.nd _,hyn,fun p hp q hq e=>by subst e;exact hyx p hq hp⟩
 have hsub:∀b,b∈own (.t x)++((tmO y).flatMap fun t=>own (.t t))→∃t∈x::tmO y,b∈own (.t t):=fun b hb=>by
  rcases List.mem_append.1 hb with h|h
  ·exact⟨x,by simp,h⟩
  ·obtain⟨u,hu,h'⟩:=List.mem_flatMap.1 h;exact⟨u,List.mem_cons_of_mem _ hu,h'⟩
 have htop1:∀b,w.heap.size≤b→F1 b=0:=fun b hb=>by rw[h2 b (fun e=>by have:=hR.lt _ b (hhd b e);omega)];exact hR.top b hb
 obtain⟨v',w',F2,bs,m1,m2,m3,m4,m5,m6,m7,m8⟩:=LJ (P:=c.P) T o.type e ii te.z te.zc hu hi1 (by rw[hi2,hts]) hi4 hE.z (by rw[hE.zs,hts]) h1 hvy1 hnd (fun b hb=>by obtain⟨t,_,q⟩:=hsub b hb;exact hR.lt _ b q) htop1 hm (by rw[hi3];exact hby)
 have hrun:(execOp a.eval o).run c.P w=.ok (.value v') w':=by
  unfold execOp
  have ex':a.eval (.tmp x)=a.tmps.getD x undef:=rfl
  simp only[ho,resolve,invoke,builtin,Sem.run_bind,Sem.run_pure,Result.andThen_ok,List.map_toArray,List.map_cons,List.map_nil,ex',ey',m1]
 -- the first block of the result is not frozen
 let F':Nat→Nat:=fun b=>if b∈bs.head? then 0 else F2 b
 have f0:∀b,b∈bs.head? →F' b=0:=fun b hb=>if_pos hb
 have f1:∀b,b∉bs.head? →F' b=F2 b:=fun b hb=>if_neg hb
 have hF0:∀b,b∈bs.head? →F b=0:=fun b hb=>by
  rcases m8 b hb with h|h
  ·exact(h3 b h).1
  ·exact hR.top b h
 have ks : Ks w F w' F' (fun b => ∃ t ∈ x :: tmO y, b ∈ own (.t t)) := ⟨m3.os, m3.tape, m3.output, m3.size, fun b q hq => m3.cell b q (Nat.lt_of_lt_of_le hq (mono b)), fun b => by
  by_cases e:b∈bs.head?
  ·rw[hF0 b e];exact Nat.zero_le _
  ·rw[f1 b e];exact Nat.le_trans (mono b) (m3.mono b),fun b hb hne=>by
   have g1:b∉own (.t x):=fun h=>hne ⟨x,by simp,h⟩
   have g2:=m3.out b hb g1
   have g3:b∉bs.head? :=fun h=>by
    rcases m8 b h with q|q
    ·exact g1 (hhd b q)
    ·omega
   exact⟨g2.1,(f1 b g3).trans (g2.2.trans (h2 b (fun e=>g1 (hhd b e))))⟩⟩
 obtain ⟨own', k1, k2⟩ := hR.fin (w' := w') (F' := F') o.dst hd (x :: tmO y) (.ms s (es ++ ys)) v' bs ks (fun b hb => by
   by_cases e:b∈bs.head?
   ·exact f0 b e
   ·rw[f1 b e];exact m7 b hb)
  (by
   simp only[rv]
   refine rms.of m2 ?_ m4 (fun q _ hq=>f1 q hq) f0
   rw[DD.ows_iff] at hes hys ⊢
   intro d hd
   rcases List.mem_append.1 hd with h|h
   ·exact hes d h
   ·exact hys d h) m4 (fun b hb=>by rcases m5 b hb with h|h;exact .inl (hsub b h);exact .inr h) m6
 exact⟨_,_,_,Θ,own',.inl hrun,k1,k2⟩
end
mutual
def AV.nf:AV→Prop
 | .un=>True
 | .d _=>True
 | .pt _ _ _=>False
 | .el _=>True
 | .rw _ _ _=>False
 | .tp l=>AV.nfs l
 | .fn _ c=>AV.nfs c
 | .fr l=>AV.nfs l
 | .ep a=>a.nf
 | .ms _ _=>False
 | .mb _ _ _=>False
 | .mp _ _ _ _=>False
 | .pv _=>False
 | .mt _=>False
 | .mn _ _=>False
def AV.nfs:List AV→Prop
 |[]=>True
 |a::l=>a.nf∧AV.nfs l
end
mutual
theorem rv.theta {w:World} {F:Nat→Nat} {Θ Θ':Ty}:∀(a:AV) (v:Value) (bs:List Nat),a.nf→rv w F Θ a v bs→rv w F Θ' a v bs
 | .un,v,bs,_,h=>by simpa only[rv] using h
 | .d x,v,bs,_,h=>by simpa only[rv] using h
 | .pt _ _ _,v,bs,n,h=>n.elim
 | .el x,v,bs,_,h=>by simpa only[rv] using h
 | .rw _ _ _,v,bs,n,h=>n.elim
 | .tp l,v,bs,n,h=>by
  simp only[AV.nf] at n
  simp only[rv] at h ⊢
  obtain⟨vs,h1,h2⟩:=h
  exact⟨vs,h1,rvS.theta l vs bs n h2⟩
 | .fn f c,v,bs,n,h=>by
  simp only[AV.nf] at n
  simp only[rv] at h ⊢
  obtain⟨vs,h1,h2⟩:=h
  exact⟨vs,h1,rvS.theta c vs bs n h2⟩
 | .fr l,v,bs,n,h=>by
  simp only[AV.nf] at n
  simp only[rv] at h ⊢
  obtain⟨h0,b,vs,h1,h2,h3,h4,h5⟩:=h
  exact⟨h0,b,vs,h1,h2,h3,rvS.theta l vs [] n h4,h5⟩
 | .ep a,v,bs,n,h=>by
  simp only[AV.nf] at n
  simp only[rv] at h ⊢
  obtain⟨h0,b,off,u,h1,h2,h3,h4⟩:=h
  exact⟨h0,b,off,u,h1,h2,rv.theta a u [] n h3,h4⟩
 | .ms _ _,v,bs,n,h=>n.elim
 | .mb _ _ _,v,bs,n,h=>n.elim
 | .mp _ _ _ _,v,bs,n,h=>n.elim
 | .pv _,v,bs,n,h=>n.elim
 | .mt _,v,bs,n,h=>n.elim
 | .mn _ _,v,bs,n,h=>n.elim
theorem rvS.theta {w:World} {F:Nat→Nat} {Θ Θ':Ty}:∀(l:List AV) (vs:List Value) (bs:List Nat),AV.nfs l→rvS w F Θ l vs bs→rvS w F Θ' l vs bs
 |[],vs,bs,_,h=>by simpa only[rvS] using h
 |a::l,vs,bs,n,h=>by
  simp only[AV.nfs] at n
  simp only[rvS] at h ⊢
  obtain⟨v,r,b1,b2,h1,h2,h3,h4⟩:=h
  exact⟨v,r,b1,b2,h1,h2,rv.theta a v b1 n.1 h3,rvS.theta l r b2 n.2 h4⟩
end
mutual
def AV.ow:AV→Prop
 | .un=>True
 | .d x=>x.ow
 | .tp l=>AV.ows l
 |_=>False
def AV.ows:List AV→Prop
 |[]=>True
 |a::l=>a.ow∧AV.ows l
end
mutual
theorem rv.keepO {w w':World} {F F':Nat→Nat} {Θ Θ':Ty}:∀(a:AV) (v:Value) (bs:List Nat),a.ow→rv w F Θ a v bs→(∀b∈bs,w'.heap[b]? =w.heap[b]? ∧F' b=F b)→rv w' F' Θ' a v bs
 | .un,v,bs,_,h,_=>by simpa only[rv] using h
 | .d x,v,bs,n,h,k=>by
  simp only[rv] at h ⊢
  obtain⟨cs,h1,h2⟩:=h
  exact⟨cs,rp.keepO x cs bs h1 n k,h2⟩
 | .tp l,v,bs,n,h,k=>by
  simp only[AV.ow] at n
  simp only[rv] at h ⊢
  obtain⟨vs,h1,h2⟩:=h
  exact⟨vs,h1,rvS.keepO l vs bs n h2 k⟩
 | .pt _ _ _,v,bs,n,h,_=>n.elim
 | .el _,v,bs,n,h,_=>n.elim
 | .rw _ _ _,v,bs,n,h,_=>n.elim
 | .fn _ _,v,bs,n,h,_=>n.elim
 | .fr _,v,bs,n,h,_=>n.elim
 | .ep _,v,bs,n,h,_=>n.elim
 | .ms _ _,v,bs,n,h,_=>n.elim
 | .mb _ _ _,v,bs,n,h,_=>n.elim
 | .mp _ _ _ _,v,bs,n,h,_=>n.elim
 | .pv _,v,bs,n,h,_=>n.elim
 | .mt _,v,bs,n,h,_=>n.elim
 | .mn _ _,v,bs,n,h,_=>n.elim
theorem rvS.keepO {w w':World} {F F':Nat→Nat} {Θ Θ':Ty}:∀(l:List AV) (vs:List Value) (bs:List Nat),AV.ows l→rvS w F Θ l vs bs→(∀b∈bs,w'.heap[b]? =w.heap[b]? ∧F' b=F b)→rvS w' F' Θ' l vs bs
 |[],vs,bs,_,h,_=>by simpa only[rvS] using h
 |a::l,vs,bs,n,h,k=>by
  simp only[AV.ows] at n
  simp only[rvS] at h ⊢
  obtain⟨v,r,b1,b2,h1,h2,h3,h4⟩:=h
  subst h2
  exact⟨v,r,b1,b2,h1,rfl,rv.keepO a v b1 n.1 h3 (fun b hb=>k b (by simp[hb])),rvS.keepO l r b2 n.2 h4 (fun b hb=>k b (by simp[hb]))⟩
end
def Pc (c:Cx) (us:List Nat) (v:AV) (S:St) (T:Nat):Operand→AV
 | .tmp u=>bif us.contains u then v else (S.tm u).vw
 |x=>evT c T S x
theorem OS.callB {c:Cx} {ops:Array Oper} {o:Oper} {S:St} (hd:∀k,o.dst=some k→k<S.n) (hw:wnt ops o S=some true) (f:Operand) (args:Array Operand) (argTypes:Array TypeId) (ho:o.op=.call { callee:=.value f,args,argTypes })
  (g:Nat) (caps:List AV) (hf:evT c 0 S f=.fn g caps) (of:okO c 0 f) (fn:Func) (body:Code) (hg:CU c.P g fn body) (hTs:argTypes.toList.length=args.toList.length) (hok:∀x∈argTypes.toList.zip args.toList,okO c x.1 x.2)
  (t:Nat) (us:List Nat) (v0:Value) (s:Sh) (es:List DD) (hm:S.tm t=.mb v0 s es) (hus:∀u∈us,(S.tm u).vw=.pv v0) {as':List AV} (ha:(argTypes.toList.zip args.toList).map (fun x=>Pc c us (.d (.sl false s (DD.vws es))) S x.1 x.2)++caps=as') (hnf:AV.nfs as') (r:AV) (hc:∀h,CS c.P g as' h r h) (hr:r.ow):OS c ops o S ⟨S.n,B1 S.tm o.dst r,S.hp⟩:=by
 subst ha
 intro w F Θ own a hR K Q hK
 rw[if_pos (Dz (c:=c) hR hw)]
 have hfv:=BU hR of
 rw[hf] at hfv
 simp only[rv] at hfv
 obtain⟨vc,ef,hvc⟩:=hfv
 have hrun:(execOp a.eval o).run c.P w=.ok (.enter g (args.map a.eval++vc.toArray)) w:=by
  have hne:=hg.bd
  have hnm:=hg.nm
  unfold execOp
  simp only[ho,resolve,ef]
  simp[Deferred.ofValue,invoke,callFunc,hg.get,hne]
  simp only[beq_eq_false_iff_ne] at hnm
  simp[hnm]
 unfold Oper.wp
 rw[hrun,Oper.upon_enter]
 -- the slice,closed
 have hms:rms w F s es (a.tmps.getD t undef) (own (.t t)):=by
  have h:=hR.tm t
  rw[hm] at h
  simp only[rv] at h
  exact h.2
 have hvt:a.tmps.getD t undef=v0:=by
  have h:=hR.tm t
  rw[hm] at h
  simp only[rv] at h
  exact h.1
 obtain⟨F1,h1,h2,h3⟩:=hms.sl (hR.nd _)
 have hhd:∀q,q∈(own (.t t)).head? →q∈own (.t t):=fun q hq=>List.mem_of_mem_head? hq
 have mono:∀b,F b≤F1 b:=fun b=>by
  by_cases e:b∈(own (.t t)).head?
  ·rw[(h3 b e).1];exact Nat.zero_le _
  ·rw[h2 b e];exact Nat.le_refl _
 have kp0:Kp w F w F1 []:=⟨fun _ _ _=>rfl,mono,by simp⟩
 have hTT:∀lv k (x:Nat×Sh),Θ lv k=some x→Θ lv k=some x:=fun _ _ _ q=>q
 have hlen:(argTypes.toList.zip args.toList).length=args.toList.length:=by simp[hTs]
 let avs:=(argTypes.toList.zip args.toList).map (fun x=>Pc c us (.d (.sl false s (DD.vws es))) S x.1 x.2)++caps
 let vs:=args.toList.map a.eval++vc
 have hcl:=(Ij caps vc hvc).1
 have hvl:avs.length=vs.length:=by simp only[avs,vs,List.length_append,List.length_map,hlen,hcl]
 have one:∀(T:Nat) (x:Operand),okO c T x→rv w F1 Θ (Pc c us (.d (.sl false s (DD.vws es))) S T x) (a.eval x) []:=fun T x hx=>by
  have gen:rv w F1 Θ (evT c T S x) (a.eval x) []:=rv.keep hTT _ _ _ (BU hR hx) kp0
  cases x with
  |tmp u=>
   show rv w F1 Θ (bif us.contains u then _ else (S.tm u).vw) _ _
   cases e:us.contains u with
   |true=>
    have hu:=hus u (by simpa using e)
    have h3:=rv.view _ _ _ (hR.tm u)
    rw[hu] at h3
    simp only[rv] at h3
    simp only[cond_true,rv]
    have:=rp.view _ _ _ h1
    simp only[DD.vw] at this
    rw[hvt] at this
    refine⟨_,this,?_⟩
    exact h3.2
   |false=>exact gen
  |const v=>exact gen
  |func f=>exact gen
  |global g=>exact gen
 have hall:rvS w F1 Θ avs vs []:=by
  have app:∀(l:List (Nat×Operand)),(∀x∈l,okO c x.1 x.2)→rvS w F1 Θ (l.map (fun x=>Pc c us (.d (.sl false s (DD.vws es))) S x.1 x.2)++caps) (l.map (fun x=>a.eval x.2)++vc) []:=by
   intro l
   induction l with
   |nil=>intro _;exact rvS.keep hTT _ _ _ hvc kp0
   |cons x l ih=>
    intro hl
    simp only[List.map_cons,List.cons_append,rvS]
    exact⟨_,_,[],[],rfl,rfl,one x.1 x.2 (hl x (by simp)),ih (fun y hy=>hl y (by simp[hy]))⟩
  have e:(argTypes.toList.zip args.toList).map (fun x=>a.eval x.2)=args.toList.map a.eval:=by
   have:(argTypes.toList.zip args.toList).map Prod.snd=args.toList:=List.map_snd_zip (by omega)
   rw[←this,List.map_map,this];rfl
  have:=app _ hok
  rw[e] at this
  exact this
 have hgs:=(Ij avs vs (rvS.theta avs vs [] hnf hall) (Θ:=fun _ _=>none)).2
 have hRE:Rel w F1 (fun _ _=>none) (fun _=>[]) (Ck avs []) ⟨vs.toArray,[]⟩:=by
  refine⟨by simp[Ck,hvl],rfl,fun i=> ?_,fun lv k _=>⟨rfl,rfl,rfl⟩,fun lv k cn hq=>by simp[Ck,hpg] at hq,fun _=>List.nodup_nil,fun _ _ _ b hb=>by simp at hb,fun _ b hb=>by simp at hb,fun b hb=> ?_,hR.gl.ks (E:=fun _=>True) ⟨rfl,rfl,rfl,Nat.le_refl _,fun _ _ _=>rfl,mono,fun _ _ h=>absurd trivial h⟩⟩
  ·have:=hgs i
   simpa[Ck,List.getD_eq_getElem?_getD,Array.getD_eq_getD_getElem?] using this
  ·rw[h2 b (fun e=>by have:=hR.lt _ b (hhd b e);omega)];exact hR.top b hb
 have hvs:(args.map a.eval++vc.toArray)=vs.toArray:=by simp[vs]
 rw[hvs]
 refine Calls.mono (hc [] w F1 _ _ vs hRE) fun e w' ⟨v,F2,own',he,hR',hS⟩=> ?_
 subst he
 have hout:∀b,b<w.heap.size→w'.heap[b]? =w.heap[b]? ∧F2 b=F1 b:=fun b hb=>hS.ks.out b hb (by rintro ⟨x,hx⟩;simp at hx)
 have hfr:∀b∈own' (.t 0),w.heap.size≤b:=fun b hb=>by
  rcases hS.fr (.t 0) b hb with ⟨y,hy⟩|hy
  ·simp at hy
  ·exact hy
 let F':Nat→Nat:=fun b=>if b∈(own (.t t)).head? then 0 else F2 b
 have f0:∀b,b∈(own (.t t)).head? →F' b=0:=fun b hb=>if_pos hb
 have f1:∀b,b∉(own (.t t)).head? →F' b=F2 b:=fun b hb=>if_neg hb
 have hr0:rv w' F2 (fun _ _=>none) r v (own' (.t 0)):=by simpa[Gr] using hR'.tm 0
 obtain⟨own2,k1,k2⟩:=hR.fin (w':=w') (F':=F') o.dst hd [] r v (own' (.t 0))
  ⟨hS.ks.os, hS.ks.tape, hS.ks.output, hS.ks.size, fun b q hq => hS.ks.cell b q (Nat.lt_of_lt_of_le hq (mono b)), fun b => by
   by_cases e:b∈(own (.t t)).head?
   ·rw[(h3 b e).1];exact Nat.zero_le _
   ·rw [f1 b e]; exact Nat.le_trans (mono b) (hS.ks.mono b), fun b hb _ => ⟨(hout b hb).1, by
   by_cases e:b∈(own (.t t)).head?
   ·rw[f0 b e,(h3 b e).1]
   ·rw[f1 b e,(hout b hb).2,h2 b e]⟩⟩
  (fun b hb => by
   by_cases e:b∈(own (.t t)).head?
   ·exact f0 b e
   ·rw[f1 b e];exact hR'.top b hb)
  (rv.keepO r v _ hr hr0 fun b hb=>⟨rfl,f1 b (fun e=>by have:=hfr b hb;have:=hR.lt _ b (hhd b e);omega)⟩)
  (hR'.nd _) (fun b hb=> .inr (hfr b hb)) (fun b hb=>hR'.lt _ b hb)
 exact hK _ _ _ _ _ k1 k2
theorem W.fzR {c:Cx} {id:Nat} {ops:Array Oper} {d:Bool} {S T:St} {Q:Exit→St→Prop} {h:HP} (t k:Nat) (ts ks:List Nat) {x:DD} (w:W c (.region id ops d) T Q) (ht:S.tm t=.pt 0 k []:=by rfl) (hk:hd S k=some (.d x):=by rfl) (hh:S.hp.tail=upH h:=by rfl) (h0:S.hp≠[]:=by simp)
  (h1:∀p∈tls S ts,p.1≠t∧p.2.cl (hls (hd S) ks):=by simp) (h2:∀p∈hls (hd S) ks,p.1≠k∧p.2.cl (hls (hd S) ks):=by simp) (e:(⟨S.n,tl ((t,.el x.vw)::tls S ts),al (hls (hd S) ks)::S.hp.tail⟩:St)=T:=by simp;rfl):W c (.region id ops d) S Q:=
 W.frzB t k x ts ks hh h0 ht hk h1 h2 e w
class VwOk (l:List AV):Prop where
 ok:AV.vws l=l
def psT (ps:Array (Nat×Operand)):List Nat:=ps.toList.filterMap fun p=>match p.2 with
 | .tmp t=>some t
 |_=>none
section
variable {c:Cx} {ops:Array Oper} {o:Oper} {l:List Oper} {S S1:St} {K:St→Prop}
theorem Xfr {k0 T n e:Nat} {ps:Array (Nat×Operand)} {ii:TypeInfo} {z:Value} {fs:List AV} (k:WL c ops l S1 K) (ho:o.op=.buildSlice T n ps:=by rfl) (hd:o.dst=some k0:=by rfl) (hg:o.guard=none:=by rfl) (hn:n=(psT ps).length:=by rfl) (hps:ps.toList=(List.range' 0 (psT ps).length).zip ((psT ps).map .tmp):=by rfl) (hk:k0<S.n:=by simp)
  (hf:((psT ps).map fun t=>(S.tm t).vw)=fs:=by simp[psT];rfl) (hfF:∀a∈fs,a.isF:=by simp[AV.isF]) (hu:c.P.underlying T=some (.slice e):=by rfl) (hi:c.P.info? e=some ii:=by rfl) (hsz:ii.size=1:=by rfl) (hz:ii.zero=some z:=by rfl) (hzc:z.cells.size=1:=by rfl) (hn2:(psT ps).length≤1000:=by decide) (h0:0<(psT ps).length:=by decide)
  (e1:(⟨S.n,upd S.tm k0 (.fr fs),S.hp⟩:St)=S1:=by simp;rfl):WL c ops (o::l) S K:=by
 subst hn
 exact WL.opFr hg hd hk T (psT ps) ho hps hu hi hsz hz hzc hn2 h0 hf hfF e1 k
theorem i7 {k0 T e:Nat} {x:Operand} {fs:List AV} (k:WL c ops l S1 K) (ho:o.op=.call { callee:=.builtin .len,args:= #[x],argTypes:= #[T] }:=by rfl) (hx:evT c 0 S x=.fr fs:=by rfl) (hd:o.dst=some k0:=by rfl) (hg:o.guard=none:=by rfl) (hk:k0<S.n:=by simp) (hu:c.P.underlying T=some (.slice e):=by rfl) (ox:okO c 0 x:=by trivial)
  (e1:(⟨S.n,upd S.tm k0 (.d (.lf (.int .i64 (fs.length:Int)))),S.hp⟩:St)=S1:=by simp[H];rfl):WL c ops (o::l) S K:=WL.lenFr hg hd hk T x ho hu hx ox e1 k
theorem lT {k0 T e:Nat} {x i:Operand} {ii:TypeInfo} {fs:List AV} {ki:IntKind} {j:Nat} {f:AV} (k:WL c ops l S1 K) (ho:o.op=.indexAddr T x i:=by rfl) (hx:evT c T S x=.fr fs:=by rfl) (hj:evT c 0 S i=.d (.lf (.int ki (j:Int))):=by rfl) (hf:fs[j]? =some f:=by simp[H];rfl) (hd:o.dst=some k0:=by rfl) (hg:o.guard=none:=by rfl) (hk:k0<S.n:=by simp) (hu:c.P.underlying T=some (.slice e):=by rfl) (hi:c.P.info? e=some ii:=by rfl) (hsz:ii.size=1:=by rfl) (ox:okO c T x:=by trivial) (oi:okO c 0 i:=by trivial)
  (e1:(⟨S.n,upd S.tm k0 (.ep f),S.hp⟩:St)=S1:=by simp[H];rfl):WL c ops (o::l) S K:=WL.ixFr hg hd hk T x i ho hu hi hsz hx ox j hj oi hf e1 k
theorem lS {k0 T:Nat} {x:Operand} {f:AV} (k:WL c ops l S1 K) (ho:o.op=.load T x:=by rfl) (hx:evT c 0 S x=.ep f:=by rfl) (hT:(isAgg T).run c.P=(fun w=> .ok false w):=by rfl) (hd:o.dst=some k0:=by rfl) (hg:o.guard=none:=by rfl) (hk:k0<S.n:=by simp) (ox:okO c 0 x:=by trivial)
  (e1:(⟨S.n,upd S.tm k0 f,S.hp⟩:St)=S1:=by simp[H];rfl):WL c ops (o::l) S K:=WL.ldEp hg hd hk T x ho hT hx ox e1 k
theorem XlH (ts:List Nat) {f:Operand} {args:Array Operand} {argTypes:Array TypeId} {g:Nat} {cs as':List AV} {r:AV} {h':HP} {fn:Func} (hget:c.P.funcs[g]? =some fn) (hc:CS c.P g as' S.hp r h') (k:WL c ops l S1 K)
  (ho:o.op=.call { callee:=.value f,args,argTypes }:=by rfl) (hg:o.guard=none:=by rfl) (hf:evT c 0 S f=.fn g cs:=by rfl) (of:okO c 0 f:=by simp) (hd:∀k,o.dst=some k→k<S.n:=by simp) (hTs:argTypes.toList.length=args.toList.length:=by rfl) (hok:∀x∈argTypes.toList.zip args.toList,okO c x.1 x.2:=by simp) (hn:(gvn ts args.toList).Nodup:=by simp[G])
  (ha:(argTypes.toList.zip args.toList).map (fun x=>Cr c ts S x.1 x.2)++cs=as':=by first|(simp(disch:=first|(simp;done)|omega) [M,G,H,BH];done)|(simp(disch:=first|(simp;done)|omega) [M,G,H,BH];rfl)|rfl) (hb:fn.body.isSome=true:=by rfl) (hnm:(fn.name== "runtime.NumGoroutine")=false:=by rfl)
  (e:(⟨S.n,B1 (BD S.tm (gvn ts args.toList)) o.dst r,h'⟩:St)=S1:=by first|(simp(disch:=first|(simp;done)|omega) [M,G,H,BH];rfl)|rfl):WL c ops (o::l) S K:=by
 obtain⟨b,hfn⟩:=fok (c:=c) hget hb hnm
 exact WL.call ts f args argTypes ho hg hd hf of hfn hTs hok hn ha hc e k
theorem Mq (hd:∀k,o.dst=some k→k<S.n) (hw:wnt ops o S=some true) (f:Operand) (args:Array Operand) (argTypes:Array TypeId) (ho:o.op=.call { callee:=.value f,args,argTypes }) (ts:List Nat)
  (g:Nat) (caps:List AV) (hf:evT c 0 S f=.fn g caps) (of:okO c 0 f) (fn:Func) (body:Code) (hg:CU c.P g fn body) (Ts:List Nat) (hTs:Ts.length=args.toList.length) (hok:∀x∈Ts.zip args.toList,okO c x.1 x.2) (hn:(gvn ts args.toList).Nodup)
  (r:AV) (h':HP) (hc:CS c.P g ((Ts.zip args.toList).map (fun x=>Cr c ts S x.1 x.2)++caps) S.hp r h'):(⟨o,gvn ts args.toList,r,.hp h'⟩:Fsk).valid c ops S:=by
 intro S1 k
 have hmem:∀x∈args.toList,x∈o.op.operands.toList:=fun x hx=>by rw[ho];simp[Op.operands,Call.operands] at hx ⊢;exact .inr hx
 have ef:evT c 0 S1 f=evT c 0 S f:=I0 (fun t e=>k.rd t (DK (by rw[ho,e];simp[Op.operands,Call.operands]))) 0
 have ea:((Ts.zip args.toList).map (fun x=>Cr c ts S1 x.1 x.2))=(Ts.zip args.toList).map (fun x=>Cr c ts S x.1 x.2):=by
  refine List.map_congr_left fun x hx=> ?_
  obtain⟨T,x⟩:=x
  have hx2:=(List.of_mem_zip hx).2
  cases x with
  |tmp t=>
   simp only[Cr]
   cases hq:ts.contains t with
   |true=>
    simp only[cond_true]
    refine k.ts t ?_
    simp only[gvn,List.mem_flatMap]
    exact⟨.tmp t,hx2,by simp only[hq,cond_true,List.mem_singleton]⟩
   |false=>simp only[cond_false];exact k.rd t (DK (hmem _ hx2))
  |_=>rfl
 have hh:S1.hp=S.hp:=k.hp
 exact OS.call (c:=c) (by rw[k.n];exact hd) ((GR k.rd).trans hw) f args argTypes ho ts g caps (ef.trans hf) of fn body hg Ts hTs hok hn r h' (by rw[ea,hh];exact hc)
theorem bO {acc:List Sk} (ts:List Nat) {f:Operand} {args:Array Operand} {argTypes:Array TypeId} {g:Nat} {cs as':List AV} {r:AV} {h':HP} {fn:Func} (hget:c.P.funcs[g]? =some fn) (hc:CS c.P g as' S.hp r h') (k:DL c ops (acc++[⟨gvn ts args.toList,.hp⟩]) l S1 K)
  (ho:o.op=.call { callee:=.value f,args,argTypes }:=by rfl) (hg:o.guard=none:=by rfl) (hf:evT c 0 S f=.fn g cs:=by rfl) (of:okO c 0 f:=by simp) (hd:∀k,o.dst=some k→k<S.n:=by simp) (hTs:argTypes.toList.length=args.toList.length:=by rfl) (hok:∀x∈argTypes.toList.zip args.toList,okO c x.1 x.2:=by simp) (hn:(gvn ts args.toList).Nodup:=by simp[G])
  (ha:(argTypes.toList.zip args.toList).map (fun x=>Cr c ts S x.1 x.2)++cs=as':=by first|(simp(disch:=first|(simp;done)|omega) [M,G,H,BH];done)|(simp(disch:=first|(simp;done)|omega) [M,G,H,BH];rfl)|rfl) (hb:fn.body.isSome=true:=by rfl) (hnm:(fn.name== "runtime.NumGoroutine")=false:=by rfl)
  (e:(⟨S.n,B1 (BD S.tm (gvn ts args.toList)) o.dst r,h'⟩:St)=S1:=by first|(simp(disch:=first|(simp;done)|omega) [M,G,H,BH];rfl)|rfl):DL c ops acc (o::l) S K:=by
 obtain⟨b,hfn⟩:=fok (c:=c) hget hb hnm
 subst ha
 exact DL.cons ⟨o,gvn ts args.toList,r,.hp h'⟩ rfl (Mq hd (by unfold wnt;rw[hg]) f args argTypes ho ts g cs hf of fn b hfn argTypes.toList hTs hok hn r h' hc) (fun _ _ h=>by cases h) (fun _ _ h=>by cases h) e k
end
theorem GF {P A : Prop} (k : A) (h : A → P := by
 first
  |exact fun k=>i7 k
  |exact fun k=>lT k
  |exact fun k=>lS k
  |exact fun k=>Xfr k):P:=h k
class VwC (l:List AV):Prop where
 ok:AV.vws l=l
 up:AV.ups l=l
 cl:∀L,AV.cls L l
instance VwC_n:VwC []:=⟨rfl,rfl,fun _=>by simp[AV.cls]⟩
instance VwC_e (x:DD) (l:List AV) [h:VwC l]:VwC (.el x::l):=⟨by simp only[AV.vws,AV.vw,h.ok],by simp only[AV.ups,AV.up,h.up],fun L=>by simp only[AV.cls,AV.cl];exact⟨trivial,h.cl L⟩⟩
instance VwC_f (g:Nat) (c l:List AV) [k:VwC c] [h:VwC l]:VwC (.fn g c::l):=⟨by simp only[AV.vws,AV.vw,h.ok,k.ok],by simp only[AV.ups,AV.up,h.up,k.up],fun L=>by simp only[AV.cls,AV.cl];exact⟨k.cl L,h.cl L⟩⟩
theorem VwC.all {l:List AV} (h:VwC l):AV.vws l=l∧AV.ups l=l∧∀L,AV.cls L l:=⟨h.ok,h.up,h.cl⟩

theorem ic {S:St} (g:Nat→AV) (h:∀t,g t=S.tm t∨g t=.un):Wz S ⟨S.n,g,S.hp⟩:=fun w F Θ own a hR=>by
 classical
 let own':Who→List Nat:=fun x=>match x with
  | .t t=>if g t=S.tm t then own (.t t) else []
  |y=>own y
 have sub:∀x b,b∈own' x→b∈own x:=fun x b hb=>by
  cases x with
  |t t=>simp only[own'] at hb;split at hb;exact hb;simp at hb
  |h lv q=>exact hb
  |l lv q=>exact hb
 refine⟨F,Θ,own',⟨hR.n,hR.df,fun t=> ?_,hR.hn,hR.hs,fun x=> ?_,fun x y hxy b hx hy=>hR.dj x y hxy b (sub x b hx) (sub y b hy),fun x b hb=>hR.lt x b (sub x b hb),hR.top,hR.gl⟩,⟨Ks.refl _ _ _,fun x b hb=> .inl ⟨x,sub x b hb⟩,fun _ _=>rfl⟩⟩
 ·show rv w F Θ (g t) _ _
  by_cases e:g t=S.tm t
  ·have:own' (.t t)=own (.t t):=if_pos e
   rw[this,e];exact hR.tm t
  ·have:own' (.t t)=[]:=if_neg e
   rw[this,(h t).resolve_left e]
   simp only[rv]
 ·cases x with
  |t t=>show(if _ then _ else _:List Nat).Nodup;split;exact hR.nd _;exact List.nodup_nil
  |h lv q=>exact hR.nd _
  |l lv q=>exact hR.nd _
def Dy (lo d:Nat) (f:Nat→AV):Nat→AV:=fun t=>bif Nat.ble lo t && Nat.ble t d then .un else f t
theorem Rk {lo d t:Nat} {f:Nat→AV} (h:t<lo):Dy lo d f t=f t:=by
 have:Nat.ble lo t=false:=by
  cases e:Nat.ble lo t with
  |false=>rfl
  |true=>have:=Nat.le_of_ble_eq_true e;omega
 simp[Dy,this]
theorem Rl {lo d t:Nat} {f:Nat→AV} (h:d<t):Dy lo d f t=f t:=by
 have:Nat.ble t d=false:=by
  cases e:Nat.ble t d with
  |false=>rfl
  |true=>have:=Nat.le_of_ble_eq_true e;omega
 simp[Dy,this]
theorem HL {lo d t:Nat} {f:Nat→AV} (h:lo≤t) (k:t≤d):Dy lo d f t=.un:=by
 simp[Dy,Nat.ble_eq_true_of_le h,Nat.ble_eq_true_of_le k]
theorem HI {lo d k:Nat} {f:Nat→AV} {v:AV} (h1:lo≤k) (h2:k≤d):Dy lo d (upd f k v)=Dy lo d f:=by
 funext t
 by_cases e:t=k
 ·subst e;rw[HL h1 h2,HL h1 h2]
 ·have:(t==k)=false:=beq_eq_false_iff_ne.2 e
  simp only[Dy,upd,this,cond_false]
theorem K4 {lo d a b:Nat} {f:Nat→AV} (h1:lo≤a) (h2:b≤d):Dy lo d (Dy a b f)=Dy lo d f:=by
 funext t
 rcases Nat.lt_or_ge t a with e|e
 ·simp only[Dy.eq_def lo,Rk e]
 ·rcases Nat.lt_or_ge b t with e2|e2
  ·simp only[Dy.eq_def lo,Rl e2]
  ·rw[HL (by omega) (by omega),HL (by omega) (by omega)]
structure PJ (S:St) (lo d:Nat) (X:Bool) (S':St):Prop where
 x:S'.tm d=.d (.lf (.bool X))
 tm:Dy lo d S'.tm=Dy lo d S.tm
 n:S'.n=S.n
 hp:S'.hp=S.hp
structure PXs (P:Bool→Bool→Prop):Prop where
 ex:∃X Y,P X Y
theorem PXs.of {P:Bool→Bool→Prop} {X Y:Bool} (h:P X Y):PXs P:=⟨X,Y,h⟩
def kN (k:Nat) (o:Oper):Bool:=match o.op with
 | .pick (.tmp t) _ _=>Nat.beq t k
 |_=>false
def pkn (k:Nat):List Oper→Option (List Oper×List Oper×Option Nat)
 |[]=>none
 |o::l=>bif kN k o then some ([o],l,o.dst) else match pkn k l with
  |some (a,b,d)=>some (o::a,b,d)
  |none=>none
theorem V8 {k:Nat}:∀{l a b:List Oper} {d:Option Nat},pkn k l=some (a,b,d)→l=a++b
 |[],_,_,_,h=>by simp[pkn] at h
 |o::l,a,b,d,h=>by
  unfold pkn at h
  cases hp:kN k o with
  |true=>rw[hp] at h;simp at h;obtain⟨rfl,rfl, -⟩:=h;rfl
  |false=>
   rw[hp] at h
   simp only[cond_false] at h
   cases hq:pkn k l with
   |none=>rw[hq] at h;cases h
   |some x=>
    obtain⟨a',b',d'⟩:=x
    rw[hq] at h
    simp only[Option.some.injEq,Prod.mk.injEq] at h
    obtain⟨rfl,rfl, -⟩:=h
    rw[V8 hq];rfl
theorem Mr {S:St} {k:Nat} {b:Bool} (h:S.tm k=dB' b):(⟨S.n,upd S.tm k (dB' b),S.hp⟩:St)=S:=by
 have:upd S.tm k (.d (.lf (.bool b)))=S.tm:=by
  funext t
  by_cases ht:t=k
  ·subst ht;rw[Aw,h]
  ·rw[BE _ _ ht]
 rw[this]
structure JB (p q r:Prop):Prop where
 t:p
 f:q
 k:r
structure JK (p:Prop):Prop where
 k:p
structure JW (q:Prop) (p:Prop):Prop where
 w:q→p
theorem XP {c:Cx} {ops:Array Oper} {o:Oper} {l:List Oper} {S:St} {K:St→Prop} {D:List (Option Nat)} (hD:ops.toList.map (·.dst)=D) {j k lo d:Nat} {b q:Bool} {S1 S2:St} {l1 l2:List Oper} (hg:o.guard=some (j,b)) (hj:D[j]? =some (some k)) (hq:S.tm k=dB' q) (hs:pkn k (o::l)=some (l1,l2,some d)) (hl:o.dst=some lo)
  (h:PXs fun X Y=>JB (JW (q=true) (∀(l3:List Oper),(∀S',PJ S1 lo d X S'→WL c ops l3 S' K)→WL c ops (l1++l3) S1 K)) (JW (q=false) (∀(l3:List Oper),(∀S',PJ S2 lo d Y S'→WL c ops l3 S' K)→WL c ops (l1++l3) S2 K)) (JK (∀T,(⟨S.n,upd (Dy lo d S.tm) d (.d (.lf (.bool (bif q then X else Y)))),S.hp⟩:St)=T→WL c ops l2 T K)))
  (e1:(⟨S.n,upd S.tm k (.d (.lf (.bool true))),S.hp⟩:St)=S1:=by first|(simp[H];rfl)|rfl) (e2:(⟨S.n,upd S.tm k (.d (.lf (.bool false))),S.hp⟩:St)=S2:=by first|(simp[H];rfl)|rfl):WL c ops (o::l) S K:=by
 obtain⟨X,Y,h⟩:=h.ex
 rw[V8 hs]
 have key:∀(Z:Bool) (S':St),Z=(bif q then X else Y)→PJ S lo d Z S'→WL c ops l2 S' K:=fun Z S' hz hp=>by
  have z:Wz S' ⟨S'.n,upd (Dy lo d S.tm) d (.d (.lf (.bool (bif q then X else Y)))),S'.hp⟩:=ic _ fun t=>by
   by_cases e:t=d
   ·subst e;rw[Aw, ←hz];exact .inl hp.x.symm
   ·rw[BE _ _ e]
    rw[←hp.tm]
    unfold Dy
    cases (Nat.ble lo t && Nat.ble t d) with
    |true=>exact .inr rfl
    |false=>exact .inl rfl
  rw[hp.n,hp.hp] at z
  exact WL.ahead z (h.k.k _ rfl)
 cases q with
 |true=>
  rw[Mr hq] at e1;subst e1
  exact h.t.w rfl l2 fun S' hp=>key X S' rfl hp
 |false=>
  rw[Mr hq] at e2;subst e2
  exact h.f.w rfl l2 fun S' hp=>key Y S' rfl hp
attribute [simp] Rk Rl HL
