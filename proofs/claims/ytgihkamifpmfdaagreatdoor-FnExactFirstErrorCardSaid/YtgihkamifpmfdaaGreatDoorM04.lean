/- Part 04. No condition. -/
import Derived.Test.YtgihkamifpmfdaaGreatDoorM03
namespace Go.Proofs.YtgihkamifpmfdaaGreatDoor
open Go.RowKit
set_option linter.unusedVariables false
set_option linter.unusedSimpArgs false
def Snd (c:Cx) (o:Oper) (S S':St):Prop:=∀(w:World) (F:Nat→Nat) (Θ:Ty) (own:Who→List Nat) (a:Act),Rel w F Θ own S a→
 ∃v w' F' Θ' own',((execOp a.eval o).run c.P w=.ok (.value v) w'∨(v=undef∧(execOp a.eval o).run c.P w=.ok .skip w'))∧Rel w' F' Θ' own' S' (a.put o.dst v)∧Stp w F Θ own w' F' Θ' own'
def nxP (c:Cx) (mv:List Nat) (o:Oper) (S:St):St:=⟨S.n,B1 (BD S.tm (cls mv o)) o.dst (val c mv o S),S.hp⟩
theorem Ui {c:Cx} {mv:List Nat} {o:Oper} {S:St} (hd:∀k,o.dst=some k→k<S.n) (hn:(cls mv o).Nodup)
  (h:∀(w:World) (F:Nat→Nat) (Θ:Ty) (own:Who→List Nat) (a:Act),Rel w F Θ own S a→∃v,(execOp a.eval o).run c.P w=.ok (.value v) w∧rv w F Θ (val c mv o S) v ((cls mv o).flatMap fun t=>own (.t t))):Snd c o S (nxP c mv o S):=by
 intro w F Θ own a hR
 obtain⟨v,h1,h2⟩:=h w F Θ own a hR
 obtain⟨own',h3,h4⟩:=hR.pure o.dst hd _ hn _ v h2
 exact⟨v,w,F,Θ,own',.inl h1,h3,h4⟩
section
variable {c:Cx} {mv:List Nat} {o:Oper} {S:St} {w:World} {F:Nat→Nat} {Θ:Ty} {own:Who→List Nat} {a:Act}
theorem eg (hR:Rel w F Θ own S a) (x:Operand) (ho:o.op=.move x) (h:okO c o.type x):
  ∃v,(execOp a.eval o).run c.P w=.ok (.value v) w∧rv w F Θ (val c mv o S) v ((cls mv o).flatMap fun t=>own (.t t)):=by
 refine⟨a.eval x,by unfold execOp;simp only[ho,Sem.run_pure],?_⟩
 unfold val cls
 simp only[ho]
 cases mvB mv o.dst with
 |true=>exact Gf hR h
 |false=>exact BU hR h
theorem VE (hR:Rel w F Θ own S a) (x:Operand) (ho:o.op=.assign x) (h:okO c o.type x):
  ∃v,(execOp a.eval o).run c.P w=.ok (.value v) w∧rv w F Θ (val c mv o S) v ((cls mv o).flatMap fun t=>own (.t t)):=by
 refine⟨a.eval x,by unfold execOp;simp only[ho,Sem.run_pure],?_⟩
 unfold val cls
 simp only[ho]
 exact Gf hR h
theorem jz (hR:Rel w F Θ own S a) (x:Operand) (ho:o.op=.nilCheck x) (h:(∃lv k p,evT c o.type S x=.pt lv k p)∨(∃d,evT c o.type S x=.el d)∨(∃f k,evT c o.type S x=.fn f k)) (h2:okO c o.type x):
  ∃v,(execOp a.eval o).run c.P w=.ok (.value v) w∧rv w F Θ (val c mv o S) v ((cls mv o).flatMap fun t=>own (.t t)):=by
 have hv:=BU (T:=o.type) hR h2
 refine⟨a.eval x,?_,by unfold val cls;simp only[ho,List.flatMap_nil];exact hv⟩
 unfold execOp
 simp only[ho]
 rcases h with ⟨lv,k,p,e⟩|⟨d,e⟩|⟨f,k,e⟩
 ·rw[e] at hv
  simp only[rv] at hv
  obtain⟨-,b,s,off, -, -,e2⟩:=hv
  simp only[e2,Sem.run_pure]
 ·rw[e] at hv
  simp only[rv] at hv
  obtain⟨-,b,off,cs,e2, -⟩:=hv
  simp only[e2,Sem.run_pure]
 ·rw[e] at hv
  simp only[rv] at hv
  obtain⟨vs,e2, -⟩:=hv
  simp only[e2,Sem.run_pure]
theorem CM {x:Operand} {u:Value} {T:Nat} (hR:Rel w F Θ own S a) (e:evT c T S x=.d (.lf u)) (h2:okO c T x):a.eval x=u∧BK u:=by
 have hv:=BU (T:=T) hR h2
 rw[e] at hv
 simp only[rv,rp] at hv
 obtain⟨cs,⟨rfl,h, -⟩,rfl⟩:=hv
 exact⟨rfl,h⟩
theorem Dr {u:Value} (h:BK u):rv w F Θ (.d (.lf u)) u []:=by
 simp only[rv,rp]
 exact⟨[u],⟨rfl,h,trivial⟩,rfl⟩
theorem k9 (hR:Rel w F Θ own S a) (op:BinOp) (T yT:Nat) (x y:Operand) (ho:o.op=.binOp op T x y yT) (u v:Value) (hx:evT c 0 S x=.d (.lf u)) (hy:evT c 0 S y=.d (.lf v))
  (ox:okO c 0 x) (oy:okO c 0 y) (h:okB op u v∨∃p q ti,u=.bool p∧v=.bool q∧c.ty T=some ti∧(match ti.kd with| .bool=>True|_=>False)∧(op=.eql∨op=.neq)):
  ∃v,(execOp a.eval o).run c.P w=.ok (.value v) w∧rv w F Θ (val c mv o S) v ((cls mv o).flatMap fun t=>own (.t t)):=by
 obtain⟨e1,l1⟩:=CM hR hx ox
 obtain⟨e2,l2⟩:=CM hR hy oy
 have hb:(do eqGuard op T x y u v;binOp op T u v:Sem Value).run c.P w=.ok (FN op u v) w∧BK (FN op u v):=by
  rcases h with h|⟨p,q,ti,rfl,rfl,ht,hk,h⟩
  ·exact b7 c.P op T x y u v h w
  ·have:=(c.ok T ti ht).kd
   cases hq:ti.kd<;>rw[hq] at hk this<;>try exact hk.elim
   exact MV c.P op T x y p q this.2 h w
 refine⟨FN op u v,?_,?_⟩
 ·unfold execOp
  have h1:=hb.1
  simp only[Sem.run_bind] at h1
  simp only[ho,e1,e2,Sem.run_bind,h1,Result.andThen_ok,Sem.run_pure]
 ·unfold val cls
  simp only[ho,hx,hy,List.flatMap_nil]
  exact Dr hb.2
theorem jy (hR:Rel w F Θ own S a) (T:Nat) (x:Operand) (ho:o.op=.unOp .not T x) (b:Bool) (hx:evT c 0 S x=dB' b) (ox:okO c 0 x):
  ∃v,(execOp a.eval o).run c.P w=.ok (.value v) w∧rv w F Θ (val c mv o S) v ((cls mv o).flatMap fun t=>own (.t t)):=by
 obtain⟨e1,l1⟩:=CM hR hx ox
 refine⟨.bool (!b),?_,?_⟩
 ·unfold execOp
  simp[ho,e1,Op.unary]
 ·unfold val cls
  simp only[ho,hx,List.flatMap_nil]
  exact Dr trivial
theorem ei (hR:Rel w F Θ own S a) (Ts T:Nat) (x:Operand) (ho:o.op=.convert Ts T x) (k k':IntKind) (n:Int) (ti ts:TI) (ht:c.ty T=some ti) (hk:ti.kd=.int k) (hs:c.ty Ts=some ts) (hx:evT c 0 S x=.d (.lf (.int k' n))) (ox:okO c 0 x):
  ∃v,(execOp a.eval o).run c.P w=.ok (.value v) w∧rv w F Θ (val c mv o S) v ((cls mv o).flatMap fun t=>own (.t t)):=by
 obtain⟨e1,l1⟩:=CM hR hx ox
 have hd:=(c.ok T ti ht).kd
 rw[hk] at hd
 have hsd:∃d,c.P.underlying Ts=some d:=by
  have:=(c.ok Ts ts hs).kd
  cases hq:ts.kd<;>rw[hq] at this<;>simp only[Xy] at this
  ·exact⟨_,this.2.choose_spec.1⟩
  ·exact⟨_,this.2⟩
  ·exact⟨_,this.2⟩
  ·exact⟨_,this.2⟩
  ·exact⟨_,this.2.2.1⟩
  ·exact⟨_,this.2.choose_spec.1⟩
  ·exact⟨_,this.2.2.2.1⟩
 obtain⟨d,hsd⟩:=hsd
 refine⟨.int k (k.wrap n),?_,?_⟩
 ·unfold execOp
  simp[ho,e1,convert,run_underlying hd.2,run_underlying hsd,Conv.intToInt]
 ·unfold val cls
  obtain⟨sh,z,zc,by_,kd⟩:=ti
  simp only at hk
  subst hk
  simp only[ho,hx,ht,List.flatMap_nil]
  exact Dr (LQ _ _)
theorem Hz {fs:List DD} {cs:List Value} (h:rpS w F fs cs []) {i:Nat} {e:DD} (he:fs[i]? =some e):∃c1 ce c2,cs=c1++(ce++c2)∧c1.length=Sh.ws ((DD.shs fs).take i)∧rp w F e ce []:=by
 obtain⟨c1,ce,c2,b1,be,b2,h1,h2,h3,h4, -⟩:=rpS.focus fs cs [] h i e he
 have:be=[]:=by
  have:=congrArg List.length h2
  simp only[List.length_append,List.length_nil] at this
  exact List.length_eq_zero_iff.1 (by omega)
 subst this
 exact⟨c1,ce,c2,h1,h3,h4⟩
theorem Sl (hR:Rel w F Θ own S a) (T i:Nat) (x:Operand) (ho:o.op=.fieldAddr T x i) (ti:TI) (fl:List (Nat×Sh)) (fs:List DD) (ht:c.ty T=some ti) (hk:ti.kd=.st fl) (hx:evT c 0 S x=.el (.st fs)) (ox:okO c 0 x)
  (hs:DD.shs fs=fl.map Prod.snd) (hi:i<fl.length):
  ∃v,(execOp a.eval o).run c.P w=.ok (.value v) w∧rv w F Θ (val c mv o S) v ((cls mv o).flatMap fun t=>own (.t t)):=by
 have hv:=BU (T:=0) hR ox
 rw[hx] at hv
 simp only[rv,rp] at hv
 obtain⟨-,b,off,cs,e1,hc,hr,hf⟩:=hv
 have hd:=(c.ok T ti ht).kd
 rw[hk] at hd
 obtain⟨hsh,fs',hu,hsz,hfl⟩:=hd
 have hlen:fs.length=fl.length:=by have:=congrArg List.length hs;rwa [DD.shs_eq,List.length_map,List.length_map] at this
 have hge:fs[i]? =some fs[i]:=List.getElem?_eq_getElem (by omega)
 obtain⟨f,g1,g2,g3,g4,⟨j,g5,g6⟩, -⟩:=hfl i fl[i].1 fl[i].2 (List.getElem?_eq_getElem hi)
 obtain⟨c1,ce,c2,rfl,k1,k2⟩:=Hz hr hge
 rw[hs] at k1
 refine⟨.pointer (some ⟨b,off+f.offset,none⟩),?_,?_⟩
 ·unfold execOp
  have hne:¬j.size=0:=by omega
  simp[ho,e1,Go.Instr.fieldAt,run_underlying hu,g1,Go.Instr.sureAddr,fieldPlace,sizeOf,typeInfo,g2,g5,hne,Addr.add_lit]
 ·unfold val cls
  simp only[ho,hx,List.flatMap_nil,TM]
  have hg:fs.getD i default=fs[i]:=by rw[List.getD_eq_getElem?_getD,hge];rfl
  rw[hg]
  simp only[rv]
  refine⟨trivial,b,off+f.offset,ce,rfl,?_,k2,?_⟩
  ·intro q u hu2
   have hq:=(List.getElem?_eq_some_iff.1 hu2).1
   have:=hc (c1.length+q) u (by rw[List.getElem?_append_right (by omega)];rw[show c1.length+q - c1.length=q by omega,List.getElem?_append_left hq];exact hu2)
   rw[k1] at this
   rw[g3,Nat.add_assoc]
   exact this
  ·rw[g3, ←k1]
   simp only[List.length_append] at hf
   omega
theorem Sj (hR:Rel w F Θ own S a) (T i:Nat) (x:Operand) (ho:o.op=.fieldAddr T x i) (ti:TI) (fl:List (Nat×Sh)) (ht:c.ty T=some ti) (hk:ti.kd=.st fl) (lv k:Nat) (p:List Nat) (cn:AV) (hx:evT c 0 S x=.pt lv k p) (ox:okO c 0 x)
  (hc:hpg S.hp lv k=some cn) (s:Sh) (hs:cn.csh=some s) (hp:∀off,C8 s p=some off→C8 s (p++[i])=some (off+Sh.ws ((fl.map Prod.snd).take i))) (hi:i<fl.length):
  ∃v,(execOp a.eval o).run c.P w=.ok (.value v) w∧rv w F Θ (val c mv o S) v ((cls mv o).flatMap fun t=>own (.t t)):=by
 have hv:=BU (T:=0) hR ox
 rw[hx] at hv
 simp only[rv] at hv
 obtain⟨-,b,s',off,e1,e2,e3⟩:=hv
 have hd:=(c.ok T ti ht).kd
 rw[hk] at hd
 obtain⟨hsh,fs',hu,hsz,hfl⟩:=hd
 obtain⟨f,g1,g2,g3,g4,⟨j,g5,g6⟩, -⟩:=hfl i fl[i].1 fl[i].2 (List.getElem?_eq_getElem hi)
 obtain⟨b',s2,cur,t,q1, -, -,q2, -⟩:=hR.hs lv k cn hc
 rw[hs] at q2
 cases q2
 rw[e1] at q1
 cases q1
 refine⟨.pointer (some ⟨b,off+f.offset,none⟩),?_,?_⟩
 ·unfold execOp
  have hne:¬j.size=0:=by omega
  simp[ho,e3,Go.Instr.fieldAt,run_underlying hu,g1,Go.Instr.sureAddr,fieldPlace,sizeOf,typeInfo,g2,g5,hne,Addr.add_lit]
 ·unfold val cls
  simp only[ho,hx,List.flatMap_nil]
  simp only[rv]
  exact⟨trivial,b,s,off+f.offset,e1,by rw[hp off e2,g3],rfl⟩
theorem Z9 (hR:Rel w F Θ own S a) (T i:Nat) (x:Operand) (ho:o.op=.field T x i) (ti:TI) (fl:List (Nat×Sh)) (fs:List DD) (ht:c.ty T=some ti) (hk:ti.kd=.st fl) (hx:evT c 0 S x=.d (.st fs)) (ox:okO c 0 x)
  (hs:DD.shs fs=fl.map Prod.snd) (hi:i<fl.length):
  ∃v,(execOp a.eval o).run c.P w=.ok (.value v) w∧rv w F Θ (val c mv o S) v ((cls mv o).flatMap fun t=>own (.t t)):=by
 have hv:=BU (T:=0) hR ox
 rw[hx] at hv
 simp only[rv,rp] at hv
 obtain⟨cs,hr,e1⟩:=hv
 simp only[DD.mk] at e1
 have hd:=(c.ok T ti ht).kd
 rw[hk] at hd
 obtain⟨hsh,fs',hu,hsz,hfl⟩:=hd
 have hlen:fs.length=fl.length:=by have:=congrArg List.length hs;rwa [DD.shs_eq,List.length_map,List.length_map] at this
 have hge:fs[i]? =some fs[i]:=List.getElem?_eq_getElem (by omega)
 obtain⟨f,g1,g2,g3,g4,⟨j,g5,g6⟩,g7⟩:=hfl i fl[i].1 fl[i].2 (List.getElem?_eq_getElem hi)
 obtain⟨c1,ce,c2,rfl,k1,k2⟩:=Hz hr hge
 rw[hs] at k1
 have hshi:fs[i].sh=fl[i].2:=by
  have:=congrArg (fun l=>l[i]?) hs
  simpa[DD.shs_eq,hge,hi] using this
 have hl:=rp.length _ _ _ k2
 have hg:fs.getD i default=fs[i]:=by rw[List.getD_eq_getElem?_getD,hge];rfl
 refine⟨fs[i].mk ce,?_,?_⟩
 ·unfold execOp
  simp only[ho,e1,Go.Instr.field,Sem.run_bind,run_underlying hu,Result.andThen_ok,g1,asAgg,Sem.run_pure,part,g2,g7,g3, ←k1]
  cases he:fs[i] with
  |lf u=>
   rw[he] at k2 hshi
   simp only[rp] at k2
   obtain⟨rfl, -⟩:=k2
   simp only[DD.sh] at hshi
   rw[←hshi]
   simp[DD.mk]
  |sl o s es=>
   rw[he] at k2 hshi
   simp only[rp] at k2
   obtain⟨-, -,a',cap,rfl, -⟩:=k2
   simp only[DD.sh] at hshi
   rw[←hshi]
   simp[DD.mk]
  |st gs=>
   rw[he] at hshi hl
   simp only[DD.sh] at hshi hl
   rw[←hshi]
   rw[←hshi] at g6
   simp[sizeOf,typeInfo,g5,DD.mk,g6, ←hl]
 ·unfold val cls
  simp only[ho,hx,List.flatMap_nil,TM,hg,rv]
  exact⟨ce,k2,rfl⟩
theorem Z8 (hR:Rel w F Θ own S a) (T:Nat) (x i:Operand) (ho:o.op=.indexAddr T x i) (ti:TI) (e:Nat) (s':Sh) (ht:c.ty T=some ti) (hk:ti.kd=.sl e s') (s:Sh) (ow:Bool) (es:List DD) (hx:evT c T S x=.d (.sl ow s es)) (ox:okO c T x)
  (k:IntKind) (n:Int) (hi:evT c 0 S i=.d (.lf (.int k n))) (oi:okO c 0 i) (h0:0≤n) (hn:n.toNat<es.length) (hs:s=s'):
  ∃v,(execOp a.eval o).run c.P w=.ok (.value v) w∧rv w F Θ (val c mv o S) v ((cls mv o).flatMap fun t=>own (.t t)):=by
 subst hs
 obtain⟨e2, -⟩:=CM hR hi oi
 have hv:=BU (T:=T) hR ox
 rw[hx] at hv
 simp only[rv,rp] at hv
 obtain⟨cs,⟨hs,hp,a',cap,rfl,h1,h2,h3,h4⟩,e1⟩:=hv
 simp only[DD.mk,List.headD_cons] at e1
 have hd:=(c.ok T ti ht).kd
 rw[hk] at hd
 obtain⟨-, -,hu,j,hj,hjs⟩:=hd
 rcases h4 with ⟨-,h4, -⟩|⟨b,off,r,rfl,he,hf,h5⟩
 ·rw[h4] at hn;simp at hn
 have hge:es[n.toNat]? =some es[n.toNat]:=List.getElem?_eq_getElem hn
 obtain⟨ce,bk,g1,g2,g3⟩:=rpE.get es off r hs he _ _ hge
 have hg:es.getD n.toNat default=es[n.toNat]:=by rw[List.getD_eq_getElem?_getD,hge];rfl
 have hr:r=[]:=by
  rcases h5 with ⟨-, -,h5⟩|⟨-,h5, -⟩
  ·exact h5
  ·simp at h5
 have hbk:rp w F es[n.toNat] ce []:=by
  subst hr
  have:bk=[]:=List.eq_nil_iff_forall_not_mem.2 fun x hx=>by simpa using g3 x hx
  rwa [this] at g2
 refine⟨.pointer (some ⟨b,off+n.toNat*s.w,none⟩),?_,?_⟩
 ·unfold execOp
  have hlt:0≤n∧n<(es.length:Int):=⟨h0,by omega⟩
  simp[ho,e1,e2,Go.Instr.indexAt,asIntOf,run_underlying hu,hlt,sizeOf,typeInfo,hj,hjs,Addr.add_lit]
 ·unfold val cls
  simp only[ho,hx,hi,List.flatMap_nil,hg]
  simp only[rv]
  refine⟨trivial,b,off+n.toNat*s.w,ce,rfl,g1,hbk,?_⟩
  have hl:=rp.length _ _ _ hbk
  rw[hs _ (List.getElem_mem hn)] at hl
  have:(n.toNat+1)*s.w≤es.length*s.w:=Nat.mul_le_mul_right _ hn
  rw[Nat.add_mul] at this
  omega
theorem ed (hR:Rel w F Θ own S a) (g x y:Operand) (ho:o.op=.pick g x y) (b:Bool) (hg:evT c 0 S g=dB' b) (og:okO c 0 g) (ox:okO c o.type x) (oy:okO c o.type y)
  (h:val c mv o S=bif b then evT c o.type S x else evT c o.type S y):
  ∃v,(execOp a.eval o).run c.P w=.ok (.value v) w∧rv w F Θ (val c mv o S) v ((cls mv o).flatMap fun t=>own (.t t)):=by
 obtain⟨e1, -⟩:=CM hR hg og
 rw[h]
 have hcls:cls mv o=[]:=by unfold cls;rw[ho]
 rw[hcls]
 refine⟨if b then a.eval x else a.eval y,?_,?_⟩
 ·unfold execOp
  simp[ho,e1,asBool]
 ·cases b with
  |true=>exact BU hR ox
  |false=>exact BU hR oy
theorem Si (hR:Rel w F Θ own S a) (T:Nat) (x i:Operand) (ho:o.op=.indexAddr T x i) (ti:TI) (e:Nat) (s':Sh) (ht:c.ty T=some ti) (hk:ti.kd=.sl e s') (lv q m:Nat) (hx:evT c T S x=.rw lv q m) (ox:okO c T x)
  (cn:AV) (hc:hpg S.hp lv q=some cn) (hs:cn.csh=some (.st (List.replicate m s')))
  (k:IntKind) (n:Int) (hi:evT c 0 S i=.d (.lf (.int k n))) (oi:okO c 0 i) (h0:0≤n) (hn:n.toNat<m):
  ∃v,(execOp a.eval o).run c.P w=.ok (.value v) w∧rv w F Θ (val c mv o S) v ((cls mv o).flatMap fun t=>own (.t t)):=by
 obtain⟨e2, -⟩:=CM hR hi oi
 have hv:=BU (T:=T) hR ox
 rw[hx] at hv
 simp only[rv] at hv
 obtain⟨-,b,s,h1,e1,h2,h3⟩:=hv
 have hd:=(c.ok T ti ht).kd
 rw[hk] at hd
 obtain⟨-, -,hu,j,hj,hjs⟩:=hd
 obtain⟨b',s2,cur,t,q1, -, -,q2, -⟩:=hR.hs lv q cn hc
 rw[hs] at q2
 simp only[Option.some.injEq] at q2
 subst q2
 rw[h1] at q1
 simp only[Option.some.injEq,Prod.mk.injEq,Sh.st.injEq] at q1
 obtain⟨rfl,q1⟩:=q1
 have hsm:∀m k:Nat,k≤m→Sh.ws ((List.replicate m s').take k)=k*s'.w:=by
  intro m
  induction m with
  |zero=>intro k hk;simp at hk;subst hk;simp[Sh.ws]
  |succ m ih=>
   intro k hk
   cases k with
   |zero=>simp[Sh.ws]
   |succ k=>rw[List.replicate_succ,List.take_succ_cons,Sh.ws,ih k (by omega),Nat.add_mul];omega
 refine⟨.pointer (some ⟨b,n.toNat*s'.w,none⟩),?_,?_⟩
 ·unfold execOp
  have hlt:0≤n∧n<(m:Int):=⟨h0,by omega⟩
  simp[ho,e1,e2,Go.Instr.indexAt,asIntOf,run_underlying hu,hlt,sizeOf,typeInfo,hj,hjs,Addr.add_lit]
 ·unfold val cls
  simp only[ho,hx,hi,List.flatMap_nil]
  simp only[rv]
  refine⟨trivial,b,.st (List.replicate m s'),n.toNat*s'.w,by rw[h1,q1],?_,rfl⟩
  have hg:(List.replicate m s')[n.toNat]? =some s':=by rw[List.getElem?_replicate,if_pos hn]
  simp only[C8,hg,Option.map_some,hsm m _ (Nat.le_of_lt hn),Nat.add_zero]
theorem P6 (hR:Rel w F Θ own S a) (T:Nat) (x i:Operand) (ho:o.op=.index T x i) (ti:TI) (ht:c.ty T=some ti) (hk:ti.kd=.str) (s:BA') (hx:evT c 0 S x=dS' s) (ox:okO c 0 x)
  (k:IntKind) (n:Int) (hi:evT c 0 S i=.d (.lf (.int k n))) (oi:okO c 0 i) (h0:0≤n) (hn:n.toNat<s.size):
  ∃v,(execOp a.eval o).run c.P w=.ok (.value v) w∧rv w F Θ (val c mv o S) v ((cls mv o).flatMap fun t=>own (.t t)):=by
 obtain⟨e1, -⟩:=CM hR hx ox
 obtain⟨e2, -⟩:=CM hR hi oi
 have hd:=(c.ok T ti ht).kd
 rw[hk] at hd
 have hg:s.data.getD n.toNat 0=s[n.toNat]:=by simp[Array.getD,hn];rfl
 refine⟨.int .u8 (s[n.toNat]).toNat,?_,?_⟩
 ·unfold execOp
  simp[ho,e1,e2,Go.Instr.index,asIntOf,run_underlying hd.2,h0,hn]
 ·unfold val cls
  simp only[ho,hx,hi,List.flatMap_nil,hg]
  refine Dr ?_
  have:(s[n.toNat]).toNat<256:=UInt8.toNat_lt _
  simp only[BK,IntKind.min,IntKind.max,IntKind.bits,IntKind.signed]
  simp
  omega
theorem Sm (hR:Rel w F Θ own S a) (x:Operand) (i:Nat) (ho:o.op=.extract x i) (l:List AV) (hx:evT c 0 S x=.tp l) (ox:okO c 0 x) (hi:i<l.length):
  ∃v,(execOp a.eval o).run c.P w=.ok (.value v) w∧rv w F Θ (val c mv o S) v ((cls mv o).flatMap fun t=>own (.t t)):=by
 have hv:=BU (T:=0) hR ox
 rw[hx] at hv
 simp only[rv] at hv
 obtain⟨vs,e1,h1⟩:=hv
 have key:∀(l:List AV) (vs:List Value),rvS w F Θ l vs []→∀i,i<l.length→∃v,vs[i]? =some v∧rv w F Θ (l.getD i .un) v []:=by
  intro l
  induction l with
  |nil=>intro vs _ i hi;simp at hi
  |cons b l ih=>
   intro vs h i hi
   simp only[rvS] at h
   obtain⟨v,r,b1,b2,rfl,hb,g1,g2⟩:=h
   obtain⟨rfl,rfl⟩:=List.append_eq_nil_iff.1 hb.symm
   cases i with
   |zero=>exact⟨v,rfl,by simpa using g1⟩
   |succ i=>simpa using ih r g2 i (by simpa using hi)
 obtain⟨v,k1,k2⟩:=key l vs h1 i hi
 refine⟨v,?_,?_⟩
 ·unfold execOp
  simp[ho,e1,Go.Instr.extract,k1]
 ·unfold val cls
  simp only[ho,hx,List.flatMap_nil]
  exact k2
theorem o9 (hR:Rel w F Θ own S a) (f:Nat) (first cap:Array Operand) (ho:o.op=.makeFunc (.func f) first cap) (hf:first= #[]) (hc:∀x∈cap.toList,okO c 0 x):
  ∃v,(execOp a.eval o).run c.P w=.ok (.value v) w∧rv w F Θ (val c mv o S) v ((cls mv o).flatMap fun t=>own (.t t)):=by
 subst hf
 refine⟨.func (.func f) #[] (cap.map a.eval),?_,?_⟩
 ·unfold execOp
  simp[ho,Go.Instr.makeFunc]
 ·unfold val cls
  simp only[ho,List.flatMap_nil,rv]
  refine⟨cap.toList.map a.eval,by simp[←Array.toList_map],?_⟩
  have:=WY (c:=c) hR (cap.toList.map fun x=>(0,x)) (by intro y hy;obtain⟨x,hx,rfl⟩:=List.mem_map.1 hy;exact hc x hx)
  simpa[List.map_map,Function.comp_def] using this
theorem Qh (hR:Rel w F Θ own S a) (x:Operand) (T:Nat) (cl:Call) (ho:o.op=.call cl) (hcl:cl={ callee:=.builtin .len,args:= #[x],argTypes:= #[T] }) (ti:TI) (ht:c.ty T=some ti) (e:Nat) (s':Sh) (hk:ti.kd=.sl e s')
  (ox:okO c 0 x) (h:(∃ow s es,evT c 0 S x=.d (.sl ow s es))∨(∃lv k n,evT c 0 S x=.rw lv k n)):
  ∃v,(execOp a.eval o).run c.P w=.ok (.value v) w∧rv w F Θ (val c mv o S) v ((cls mv o).flatMap fun t=>own (.t t)):=by
 subst hcl
 have hv:=BU (T:=0) hR ox
 have hd:=(c.ok T ti ht).kd
 rw[hk] at hd
 obtain⟨-, -,hu, -⟩:=hd
 have fin:∀(n:Nat) (b:Option Addr) (cap:Nat),a.eval x=.slice b n cap→(n:Int)≤9223372036854775807→(execOp a.eval o).run c.P w=.ok (.value (.int .i64 n)) w:=fun n b cap e _=>by
  unfold execOp
  simp[ho,e,resolve,invoke,builtin,Builtin.len_,run_underlying hu,goInt]
 rcases h with ⟨ow,s,es,hx⟩|⟨lv,k,n,hx⟩
 ·rw[hx] at hv
  simp only[rv,rp] at hv
  obtain⟨cs,⟨-, -,a',cap,rfl,h1,h2, -⟩,e1⟩:=hv
  simp only[DD.mk,List.headD_cons] at e1
  unfold maxLen at h2
  refine⟨_,fin _ _ _ e1 (by omega),?_⟩
  unfold val cls
  simp only[ho,List.map_cons,List.map_nil,hx,List.flatMap_nil]
  exact Dr (by simp[BK,IntKind.min,IntKind.max,IntKind.bits,IntKind.signed];omega)
 ·rw[hx] at hv
  simp only[rv] at hv
  obtain⟨-,b,s, -,e1, -,h2⟩:=hv
  unfold maxLen at h2
  refine⟨_,fin _ _ _ e1 (by omega),?_⟩
  unfold val cls
  simp only[ho,List.map_cons,List.map_nil,hx,List.flatMap_nil]
  exact Dr (by simp[BK,IntKind.min,IntKind.max,IntKind.bits,IntKind.signed];omega)
theorem VD (hR:Rel w F Θ own S a) (x:Operand) (T:Nat) (cl:Call) (ho:o.op=.call cl) (hcl:cl={ callee:=.builtin .len,args:= #[x],argTypes:= #[T] }) (ti:TI) (ht:c.ty T=some ti) (hk:ti.kd=.str)
  (ox:okO c 0 x) (s:BA') (hx:evT c 0 S x=.d (.lf (.string s))):
  ∃v,(execOp a.eval o).run c.P w=.ok (.value v) w∧rv w F Θ (val c mv o S) v ((cls mv o).flatMap fun t=>own (.t t)):=by
 subst hcl
 obtain⟨e1,l1⟩:=CM hR hx ox
 have hd:=(c.ok T ti ht).kd
 rw[hk] at hd
 simp only[BK] at l1
 unfold maxLen at l1
 refine⟨.int .i64 s.size,?_,?_⟩
 ·unfold execOp
  simp[ho,e1,resolve,invoke,builtin,Builtin.len_,run_underlying hd.2,goInt]
 ·unfold val cls
  simp only[ho,List.map_cons,List.map_nil,hx,List.flatMap_nil]
  exact Dr (by simp[BK,IntKind.min,IntKind.max,IntKind.bits,IntKind.signed];omega)
theorem k8 (hR:Rel w F Θ own S a) (x y:Operand) (b:Builtin) (hb:b=.min∨b=.max) (ts:Array TypeId) (cl:Call) (ho:o.op=.call cl) (hcl:cl={ callee:=.builtin b,args:= #[x,y],argTypes:=ts })
  (ox:okO c 0 x) (oy:okO c 0 y) (k:IntKind) (m n:Int) (hx:evT c 0 S x=.d (.lf (.int k m))) (hy:evT c 0 S y=.d (.lf (.int k n))):
  ∃v,(execOp a.eval o).run c.P w=.ok (.value v) w∧rv w F Θ (val c mv o S) v ((cls mv o).flatMap fun t=>own (.t t)):=by
 subst hcl
 obtain⟨e1,l1⟩:=CM hR hx ox
 obtain⟨e2,l2⟩:=CM hR hy oy
 rcases hb with rfl|rfl
 ·refine⟨.int k (if n<m then n else m),?_,?_⟩
  ·unfold execOp
   simp[ho,e1,e2,resolve,invoke,builtin,Builtin.min_,Builtin.min2]
  ·unfold val cls
   simp only[ho,List.map_cons,List.map_nil,hx,hy,List.flatMap_nil]
   refine Dr ?_
   split<;>assumption
 ·refine⟨.int k (if n>m then n else m),?_,?_⟩
  ·unfold execOp
   simp[ho,e1,e2,resolve,invoke,builtin,Builtin.max_,Builtin.max2]
  ·unfold val cls
   simp only[ho,List.map_cons,List.map_nil,hx,hy,List.flatMap_nil]
   refine Dr ?_
   split<;>assumption
end
theorem EC {w:World} {F:Nat→Nat} {x:DD} {cs:List Value} {bs:List Nat} (h:rp w F x cs bs):(x.mk cs).cells=cs.toArray:=by
 cases x with
 |lf v=>
  simp only[rp] at h
  obtain⟨rfl,h, -⟩:=h
  simp only[DD.mk,List.headD_cons]
  cases v<;>first|rfl|exact h.elim
 |sl o s es=>
  simp only[rp] at h
  obtain⟨-, -,a,cap,rfl, -⟩:=h
  rfl
 |st fs=>rfl
theorem O3:∀(l:List Value) (off k:Nat) (pre old post:List Value),pre.length=off+k→old.length=l.length→
  (l.zipIdx k).foldl (fun cs (x:Value×Nat)=>cs.setIfInBounds (off+x.2) x.1) (pre++(old++post)).toArray=(pre++(l++post)).toArray
 |[],off,k,pre,old,post,_,h=>by
  have:old=[]:=List.length_eq_zero_iff.1 (by simpa using h)
  subst this
  rfl
 |v::l,off,k,pre,[],post,_,h=>by simp at h
 |v::l,off,k,pre,u::old,post,hp,h=>by
  rw[List.zipIdx_cons,List.foldl_cons]
  have e:(pre++(u::old++post)).toArray.setIfInBounds (off+k) v=((pre++[v])++(old++post)).toArray:=by
   rw[List.setIfInBounds_toArray]
   congr 1
   rw[List.set_append_right _ _ (by omega),hp,Nat.sub_self]
   simp
  simp only[e]
  rw[O3 l off (k+1) (pre++[v]) old post (by simp[hp];omega) (by simpa using h)]
  simp
theorem O8 (place:Nat→Option (Nat×Nat)) (i off size:Nat) (v:Value) (cs:List Value) (hv:v.cells=cs.toArray) (hp:place i=some (off,size)) (hs:cs.length=size) (c1 old c2:List Value) (h1:c1.length=off) (h2:old.length=size) (rest:List (Nat×Value)):
  Go.Instr.fill place (c1++(old++c2)).toArray ((i,v)::rest)=Go.Instr.fill place (c1++(cs++c2)).toArray rest:=by
 have hf:=O3 cs off 0 c1 old c2 (by simpa using h1) (by rw[h2,hs])
 simp only[Go.Instr.fill,hp,hv]
 rw[if_neg (by simp[hs,h1,h2]<;>omega)]
 congr 1
 simpa using hf
theorem MF {w:World} {F:Nat→Nat} {Θ:Ty} (place:Nat→Option (Nat×Nat)) (shl:List Sh) (hpl:∀i s,shl[i]? =some s→place i=some (Sh.ws (shl.take i),s.w)):
  ∀(ps:List (Nat×AV)) (vs:List Value) (bv:List Nat),rvS w F Θ (ps.map Prod.snd) vs bv→(∀p∈ps,∃x s,p.2=.d x∧shl[p.1]? =some s∧x.sh=s)→
  ∀(fs:List DD) (cs:List Value) (bf:List Nat),rpS w F fs cs bf→DD.shs fs=shl→(bf++bv).Nodup→
  ∃cs' bs,Go.Instr.fill place cs.toArray ((ps.map Prod.fst).zip vs)=some cs'.toArray∧rpS w F (Ds fs ps) cs' bs∧DD.shs (Ds fs ps)=shl∧bs.Nodup∧∀b∈bs,b∈bf++bv
 |[],vs,bv,h,_,fs,cs,bf,hf,hs,hn=>by
  simp only[List.map_nil,rvS] at h
  obtain⟨rfl,rfl⟩:=h
  exact⟨cs,bf,rfl,hf,hs,by simpa using hn,by simp⟩
 |(i,av)::ps,vs,bv,h,hok,fs,cs,bf,hf,hs,hn=>by
  simp only[List.map_cons,rvS] at h
  obtain⟨v,r,b1,b2,rfl,rfl,h1,h2⟩:=h
  obtain⟨x,s,hx,hsi,hxs⟩:=hok (i,av) (by simp)
  simp only at hx hsi
  subst hx
  simp only[rv] at h1
  obtain⟨cx,h1,rfl⟩:=h1
  obtain⟨e,he,hes⟩:=QG (hs ▸ hsi)
  obtain⟨c1,ce,c2,d1,de,d2,rfl,rfl,g1,g2,g3⟩:=rpS.focus fs cs bf hf i e he
  have hl:=rp.length _ _ _ h1
  have hl2:=rp.length _ _ _ g2
  rw[hs] at g1
  have hsh:DD.shs (fs.set i x)=shl:=by rw[QE he (by rw[hes,hxs]),hs]
  obtain ⟨cs', bs, k1, k2, k3, k4, k5⟩ := MF place shl hpl ps r b2 h2 (fun p hp => hok p (by simp [hp])) (fs.set i x) (c1 ++ (cx ++ c2)) (d1 ++ (b1 ++ d2)) (g3 x cx b1 h1) hsh (by
   have h0:(d1++(de++d2)++(b1++b2)).Nodup:=hn
   have hp1:(d1++(b1++d2)++b2).Perm (d1++d2++(b1++b2)):=by
    simp only[List.append_assoc]
    refine List.Perm.append_left d1 ?_
    rw[←List.append_assoc, ←List.append_assoc d2]
    exact List.Perm.append_right b2 List.perm_append_comm
   refine hp1.nodup_iff.2 (List.Nodup.sublist ?_ h0)
   refine List.Sublist.append (List.Sublist.append (List.Sublist.refl _) (List.sublist_append_right de d2)) (List.Sublist.refl _))
  refine⟨cs',bs,?_,by simpa only[Ds] using k2,by simpa only[Ds] using k3,k4,fun b hb=> ?_⟩
  ·simp only[List.map_cons,List.zip_cons_cons]
   rw[O8 place i _ _ _ cx (EC h1) (hpl i s hsi) (by rw[hl,hxs]) c1 ce c2 g1 (by rw[hl2,hes])]
   exact k1
  ·have:=k5 b hb
   simp only[List.mem_append] at this ⊢
   rcases this with (h|h|h)|h
   ·exact .inl (.inl h)
   ·exact .inr (.inl h)
   ·exact .inl (.inr (.inr h))
   ·exact .inr (.inr h)
theorem NN {α β:Type} (P:Program) (f:α→Sem β) (g:α→β) (w:World):∀(l:List α),(∀x∈l,(f x).run P w=.ok (g x) w)→(l.mapM f).run P w=.ok (l.map g) w
 |[],_=>by simp
 |x::l,h=>by
  rw[List.mapM_cons]
  simp[Sem.run_bind,h x (by simp),NN P f g w l (fun y hy=>h y (by simp[hy]))]
theorem SY {c:Cx} {mv:List Nat} {o:Oper} {S:St} (hd:∀k,o.dst=some k→k<S.n) (T:Nat) (ps:Array (Nat×Operand)) (ho:o.op=.build T ps) (hn:(cls mv o).Nodup) (ti:TI) (fl:List (Nat×Sh)) (zs:List DD)
  (ht:c.ty T=some ti) (hk:ti.kd=.st fl) (hz:ti.z=.st zs) (hp:∀p∈ps.toList,okO c (c.ft T p.1) p.2∧∃x s,tkT c (c.ft T p.1) S p.2=.d x∧(fl.map Prod.snd)[p.1]? =some s∧x.sh=s):Snd c o S (nxP c mv o S):=by
 intro w F Θ own a hR
 have hT:=c.ok T ti ht
 obtain⟨ii,hi1,hi2,hi3,hi4⟩:=hT.info
 have hkd:=hT.kd
 rw[hk] at hkd
 obtain⟨hsh,fs',hu,hsz,hfl⟩:=hkd
 have hz0:=hT.z w F
 have hzs:=hT.zs
 rw[hz] at hz0 hzs hi4
 simp only[rp] at hz0
 simp only[DD.sh] at hzs
 rw[hsh] at hzs
 have hzs':DD.shs zs=fl.map Prod.snd:=by simpa using hzs
 have hvs:=Ol (c:=c) hR (ps.toList.map fun p=>(c.ft T p.1,p.2)) (by intro x hx;obtain⟨p,hp1,rfl⟩:=List.mem_map.1 hx;exact(hp p hp1).1)
 simp only[List.map_map,Function.comp_def] at hvs
 have hfm:((ps.toList.map fun p=>(c.ft T p.1,p.2)).flatMap fun x=>tmO x.2)=cls mv o:=by
  unfold cls
  simp only[ho,List.flatMap_map]
 rw[hfm] at hvs
 let place:Nat→Option (Nat×Nat):=fun i=>Option.map (fun f=>(f.offset,c.P.cellsOf f.type)) fs'[i]?
 have hpl:∀i s,(fl.map Prod.snd)[i]? =some s→place i=some (Sh.ws ((fl.map Prod.snd).take i),s.w):=by
  intro i s hs
  rw[List.getElem?_map] at hs
  cases hq:fl[i]? with
  |none=>rw[hq] at hs;cases hs
  |some q=>
   rw[hq] at hs
   simp only[Option.map_some,Option.some.injEq] at hs
   subst hs
   obtain⟨f,g1,g2,g3,g4,⟨j,g5,g6⟩, -⟩:=hfl i q.1 q.2 hq
   show Option.map _ fs'[i]? =_
   rw[g1]
   simp only[Option.map_some,g2,g3,Program.cellsOf,g5,g6]
   simp
 have hndF:(([]:List Nat)++(cls mv o).flatMap fun t=>own (.t t)).Nodup:=by
  rw[List.nil_append]
  refine List.pairwise_flatMap.2 ⟨fun t _=>hR.nd _,List.Pairwise.imp (fun {x y} hxy b hb q hq e=> ?_) hn⟩
  subst e
  exact hR.dj (.t x) (.t y) (fun e=>hxy (by cases e;rfl)) b hb hq
 obtain⟨cs',bs,k1,k2,k3,k4,k5⟩:=MF (Θ:=Θ) place (fl.map Prod.snd) hpl (ps.toList.map fun p=>(p.1,tkT c (c.ft T p.1) S p.2)) _ _ (by simpa only[List.map_map,Function.comp_def] using hvs)
  (by intro p hp1;obtain⟨q,hq,rfl⟩:=List.mem_map.1 hp1;exact(hp q hq).2) zs ti.zc [] hz0 hzs' hndF
 have hrun:(execOp a.eval o).run c.P w=.ok (.value (.agg cs'.toArray)) w:=by
  unfold execOp
  have hm:(fs'.mapM fun f=>(Functor.map (Prod.mk f.offset) (sizeOf f.type):Sem (Nat×Nat))).run c.P w=.ok (fs'.map fun f=>(f.offset,c.P.cellsOf f.type)) w:=by
   rw[Array.mapM_eq_mapM_toList,map_eq_pure_bind,Sem.run_bind,NN c.P _ (fun f=>(f.offset,c.P.cellsOf f.type)) w fs'.toList ?_]
   ·simp[Sem.run_pure,Result.andThen_ok]
    rw[←Array.toList_map]
   ·intro f hf
    obtain⟨i,hi,rfl⟩:=List.getElem_of_mem hf
    have hi':i<fl.length:=by rw[←hsz];simpa using hi
    obtain⟨f',g1,g2,g3,g4,⟨j,g5,g6⟩, -⟩:=hfl i fl[i].1 fl[i].2 (List.getElem?_eq_getElem hi')
    have:fs'.toList[i]=f':=by
     have h2:fs'.toList[i]? =some f':=by simpa using g1
     rw[List.getElem?_eq_getElem hi] at h2
     simpa using h2
    rw[this,g2]
    simp[sizeOf,typeInfo,g5,Program.cellsOf]
  simp only[List.map_map,Function.comp_def] at k1
  have hzip:((ps.toList.map fun x=>x.1).zip (ps.toList.map fun x=>a.eval x.2))=(ps.map fun (i,x)=>(i,a.eval x)).toList:=by
   rw[List.zip_map',Array.toList_map]
  rw[hzip] at k1
  have hzc:(DD.mk (.st zs) ti.zc).cells=ti.zc.toArray:=rfl
  simp only[ho,Go.Instr.build,Sem.run_bind,zeroValue,typeInfo]
  simp[hi1,hi4,hzc,run_underlying hu,hm]
  simp at k1
  rw[show(fun x:Nat=>Option.map (fun f=>(f.offset,c.P.cellsOf f.type)) fs'[x]?)=place from rfl,k1]
  simp
 have hv:val c mv o S=.d (.st (Ds zs (ps.toList.map fun p=>(p.1,tkT c (c.ft T p.1) S p.2)))):=by
  unfold val
  obtain⟨sh,z,zc,by_,kd⟩:=ti
  simp only at hz
  subst hz
  simp only[ho,ht]
 obtain⟨own',h3,h4⟩:=hR.fin o.dst hd (cls mv o) (val c mv o S) (.agg cs'.toArray) bs (Ks.refl _ _ _) hR.top (by rw[hv];simp only[rv,rp];exact⟨cs',k2,rfl⟩) k4
  (fun b hb => by
   have:=k5 b hb
   rw[List.nil_append] at this
   obtain⟨t,ht2,q⟩:=List.mem_flatMap.1 this
   exact .inl ⟨t,ht2,q⟩)
  (fun b hb => by
   have:=k5 b hb
   rw[List.nil_append] at this
   obtain⟨t,ht2,q⟩:=List.mem_flatMap.1 this
   exact hR.lt _ b q)
 exact⟨_,w,F,Θ,own',.inl hrun,h3,h4⟩
theorem rpE.drop {w:World} {F:Nat→Nat} {s:Sh} {b:Nat}:∀(k:Nat) (l:List DD) (off:Nat),(∀e∈l,e.sh=s)→rpE w F l b off []→k≤l.length→rpE w F (l.drop k) b (off+k*s.w) []
 |0,l,off,_,h,_=>by simpa using h
 |k+1,[],off,_,_,hk=>by simp at hk
 |k+1,d::l,off,hs,h,hk=>by
  simp only[rpE] at h
  obtain⟨cs,b1,b2,hb,h2,h3,h4⟩:=h
  obtain⟨rfl,rfl⟩:=List.append_eq_nil_iff.1 hb.symm
  rw[hs d (by simp)] at h4
  have:=rpE.drop k l (off+s.w) (fun e he=>hs e (by simp[he])) h4 (by simpa using hk)
  rw[List.drop_succ_cons,show off+(k+1)*s.w=off+s.w+k*s.w by rw[Nat.add_mul];omega]
  exact this
theorem rpE.take {w:World} {F:Nat→Nat} {b:Nat}:∀(k:Nat) (l:List DD) (off:Nat),rpE w F l b off []→rpE w F (l.take k) b off []
 |0,l,off,_=>by simp[rpE]
 |k+1,[],off,h=>by simp[rpE]
 |k+1,d::l,off,h=>by
  simp only[rpE] at h
  obtain⟨cs,b1,b2,hb,h2,h3,h4⟩:=h
  obtain⟨rfl,rfl⟩:=List.append_eq_nil_iff.1 hb.symm
  rw[List.take_succ_cons]
  simp only[rpE]
  exact⟨cs,[],[],rfl,h2,h3,rpE.take k l _ h4⟩
section
variable {c:Cx} {mv:List Nat} {o:Oper} {S:St} {w:World} {F:Nat→Nat} {Θ:Ty} {own:Who→List Nat} {a:Act}
def loV (c:Cx) (S:St):Option Operand→AV
 |some l=>evT c 0 S l
 |none=> .d (.lf (.int .i64 0))
def okX (c:Cx):Option Operand→Prop
 |some l=>okO c 0 l
 |none=>True
theorem KA (hR:Rel w F Θ own S a) (isS:Bool) (len cap:Nat) (lo hi:Option Operand) (l h:Nat) (kl:IntKind) (hl:loV c S lo=.d (.lf (.int kl l))) (hh:hi.map (evT c 0 S)=none∧h=len∨∃kh,hi.map (evT c 0 S)=some (.d (.lf (.int kh (h:Int)))))
  (olo:okX c lo) (ohi:okX c hi) (h1:l≤h) (h2:h≤cap):(Go.Instr.sliceBounds isS len cap (lo.map a.eval) (hi.map a.eval) none).run c.P w=.ok (l,h,cap) w:=by
 have eh:(match hi.map a.eval with|some v=>Go.Instr.sliceBound v cap (if isS then .sliceAcap else .sliceAlen)|none=>pure len:Sem Nat).run c.P w=.ok h w:=by
  cases hi with
  |none=>
   rcases hh with ⟨-,hh⟩|⟨kh,hh⟩
   ·simp[hh]
   ·simp at hh
  |some x=>
   rcases hh with ⟨hh, -⟩|⟨kh,hh⟩
   ·simp at hh
   ·simp only[Option.map_some,Option.some.injEq] at hh
    obtain⟨e, -⟩:=CM hR hh ohi
    have:(0:Int)≤h∧(h:Int)≤cap:=⟨by omega,by omega⟩
    simp[e,Go.Instr.sliceBound,asIntOf,this]
 have el:(match lo.map a.eval with|some v=>Go.Instr.sliceBound v h (if false then .slice3C else .sliceB)|none=>pure 0:Sem Nat).run c.P w=.ok l w:=by
  cases lo with
  |none=>
   simp only[loV,AV.d.injEq,DD.lf.injEq,Value.int.injEq] at hl
   have:l=0:=by omega
   simp[this]
  |some x=>
   simp only[loV] at hl
   obtain⟨e, -⟩:=CM hR hl olo
   have:(0:Int)≤l∧(l:Int)≤h:=⟨by omega,by omega⟩
   simp[e,Go.Instr.sliceBound,asIntOf,this]
 unfold Go.Instr.sliceBounds
 cases hi with
 |none=>
  simp only[Option.map_none] at eh
  simp at eh
  subst eh
  cases lo<;>simp_all
 |some x=>
  simp only[Option.map_some] at eh
  simp only[Option.map_some,Sem.run_bind,Sem.run_pure,Result.andThen_ok,eh]
  cases lo<;>simp_all
theorem Fs (T:Nat) (x:Operand) (lo hi:Option Operand) (ho:o.op=.slice T x lo hi none):val c mv o S=match evT c T S x,loV c S lo,hi.map (evT c 0 S) with
  | .d (.lf (.string s)),.d (.lf (.int _ l)),none=> .d (.lf (.string (s.extract l.toNat s.size)))
  | .d (.lf (.string s)),.d (.lf (.int _ l)),some (.d (.lf (.int _ h)))=> .d (.lf (.string (s.extract l.toNat h.toNat)))
  | .d (.sl _ s es),.d (.lf (.int _ l)),none=> .d (.sl false s (es.drop l.toNat))
  | .d (.sl _ s es),.d (.lf (.int _ l)),some (.d (.lf (.int _ h)))=> .d (.sl false s ((es.take h.toNat).drop l.toNat))
  |_,_,_=> .un:=by
 unfold val
 simp only[ho]
 cases lo<;>rfl
theorem P5 (hR:Rel w F Θ own S a) (T:Nat) (x:Operand) (lo hi:Option Operand) (ho:o.op=.slice T x lo hi none) (ti:TI) (ht:c.ty T=some ti) (hk:ti.kd=.str) (s:BA') (hx:evT c T S x=dS' s) (ox:okO c T x)
  (l h:Nat) (kl:IntKind) (hl:loV c S lo=.d (.lf (.int kl l))) (hh:hi.map (evT c 0 S)=none∧h=s.size∨∃kh,hi.map (evT c 0 S)=some (.d (.lf (.int kh (h:Int))))) (olo:okX c lo) (ohi:okX c hi) (h1:l≤h) (h2:h≤s.size):
  ∃v,(execOp a.eval o).run c.P w=.ok (.value v) w∧rv w F Θ (val c mv o S) v ((cls mv o).flatMap fun t=>own (.t t)):=by
 obtain⟨e1,l1⟩:=CM hR hx ox
 have hd:=(c.ok T ti ht).kd
 rw[hk] at hd
 refine⟨.string (s.extract l h),?_,?_⟩
 ·unfold execOp
  have hb:=KA (c:=c) hR false s.size s.size lo hi l h kl hl hh olo ohi h1 h2
  simp[ho,e1,Go.Instr.sliceAt,run_underlying hd.2,Go.Instr.slice,hb]
 ·have hc:cls mv o=[]:=by unfold cls;rw[ho]
  rw[Fs T x lo hi ho,hx,hl,hc]
  have hle:(s.extract l h).size≤maxLen:=by
   simp only[BK] at l1
   rw[ByteArray.size_extract]
   omega
  rcases hh with ⟨hh,rfl⟩|⟨kh,hh⟩
  ·rw[hh];exact Dr hle
  ·rw[hh];exact Dr hle
theorem Sg (hR:Rel w F Θ own S a) (T:Nat) (x:Operand) (lo hi:Option Operand) (ho:o.op=.slice T x lo hi none) (ti:TI) (ht:c.ty T=some ti) (e:Nat) (s':Sh) (hk:ti.kd=.sl e s') (ow:Bool) (s:Sh) (es:List DD) (hx:evT c T S x=.d (.sl ow s es)) (ox:okO c T x)
  (hs:s=s') (l h:Nat) (kl:IntKind) (hl:loV c S lo=.d (.lf (.int kl l))) (hh:hi.map (evT c 0 S)=none∧h=es.length∨∃kh,hi.map (evT c 0 S)=some (.d (.lf (.int kh (h:Int))))) (olo:okX c lo) (ohi:okX c hi) (h1:l≤h) (h2:h≤es.length):
  ∃v,(execOp a.eval o).run c.P w=.ok (.value v) w∧rv w F Θ (val c mv o S) v ((cls mv o).flatMap fun t=>own (.t t)):=by
 subst hs
 have hv:=BU (T:=T) hR ox
 rw[hx] at hv
 simp only[rv,rp] at hv
 obtain⟨cs,⟨hs,hp,a',cap,rfl,g1,g2,g3,g4⟩,e1⟩:=hv
 simp only[DD.mk,List.headD_cons] at e1
 have hd:=(c.ok T ti ht).kd
 rw[hk] at hd
 obtain⟨-, -,hu,j,hj,hjs⟩:=hd
 refine⟨.slice (if cap=l then a' else a'.map (·.add (l*s.w))) (h - l) (cap - l),?_,?_⟩
 ·unfold execOp
  have hb:=KA (c:=c) hR true es.length cap lo hi l h kl hl hh olo ohi h1 (Nat.le_trans h2 g1)
  simp[ho,e1,Go.Instr.sliceAt,run_underlying hu,Go.Instr.slice,hb,sizeOf,typeInfo,hj,hjs]
 ·have hc:cls mv o=[]:=by unfold cls;rw[ho]
  have hval:val c mv o S=.d (.sl false s ((es.take h).drop l)):=by
   rw[Fs T x lo hi ho,hx,hl]
   rcases hh with ⟨hh,rfl⟩|⟨kh,hh⟩
   ·rw[hh];simp
   ·rw[hh];simp
  rw[hval,hc]
  simp only[rv,rp,List.flatMap_nil]
  have hlen:((es.take h).drop l).length=h - l:=by simp;omega
  refine⟨_,⟨fun q hq=>hs q (List.mem_of_mem_take (List.mem_of_mem_drop hq)),hp,(if cap=l then a' else a'.map (·.add (l*s.w))),cap - l,rfl,by rw[hlen];omega,by omega,?_,?_⟩,by simp only[DD.mk,List.headD_cons,hlen]⟩
  ·intro q
   have:a'=none∨cap=l:=by
    split at q
    ·exact .inr ‹_›
    ·cases a' with
     |none=>exact .inl rfl
     |some z=>simp at q
   rcases this with q|q
   ·have:=g3 q;omega
   ·omega
  ·by_cases hlh:l=h
   ·left
    have hz:((es.take h).drop l).length=0:=by rw[hlen];omega
    exact⟨trivial,List.length_eq_zero_iff.1 hz,by simp⟩
   ·have hne:¬cap=l:=by omega
    rw[if_neg hne]
    rcases g4 with ⟨-,g4, -⟩|⟨b,off,r,rfl,he,hf,h5⟩
    ·rw[g4] at h2;simp at h2;omega
    ·have hr:r=[]:=by
      rcases h5 with ⟨-, -,h5⟩|⟨-,h5, -⟩
      ·exact h5
      ·simp at h5
     subst hr
     right
     refine⟨b,off+l*s.w,[],by simp[Addr.add_lit],rpE.drop l _ off (fun q hq=>hs q (List.mem_of_mem_take hq)) (rpE.take h es off he) (by simp;omega),?_,.inl ⟨trivial,trivial,rfl⟩⟩
     rw[hlen]
     have:l*s.w+(h - l)*s.w≤es.length*s.w:=by rw[←Nat.add_mul];exact Nat.mul_le_mul_right _ (by omega)
     omega
end
