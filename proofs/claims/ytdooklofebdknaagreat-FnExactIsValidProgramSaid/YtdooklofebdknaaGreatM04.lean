/- Part 04. No condition. -/
import Derived.Test.YtdooklofebdknaaGreatM03
namespace Go.Proofs.YtdooklofebdknaaGreat
open Go.RowKit
set_option linter.unusedSimpArgs false
set_option linter.unusedVariables false
def Snd (c:Cx) (o:Oper) (S S':St):Prop:=∀(w:World) (F:Nat→Nat) (Θ:Ty) (own:Who→List Nat) (a:Act),Rel w F Θ own S a→
 ∃v w' F' Θ' own',((execOp a.eval o).run c.P w=.ok (.value v) w'∨(v=undef∧(execOp a.eval o).run c.P w=.ok .skip w'))∧Rel w' F' Θ' own' S' (a.put o.dst v)∧Stp w F Θ own w' F' Θ' own'
def nxP (c:Cx) (mv:List Nat) (o:Oper) (S:St):St:=⟨S.n,B0 (BB S.tm (cls mv o)) o.dst (val c mv o S),S.hp⟩
theorem U8 {c:Cx} {mv:List Nat} {o:Oper} {S:St} (hd:∀k,o.dst=some k→k<S.n) (hn:(cls mv o).Nodup)
  (h:∀(w:World) (F:Nat→Nat) (Θ:Ty) (own:Who→List Nat) (a:Act),Rel w F Θ own S a→∃v,(execOp a.eval o).run c.P w=.ok (.value v) w∧rv w F Θ (val c mv o S) v ((cls mv o).flatMap fun t=>own (.t t))):Snd c o S (nxP c mv o S):=by
 intro w F Θ own a hR
 obtain⟨v,h1,h2⟩:=h w F Θ own a hR
 obtain⟨own',h3,h4⟩:=hR.pure o.dst hd _ hn _ v h2
 exact⟨v,w,F,Θ,own',.inl h1,h3,h4⟩
section
variable {c:Cx} {mv:List Nat} {o:Oper} {S:St} {w:World} {F:Nat→Nat} {Θ:Ty} {own:Who→List Nat} {a:Act}
theorem dD (hR:Rel w F Θ own S a) (x:Operand) (ho:o.op=.move x) (h:okO c o.type x):
  ∃v,(execOp a.eval o).run c.P w=.ok (.value v) w∧rv w F Θ (val c mv o S) v ((cls mv o).flatMap fun t=>own (.t t)):=by
 refine⟨a.eval x,by unfold execOp;simp only[ho,Sem.run_pure],?_⟩
 unfold val cls
 simp only[ho]
 cases mvB mv o.dst with
 |true=>exact Ga hR h
 |false=>exact BT hR h
theorem Ue (hR:Rel w F Θ own S a) (x:Operand) (ho:o.op=.assign x) (h:okO c o.type x):
  ∃v,(execOp a.eval o).run c.P w=.ok (.value v) w∧rv w F Θ (val c mv o S) v ((cls mv o).flatMap fun t=>own (.t t)):=by
 refine⟨a.eval x,by unfold execOp;simp only[ho,Sem.run_pure],?_⟩
 unfold val cls
 simp only[ho]
 exact Ga hR h
theorem iZ (hR:Rel w F Θ own S a) (x:Operand) (ho:o.op=.nilCheck x) (h:(∃lv k p,evT c o.type S x=.pt lv k p)∨(∃d,evT c o.type S x=.el d)∨(∃f k,evT c o.type S x=.fn f k)) (h2:okO c o.type x):
  ∃v,(execOp a.eval o).run c.P w=.ok (.value v) w∧rv w F Θ (val c mv o S) v ((cls mv o).flatMap fun t=>own (.t t)):=by
 have hv:=BT (T:=o.type) hR h2
 refine⟨a.eval x,?_,by unfold val cls;simp only[ho,List.flatMap_nil];exact hv⟩
 unfold execOp
 simp only[ho]
 rcases h with ⟨lv,k,p,e⟩|⟨d,e⟩|⟨f,k,e⟩
 ·rw[e] at hv
  simp only[rv] at hv
  obtain⟨-,b,s,off, -, -,e2⟩:=hv
  simp only[e2,Sem.run_pure]
 ·rw[e] at hv
  simp only[rv] at hv
  obtain⟨-,b,off,cs,e2, -⟩:=hv
  simp only[e2,Sem.run_pure]
 ·rw[e] at hv
  simp only[rv] at hv
  obtain⟨vs,e2, -⟩:=hv
  simp only[e2,Sem.run_pure]
theorem CN {x:Operand} {u:Value} {T:Nat} (hR:Rel w F Θ own S a) (e:evT c T S x=.d (.lf u)) (h2:okO c T x):a.eval x=u∧BL u:=by
 have hv:=BT (T:=T) hR h2
 rw[e] at hv
 simp only[rv,rp] at hv
 obtain⟨cs,⟨rfl,h, -⟩,rfl⟩:=hv
 exact⟨rfl,h⟩
theorem Dp {u:Value} (h:BL u):rv w F Θ (.d (.lf u)) u []:=by
 simp only[rv,rp]
 exact⟨[u],⟨rfl,h,trivial⟩,rfl⟩
theorem ib (hR:Rel w F Θ own S a) (op:BinOp) (T yT:Nat) (x y:Operand) (ho:o.op=.binOp op T x y yT) (u v:Value) (hx:evT c 0 S x=.d (.lf u)) (hy:evT c 0 S y=.d (.lf v))
  (ox:okO c 0 x) (oy:okO c 0 y) (h:okB op u v∨∃p q ti,u=.bool p∧v=.bool q∧c.ty T=some ti∧(match ti.kd with| .bool=>True|_=>False)∧(op=.eql∨op=.neq)):
  ∃v,(execOp a.eval o).run c.P w=.ok (.value v) w∧rv w F Θ (val c mv o S) v ((cls mv o).flatMap fun t=>own (.t t)):=by
 obtain⟨e1,l1⟩:=CN hR hx ox
 obtain⟨e2,l2⟩:=CN hR hy oy
 have hb:(do eqGuard op T x y u v;binOp op T u v:Sem Value).run c.P w=.ok (FL op u v) w∧BL (FL op u v):=by
  rcases h with h|⟨p,q,ti,rfl,rfl,ht,hk,h⟩
  ·exact Zh c.P op T x y u v h w
  ·have:=(c.ok T ti ht).kd
   cases hq:ti.kd<;>rw[hq] at hk this<;>try exact hk.elim
   exact M8 c.P op T x y p q this.2 h w
 refine⟨FL op u v,?_,?_⟩
 ·unfold execOp
  have h1:=hb.1
  simp only[Sem.run_bind] at h1
  simp only[ho,e1,e2,Sem.run_bind,h1,Result.andThen_ok,Sem.run_pure]
 ·unfold val cls
  simp only[ho,hx,hy,List.flatMap_nil]
  exact Dp hb.2
theorem iY (hR:Rel w F Θ own S a) (T:Nat) (x:Operand) (ho:o.op=.unOp .not T x) (b:Bool) (hx:evT c 0 S x=.d (.lf (.bool b))) (ox:okO c 0 x):
  ∃v,(execOp a.eval o).run c.P w=.ok (.value v) w∧rv w F Θ (val c mv o S) v ((cls mv o).flatMap fun t=>own (.t t)):=by
 obtain⟨e1,l1⟩:=CN hR hx ox
 refine⟨.bool (!b),?_,?_⟩
 ·unfold execOp
  simp[ho,e1,Op.unary]
 ·unfold val cls
  simp only[ho,hx,List.flatMap_nil]
  exact Dp trivial
theorem dE (hR:Rel w F Θ own S a) (Ts T:Nat) (x:Operand) (ho:o.op=.convert Ts T x) (k k':IntKind) (n:Int) (ti ts:TI) (ht:c.ty T=some ti) (hk:ti.kd=.int k) (hs:c.ty Ts=some ts) (hx:evT c 0 S x=.d (.lf (.int k' n))) (ox:okO c 0 x):
  ∃v,(execOp a.eval o).run c.P w=.ok (.value v) w∧rv w F Θ (val c mv o S) v ((cls mv o).flatMap fun t=>own (.t t)):=by
 obtain⟨e1,l1⟩:=CN hR hx ox
 have hd:=(c.ok T ti ht).kd
 rw[hk] at hd
 have hsd:∃d,c.P.underlying Ts=some d:=by
  have:=(c.ok Ts ts hs).kd
  cases hq:ts.kd<;>rw[hq] at this<;>simp only[Wq] at this
  ·exact⟨_,this.2.choose_spec.1⟩
  ·exact⟨_,this.2⟩
  ·exact⟨_,this.2⟩
  ·exact⟨_,this.2⟩
  ·exact⟨_,this.2.2.1⟩
  ·exact⟨_,this.2.choose_spec.1⟩
  ·exact⟨_,this.2.2.2.1⟩
 obtain⟨d,hsd⟩:=hsd
 refine⟨.int k (k.wrap n),?_,?_⟩
 ·unfold execOp
  simp[ho,e1,convert,run_underlying hd.2,run_underlying hsd,Conv.intToInt]
 ·unfold val cls
  obtain⟨sh,z,zc,by_,kd⟩:=ti
  simp only at hk
  subst hk
  simp only[ho,hx,ht,List.flatMap_nil]
  exact Dp (L4 _ _)
theorem Ho {fs:List DD} {cs:List Value} (h:rpS w F fs cs []) {i:Nat} {e:DD} (he:fs[i]? =some e):∃c1 ce c2,cs=c1++(ce++c2)∧c1.length=Sh.ws ((DD.shs fs).take i)∧rp w F e ce []:=by
 obtain⟨c1,ce,c2,b1,be,b2,h1,h2,h3,h4, -⟩:=rpS.focus fs cs [] h i e he
 have:be=[]:=by
  have:=congrArg List.length h2
  simp only[List.length_append,List.length_nil] at this
  exact List.length_eq_zero_iff.1 (by omega)
 subst this
 exact⟨c1,ce,c2,h1,h3,h4⟩
theorem SB (hR:Rel w F Θ own S a) (T i:Nat) (x:Operand) (ho:o.op=.fieldAddr T x i) (ti:TI) (fl:List (Nat×Sh)) (fs:List DD) (ht:c.ty T=some ti) (hk:ti.kd=.st fl) (hx:evT c 0 S x=.el (.st fs)) (ox:okO c 0 x)
  (hs:DD.shs fs=fl.map Prod.snd) (hi:i<fl.length):
  ∃v,(execOp a.eval o).run c.P w=.ok (.value v) w∧rv w F Θ (val c mv o S) v ((cls mv o).flatMap fun t=>own (.t t)):=by
 have hv:=BT (T:=0) hR ox
 rw[hx] at hv
 simp only[rv,rp] at hv
 obtain⟨-,b,off,cs,e1,hc,hr,hf⟩:=hv
 have hd:=(c.ok T ti ht).kd
 rw[hk] at hd
 obtain⟨hsh,fs',hu,hsz,hfl⟩:=hd
 have hlen:fs.length=fl.length:=by have:=congrArg List.length hs;rwa [DD.shs_eq,List.length_map,List.length_map] at this
 have hge:fs[i]? =some fs[i]:=List.getElem?_eq_getElem (by omega)
 obtain⟨f,g1,g2,g3,g4,⟨j,g5,g6⟩, -⟩:=hfl i fl[i].1 fl[i].2 (List.getElem?_eq_getElem hi)
 obtain⟨c1,ce,c2,rfl,k1,k2⟩:=Ho hr hge
 rw[hs] at k1
 refine⟨.pointer (some ⟨b,off+f.offset,none⟩),?_,?_⟩
 ·unfold execOp
  have hne:¬j.size=0:=by omega
  simp[ho,e1,Go.Instr.fieldAt,run_underlying hu,g1,Go.Instr.sureAddr,fieldPlace,sizeOf,typeInfo,g2,g5,hne,Addr.add_lit]
 ·unfold val cls
  simp only[ho,hx,List.flatMap_nil,Se]
  have hg:fs.getD i default=fs[i]:=by rw[List.getD_eq_getElem?_getD,hge];rfl
  rw[hg]
  simp only[rv]
  refine⟨trivial,b,off+f.offset,ce,rfl,?_,k2,?_⟩
  ·intro q u hu2
   have hq:=(List.getElem?_eq_some_iff.1 hu2).1
   have:=hc (c1.length+q) u (by rw[List.getElem?_append_right (by omega)];rw[show c1.length+q - c1.length=q by omega,List.getElem?_append_left hq];exact hu2)
   rw[k1] at this
   rw[g3,Nat.add_assoc]
   exact this
  ·rw[g3, ←k1]
   simp only[List.length_append] at hf
   omega
theorem SA (hR:Rel w F Θ own S a) (T i:Nat) (x:Operand) (ho:o.op=.fieldAddr T x i) (ti:TI) (fl:List (Nat×Sh)) (ht:c.ty T=some ti) (hk:ti.kd=.st fl) (lv k:Nat) (p:List Nat) (cn:AV) (hx:evT c 0 S x=.pt lv k p) (ox:okO c 0 x)
  (hc:hpg S.hp lv k=some cn) (s:Sh) (hs:cn.csh=some s) (hp:∀off,C8 s p=some off→C8 s (p++[i])=some (off+Sh.ws ((fl.map Prod.snd).take i))) (hi:i<fl.length):
  ∃v,(execOp a.eval o).run c.P w=.ok (.value v) w∧rv w F Θ (val c mv o S) v ((cls mv o).flatMap fun t=>own (.t t)):=by
 have hv:=BT (T:=0) hR ox
 rw[hx] at hv
 simp only[rv] at hv
 obtain⟨-,b,s',off,e1,e2,e3⟩:=hv
 have hd:=(c.ok T ti ht).kd
 rw[hk] at hd
 obtain⟨hsh,fs',hu,hsz,hfl⟩:=hd
 obtain⟨f,g1,g2,g3,g4,⟨j,g5,g6⟩, -⟩:=hfl i fl[i].1 fl[i].2 (List.getElem?_eq_getElem hi)
 obtain⟨b',s2,cur,t,q1, -, -,q2, -⟩:=hR.hs lv k cn hc
 rw[hs] at q2
 cases q2
 rw[e1] at q1
 cases q1
 refine⟨.pointer (some ⟨b,off+f.offset,none⟩),?_,?_⟩
 ·unfold execOp
  have hne:¬j.size=0:=by omega
  simp[ho,e3,Go.Instr.fieldAt,run_underlying hu,g1,Go.Instr.sureAddr,fieldPlace,sizeOf,typeInfo,g2,g5,hne,Addr.add_lit]
 ·unfold val cls
  simp only[ho,hx,List.flatMap_nil]
  simp only[rv]
  exact⟨trivial,b,s,off+f.offset,e1,by rw[hp off e2,g3],rfl⟩
theorem YD (hR:Rel w F Θ own S a) (T i:Nat) (x:Operand) (ho:o.op=.field T x i) (ti:TI) (fl:List (Nat×Sh)) (fs:List DD) (ht:c.ty T=some ti) (hk:ti.kd=.st fl) (hx:evT c 0 S x=.d (.st fs)) (ox:okO c 0 x)
  (hs:DD.shs fs=fl.map Prod.snd) (hi:i<fl.length):
  ∃v,(execOp a.eval o).run c.P w=.ok (.value v) w∧rv w F Θ (val c mv o S) v ((cls mv o).flatMap fun t=>own (.t t)):=by
 have hv:=BT (T:=0) hR ox
 rw[hx] at hv
 simp only[rv,rp] at hv
 obtain⟨cs,hr,e1⟩:=hv
 simp only[DD.mk] at e1
 have hd:=(c.ok T ti ht).kd
 rw[hk] at hd
 obtain⟨hsh,fs',hu,hsz,hfl⟩:=hd
 have hlen:fs.length=fl.length:=by have:=congrArg List.length hs;rwa [DD.shs_eq,List.length_map,List.length_map] at this
 have hge:fs[i]? =some fs[i]:=List.getElem?_eq_getElem (by omega)
 obtain⟨f,g1,g2,g3,g4,⟨j,g5,g6⟩,g7⟩:=hfl i fl[i].1 fl[i].2 (List.getElem?_eq_getElem hi)
 obtain⟨c1,ce,c2,rfl,k1,k2⟩:=Ho hr hge
 rw[hs] at k1
 have hshi:fs[i].sh=fl[i].2:=by
  have:=congrArg (fun l=>l[i]?) hs
  simpa[DD.shs_eq,hge,hi] using this
 have hl:=rp.length _ _ _ k2
 have hg:fs.getD i default=fs[i]:=by rw[List.getD_eq_getElem?_getD,hge];rfl
 refine⟨fs[i].mk ce,?_,?_⟩
 ·unfold execOp
  simp only[ho,e1,Go.Instr.field,Sem.run_bind,run_underlying hu,Result.andThen_ok,g1,asAgg,Sem.run_pure,part,g2,g7,g3, ←k1]
  cases he:fs[i] with
  |lf u=>
   rw[he] at k2 hshi
   simp only[rp] at k2
   obtain⟨rfl, -⟩:=k2
   simp only[DD.sh] at hshi
   rw[←hshi]
   simp[DD.mk]
  |sl o s es=>
   rw[he] at k2 hshi
   simp only[rp] at k2
   obtain⟨-, -,a',cap,rfl, -⟩:=k2
   simp only[DD.sh] at hshi
   rw[←hshi]
   simp[DD.mk]
  |st gs=>
   rw[he] at hshi hl
   simp only[DD.sh] at hshi hl
   rw[←hshi]
   rw[←hshi] at g6
   simp[sizeOf,typeInfo,g5,DD.mk,g6, ←hl]
 ·unfold val cls
  simp only[ho,hx,List.flatMap_nil,Se,hg,rv]
  exact⟨ce,k2,rfl⟩
theorem YC (hR:Rel w F Θ own S a) (T:Nat) (x i:Operand) (ho:o.op=.indexAddr T x i) (ti:TI) (e:Nat) (s':Sh) (ht:c.ty T=some ti) (hk:ti.kd=.sl e s') (s:Sh) (ow:Bool) (es:List DD) (hx:evT c T S x=.d (.sl ow s es)) (ox:okO c T x)
  (k:IntKind) (n:Int) (hi:evT c 0 S i=.d (.lf (.int k n))) (oi:okO c 0 i) (h0:0≤n) (hn:n.toNat<es.length) (hs:s=s'):
  ∃v,(execOp a.eval o).run c.P w=.ok (.value v) w∧rv w F Θ (val c mv o S) v ((cls mv o).flatMap fun t=>own (.t t)):=by
 subst hs
 obtain⟨e2, -⟩:=CN hR hi oi
 have hv:=BT (T:=T) hR ox
 rw[hx] at hv
 simp only[rv,rp] at hv
 obtain⟨cs,⟨hs,hp,a',cap,rfl,h1,h2,h3,h4⟩,e1⟩:=hv
 simp only[DD.mk,List.headD_cons] at e1
 have hd:=(c.ok T ti ht).kd
 rw[hk] at hd
 obtain⟨-, -,hu,j,hj,hjs⟩:=hd
 rcases h4 with ⟨-,h4, -⟩|⟨b,off,r,rfl,he,hf,h5⟩
 ·rw[h4] at hn;simp at hn
 have hge:es[n.toNat]? =some es[n.toNat]:=List.getElem?_eq_getElem hn
 obtain⟨ce,bk,g1,g2,g3⟩:=rpE.get es off r hs he _ _ hge
 have hg:es.getD n.toNat default=es[n.toNat]:=by rw[List.getD_eq_getElem?_getD,hge];rfl
 have hr:r=[]:=by
  rcases h5 with ⟨-, -,h5⟩|⟨-,h5, -⟩
  ·exact h5
  ·simp at h5
 have hbk:rp w F es[n.toNat] ce []:=by
  subst hr
  have:bk=[]:=List.eq_nil_iff_forall_not_mem.2 fun x hx=>by simpa using g3 x hx
  rwa [this] at g2
 refine⟨.pointer (some ⟨b,off+n.toNat*s.w,none⟩),?_,?_⟩
 ·unfold execOp
  have hlt:0≤n∧n<(es.length:Int):=⟨h0,by omega⟩
  simp[ho,e1,e2,Go.Instr.indexAt,asIntOf,run_underlying hu,hlt,sizeOf,typeInfo,hj,hjs,Addr.add_lit]
 ·unfold val cls
  simp only[ho,hx,hi,List.flatMap_nil,hg]
  simp only[rv]
  refine⟨trivial,b,off+n.toNat*s.w,ce,rfl,g1,hbk,?_⟩
  have hl:=rp.length _ _ _ hbk
  rw[hs _ (List.getElem_mem hn)] at hl
  have:(n.toNat+1)*s.w≤es.length*s.w:=Nat.mul_le_mul_right _ hn
  rw[Nat.add_mul] at this
  omega
theorem dC (hR:Rel w F Θ own S a) (g x y:Operand) (ho:o.op=.pick g x y) (b:Bool) (hg:evT c 0 S g=.d (.lf (.bool b))) (og:okO c 0 g) (ox:okO c o.type x) (oy:okO c o.type y)
  (h:val c mv o S=bif b then evT c o.type S x else evT c o.type S y):
  ∃v,(execOp a.eval o).run c.P w=.ok (.value v) w∧rv w F Θ (val c mv o S) v ((cls mv o).flatMap fun t=>own (.t t)):=by
 obtain⟨e1, -⟩:=CN hR hg og
 rw[h]
 have hcls:cls mv o=[]:=by unfold cls;rw[ho]
 rw[hcls]
 refine⟨if b then a.eval x else a.eval y,?_,?_⟩
 ·unfold execOp
  simp[ho,e1,asBool]
 ·cases b with
  |true=>exact BT hR ox
  |false=>exact BT hR oy
theorem S9 (hR:Rel w F Θ own S a) (T:Nat) (x i:Operand) (ho:o.op=.indexAddr T x i) (ti:TI) (e:Nat) (s':Sh) (ht:c.ty T=some ti) (hk:ti.kd=.sl e s') (lv q m:Nat) (hx:evT c T S x=.rw lv q m) (ox:okO c T x)
  (cn:AV) (hc:hpg S.hp lv q=some cn) (hs:cn.csh=some (.st (List.replicate m s')))
  (k:IntKind) (n:Int) (hi:evT c 0 S i=.d (.lf (.int k n))) (oi:okO c 0 i) (h0:0≤n) (hn:n.toNat<m):
  ∃v,(execOp a.eval o).run c.P w=.ok (.value v) w∧rv w F Θ (val c mv o S) v ((cls mv o).flatMap fun t=>own (.t t)):=by
 obtain⟨e2, -⟩:=CN hR hi oi
 have hv:=BT (T:=T) hR ox
 rw[hx] at hv
 simp only[rv] at hv
 obtain⟨-,b,s,h1,e1,h2,h3⟩:=hv
 have hd:=(c.ok T ti ht).kd
 rw[hk] at hd
 obtain⟨-, -,hu,j,hj,hjs⟩:=hd
 obtain⟨b',s2,cur,t,q1, -, -,q2, -⟩:=hR.hs lv q cn hc
 rw[hs] at q2
 simp only[Option.some.injEq] at q2
 subst q2
 rw[h1] at q1
 simp only[Option.some.injEq,Prod.mk.injEq,Sh.st.injEq] at q1
 obtain⟨rfl,q1⟩:=q1
 have hsm:∀m k:Nat,k≤m→Sh.ws ((List.replicate m s').take k)=k*s'.w:=by
  intro m
  induction m with
  |zero=>intro k hk;simp at hk;subst hk;simp[Sh.ws]
  |succ m ih=>
   intro k hk
   cases k with
   |zero=>simp[Sh.ws]
   |succ k=>rw[List.replicate_succ,List.take_succ_cons,Sh.ws,ih k (by omega),Nat.add_mul];omega
 refine⟨.pointer (some ⟨b,n.toNat*s'.w,none⟩),?_,?_⟩
 ·unfold execOp
  have hlt:0≤n∧n<(m:Int):=⟨h0,by omega⟩
  simp[ho,e1,e2,Go.Instr.indexAt,asIntOf,run_underlying hu,hlt,sizeOf,typeInfo,hj,hjs,Addr.add_lit]
 ·unfold val cls
  simp only[ho,hx,hi,List.flatMap_nil]
  simp only[rv]
  refine⟨trivial,b,.st (List.replicate m s'),n.toNat*s'.w,by rw[h1,q1],?_,rfl⟩
  have hg:(List.replicate m s')[n.toNat]? =some s':=by rw[List.getElem?_replicate,if_pos hn]
  simp only[C8,hg,Option.map_some,hsm m _ (Nat.le_of_lt hn),Nat.add_zero]
theorem Og (hR:Rel w F Θ own S a) (T:Nat) (x i:Operand) (ho:o.op=.index T x i) (ti:TI) (ht:c.ty T=some ti) (hk:ti.kd=.str) (s:ByteArray) (hx:evT c 0 S x=.d (.lf (.string s))) (ox:okO c 0 x)
  (k:IntKind) (n:Int) (hi:evT c 0 S i=.d (.lf (.int k n))) (oi:okO c 0 i) (h0:0≤n) (hn:n.toNat<s.size):
  ∃v,(execOp a.eval o).run c.P w=.ok (.value v) w∧rv w F Θ (val c mv o S) v ((cls mv o).flatMap fun t=>own (.t t)):=by
 obtain⟨e1, -⟩:=CN hR hx ox
 obtain⟨e2, -⟩:=CN hR hi oi
 have hd:=(c.ok T ti ht).kd
 rw[hk] at hd
 have hg:s.data.getD n.toNat 0=s[n.toNat]:=by simp[Array.getD,hn];rfl
 refine⟨.int .u8 (s[n.toNat]).toNat,?_,?_⟩
 ·unfold execOp
  simp[ho,e1,e2,Go.Instr.index,asIntOf,run_underlying hd.2,h0,hn]
 ·unfold val cls
  simp only[ho,hx,hi,List.flatMap_nil,hg]
  refine Dp ?_
  have:(s[n.toNat]).toNat<256:=UInt8.toNat_lt _
  simp only[BL,IntKind.min,IntKind.max,IntKind.bits,IntKind.signed]
  simp
  omega
theorem SC (hR:Rel w F Θ own S a) (x:Operand) (i:Nat) (ho:o.op=.extract x i) (l:List AV) (hx:evT c 0 S x=.tp l) (ox:okO c 0 x) (hi:i<l.length):
  ∃v,(execOp a.eval o).run c.P w=.ok (.value v) w∧rv w F Θ (val c mv o S) v ((cls mv o).flatMap fun t=>own (.t t)):=by
 have hv:=BT (T:=0) hR ox
 rw[hx] at hv
 simp only[rv] at hv
 obtain⟨vs,e1,h1⟩:=hv
 have key:∀(l:List AV) (vs:List Value),rvS w F Θ l vs []→∀i,i<l.length→∃v,vs[i]? =some v∧rv w F Θ (l.getD i .un) v []:=by
  intro l
  induction l with
  |nil=>intro vs _ i hi;simp at hi
  |cons b l ih=>
   intro vs h i hi
   simp only[rvS] at h
   obtain⟨v,r,b1,b2,rfl,hb,g1,g2⟩:=h
   obtain⟨rfl,rfl⟩:=List.append_eq_nil_iff.1 hb.symm
   cases i with
   |zero=>exact⟨v,rfl,by simpa using g1⟩
   |succ i=>simpa using ih r g2 i (by simpa using hi)
 obtain⟨v,k1,k2⟩:=key l vs h1 i hi
 refine⟨v,?_,?_⟩
 ·unfold execOp
  simp[ho,e1,Go.Instr.extract,k1]
 ·unfold val cls
  simp only[ho,hx,List.flatMap_nil]
  exact k2
theorem m9 (hR:Rel w F Θ own S a) (f:Nat) (first cap:Array Operand) (ho:o.op=.makeFunc (.func f) first cap) (hf:first= #[]) (hc:∀x∈cap.toList,okO c 0 x):
  ∃v,(execOp a.eval o).run c.P w=.ok (.value v) w∧rv w F Θ (val c mv o S) v ((cls mv o).flatMap fun t=>own (.t t)):=by
 subst hf
 refine⟨.func (.func f) #[] (cap.map a.eval),?_,?_⟩
 ·unfold execOp
  simp[ho,Go.Instr.makeFunc]
 ·unfold val cls
  simp only[ho,List.flatMap_nil,rv]
  refine⟨cap.toList.map a.eval,by simp[←Array.toList_map],?_⟩
  have:=Vo (c:=c) hR (cap.toList.map fun x=>(0,x)) (by intro y hy;obtain⟨x,hx,rfl⟩:=List.mem_map.1 hy;exact hc x hx)
  simpa[List.map_map,Function.comp_def] using this
theorem QI (hR:Rel w F Θ own S a) (x:Operand) (T:Nat) (cl:Call) (ho:o.op=.call cl) (hcl:cl={ callee:=.builtin .len,args:= #[x],argTypes:= #[T] }) (ti:TI) (ht:c.ty T=some ti) (e:Nat) (s':Sh) (hk:ti.kd=.sl e s')
  (ox:okO c 0 x) (h:(∃ow s es,evT c 0 S x=.d (.sl ow s es))∨(∃lv k n,evT c 0 S x=.rw lv k n)):
  ∃v,(execOp a.eval o).run c.P w=.ok (.value v) w∧rv w F Θ (val c mv o S) v ((cls mv o).flatMap fun t=>own (.t t)):=by
 subst hcl
 have hv:=BT (T:=0) hR ox
 have hd:=(c.ok T ti ht).kd
 rw[hk] at hd
 obtain⟨-, -,hu, -⟩:=hd
 have fin:∀(n:Nat) (b:Option Addr) (cap:Nat),a.eval x=.slice b n cap→(n:Int)≤9223372036854775807→(execOp a.eval o).run c.P w=.ok (.value (.int .i64 n)) w:=fun n b cap e _=>by
  unfold execOp
  simp[ho,e,resolve,invoke,builtin,Builtin.len_,run_underlying hu,goInt]
 rcases h with ⟨ow,s,es,hx⟩|⟨lv,k,n,hx⟩
 ·rw[hx] at hv
  simp only[rv,rp] at hv
  obtain⟨cs,⟨-, -,a',cap,rfl,h1,h2, -⟩,e1⟩:=hv
  simp only[DD.mk,List.headD_cons] at e1
  unfold maxLen at h2
  refine⟨_,fin _ _ _ e1 (by omega),?_⟩
  unfold val cls
  simp only[ho,List.map_cons,List.map_nil,hx,List.flatMap_nil]
  exact Dp (by simp[BL,IntKind.min,IntKind.max,IntKind.bits,IntKind.signed];omega)
 ·rw[hx] at hv
  simp only[rv] at hv
  obtain⟨-,b,s, -,e1, -,h2⟩:=hv
  unfold maxLen at h2
  refine⟨_,fin _ _ _ e1 (by omega),?_⟩
  unfold val cls
  simp only[ho,List.map_cons,List.map_nil,hx,List.flatMap_nil]
  exact Dp (by simp[BL,IntKind.min,IntKind.max,IntKind.bits,IntKind.signed];omega)
theorem Ud (hR:Rel w F Θ own S a) (x:Operand) (T:Nat) (cl:Call) (ho:o.op=.call cl) (hcl:cl={ callee:=.builtin .len,args:= #[x],argTypes:= #[T] }) (ti:TI) (ht:c.ty T=some ti) (hk:ti.kd=.str)
  (ox:okO c 0 x) (s:ByteArray) (hx:evT c 0 S x=.d (.lf (.string s))):
  ∃v,(execOp a.eval o).run c.P w=.ok (.value v) w∧rv w F Θ (val c mv o S) v ((cls mv o).flatMap fun t=>own (.t t)):=by
 subst hcl
 obtain⟨e1,l1⟩:=CN hR hx ox
 have hd:=(c.ok T ti ht).kd
 rw[hk] at hd
 simp only[BL] at l1
 unfold maxLen at l1
 refine⟨.int .i64 s.size,?_,?_⟩
 ·unfold execOp
  simp[ho,e1,resolve,invoke,builtin,Builtin.len_,run_underlying hd.2,goInt]
 ·unfold val cls
  simp only[ho,List.map_cons,List.map_nil,hx,List.flatMap_nil]
  exact Dp (by simp[BL,IntKind.min,IntKind.max,IntKind.bits,IntKind.signed];omega)
theorem ia (hR:Rel w F Θ own S a) (x y:Operand) (b:Builtin) (hb:b=.min∨b=.max) (ts:Array TypeId) (cl:Call) (ho:o.op=.call cl) (hcl:cl={ callee:=.builtin b,args:= #[x,y],argTypes:=ts })
  (ox:okO c 0 x) (oy:okO c 0 y) (k:IntKind) (m n:Int) (hx:evT c 0 S x=.d (.lf (.int k m))) (hy:evT c 0 S y=.d (.lf (.int k n))):
  ∃v,(execOp a.eval o).run c.P w=.ok (.value v) w∧rv w F Θ (val c mv o S) v ((cls mv o).flatMap fun t=>own (.t t)):=by
 subst hcl
 obtain⟨e1,l1⟩:=CN hR hx ox
 obtain⟨e2,l2⟩:=CN hR hy oy
 rcases hb with rfl|rfl
 ·refine⟨.int k (if n<m then n else m),?_,?_⟩
  ·unfold execOp
   simp[ho,e1,e2,resolve,invoke,builtin,Builtin.min_,Builtin.min2]
  ·unfold val cls
   simp only[ho,List.map_cons,List.map_nil,hx,hy,List.flatMap_nil]
   refine Dp ?_
   split<;>assumption
 ·refine⟨.int k (if n>m then n else m),?_,?_⟩
  ·unfold execOp
   simp[ho,e1,e2,resolve,invoke,builtin,Builtin.max_,Builtin.max2]
  ·unfold val cls
   simp only[ho,List.map_cons,List.map_nil,hx,hy,List.flatMap_nil]
   refine Dp ?_
   split<;>assumption
end
