/- Part 25. No condition. -/
import Derived.Test.YtdooklofebdknaaGreatM24
import Derived.Laws.StructEq
namespace Go.Proofs.YtdooklofebdknaaGreat
open Go.RowKit Tryz
set_option linter.unusedVariables false
set_option linter.unusedSimpArgs false
section
variable {c:Cx} {M G:List Nat} {o:Oper} {n:Nat} {f:Nat→AV} {hp:HP} {k t:Nat}
theorem Fmq {v:Value} {s:Sh} {es:List DD} (ho:o.op=.move (.tmp t):=by rfl) (hx:f t=.mb v s es:=by rfl) (hd:o.dst=some k:=by rfl) (hm:mvB M (some k)=false:=by rfl) (hk:Nat.ble (k+1) n=true:=by rfl):FO c M o ⟨n,f,hp⟩ ⟨n,upn f k (.pv v),hp⟩ ⟨[],.val⟩:=by
 have hk:=B7 hk
 refine⟨?_,?_,?_⟩
 ·simp only[okP,cls,ho,hd,hm,cond_false];exact⟨fun _ h=>by cases h;exact hk,by simp,trivial⟩
 ·simp only[nx,nxP,cls,val,ho,hd,hm,cond_false,Az,evT,hx,AV.vw,BB,B0]
 ·simp only[B4,Fsk.sk,Ef.kd,cls,ho,hd,hm,cond_false]
theorem Fmm {s:Sh} {es:List DD} (ho:o.op=.move (.tmp t):=by rfl) (hx:f t=.ms s es:=by rfl) (hd:o.dst=some k:=by rfl) (hm:mvB M (some k)=true:=by rfl) (hk:Nat.ble (k+1) n=true:=by rfl):FO c M o ⟨n,f,hp⟩ ⟨n,upn (upn f t .un) k (.ms s es),hp⟩ ⟨[t],.val⟩:=by
 have hk:=B7 hk
 refine⟨?_,?_,?_⟩
 ·simp only[okP,cls,ho,hd,hm,cond_true,tmO];exact⟨fun _ h=>by cases h;exact hk,by simp,trivial⟩
 ·simp only[nx,nxP,cls,val,ho,hd,hm,cond_true,Az,tkT,hx,tmO,BB,B0,AV.vw]
 ·simp only[B4,Fsk.sk,Ef.kd,cls,ho,hd,hm,cond_true,tmO]
theorem Fma {s:Sh} {es:List DD} (ho:o.op=.assign (.tmp t):=by rfl) (hx:f t=.ms s es:=by rfl) (hd:o.dst=some k:=by rfl) (hk:Nat.ble (k+1) n=true:=by rfl):FO c M o ⟨n,f,hp⟩ ⟨n,upn (upn f t .un) k (.ms s es),hp⟩ ⟨[t],.val⟩:=by
 have hk:=B7 hk
 refine⟨?_,?_,?_⟩
 ·simp only[okP,cls,ho,hd,tmO];exact⟨fun _ h=>by cases h;exact hk,by simp,by trivial⟩
 ·simp only[nx,nxP,cls,val,ho,hd,Az,tkT,hx,tmO,BB,B0,AV.vw]
 ·simp only[B4,Fsk.sk,Ef.kd,cls,ho,hd,tmO]
end
section
variable {c:Cx} {ops:Array Oper} {o:Oper} {l:List Oper} {S S1:St} {K:St→Prop} {acc:List Sk} {Q:Exit→St→Prop} {code:Code} {n k d x i t:Nat} {f:Nat→AV} {hp:HP}
theorem iLp {y:Code} (h:W c (.loop y) S Q):W c (.loop y) S Q:=h
theorem Xmw (M:List Nat) {sk:Sk} (kk:WL c ops l S1 K) (hg:o.guard=none:=by rfl) (h:FO c M o S S1 sk:=by first|exact Fmq|exact Fmm|exact Fma):WL c ops (o::l) S K:=WL.op M hg h.ok h.nx kk
theorem Xmd (M:List Nat) {sk:Sk} (kk:DL c ops (acc++[sk]) l S1 K) (hg:o.guard=none:=by rfl) (h:FO c M o S S1 sk:=by first|exact Fmq|exact Fmm|exact Fma):DL c ops acc (o::l) S K:=DL.opS M hg h.ok h.nx sk h.sk kk
theorem XmO (t:Nat) {s:Sh} {es:List DD} (kk:∀v,SlV v es.length→W c code ⟨n,upn f t (.mb v s es),hp⟩ Q) (ht:f t=.ms s es:=by rfl):W c code ⟨n,f,hp⟩ Q:=
 W.msOpen t (fun v hv=>by have h:=kk v hv;rw[Az] at h;exact h) ht
theorem XmC (t:Nat) {v:Value} {s:Sh} {es:List DD} (kk:W c code ⟨n,upn f t (.ms s es),hp⟩ Q) (ht:f t=.mb v s es:=by rfl):W c code ⟨n,f,hp⟩ Q:=
 W.ahead (OH ht) (by rw[Az] at kk;exact kk)
theorem XmF (t:Nat) {s:Sh} {es:List DD} (kk:W c code ⟨n,upn f t (.d (.sl true s es)),hp⟩ Q) (ht:f t=.ms s es:=by rfl):W c code ⟨n,f,hp⟩ Q:=
 W.ahead (TD ht) (by rw[Az] at kk;exact kk)
theorem XmN (t:Nat) {s:Sh} (kk:W c code ⟨n,upn f t (.ms s []),hp⟩ Q) (ht:f t=.d (.sl true s []):=by rfl):W c code ⟨n,f,hp⟩ Q:=
 W.ahead (TC ht) (by rw[Az] at kk;exact kk)
theorem Lw {T:Nat} {s:Sh} (h:elS c T=some s):∃ti e,c.ty T=some ti∧ti.kd=.sl e s:=by
 unfold elS at h
 split at h
 ·rename_i hq;cases h;exact⟨_,_,hq,rfl⟩
 ·cases h
theorem eK {T:Nat} {fl:List (Nat×Sh)} (h:fls c T=some fl):∃ti,c.ty T=some ti∧ti.kd=.st fl:=by
 unfold fls at h
 split at h
 ·rename_i hq;cases h;exact⟨_,hq,rfl⟩
 ·cases h
theorem jd {T m j:Nat} {v:Value} {s:Sh} (kk:WL c ops l ⟨n,upn f d (.mp (IH v) s j []),hp⟩ K) (ho:o.op=.indexAddr T (.tmp x) (.tmp i):=by rfl) (hx:f x=.pv v:=by rfl) (hi:f i=.d (.lf (.int .i64 (j:Int))):=by rfl) (hd:o.dst=some d:=by rfl) (hg:o.guard=none:=by rfl) (hT:elS c T=some s:=by rfl) (hv:SlV v m:=by assumption) (hj:j<m:=by omega) (hk:Nat.ble (d+1) n=true:=by rfl):WL c ops (o::l) ⟨n,f,hp⟩ K:=by
 obtain⟨ti,e,h1,h2⟩:=Lw hT
 have hk:=B7 hk
 refine WL.cons (OS.op (by unfold wnt;rw[hg]) (Xa (fun q hq=>by rw[hd] at hq;cases hq;exact hk) T (.tmp x) (.tmp i) ho ti e s h1 h2 (by simp only[evT,hx,AV.vw]) trivial hv .i64 (j:Int) (by simp only[evT,hi,AV.vw,DD.vw]) trivial (by omega) (by simpa using hj))) ?_
 simp only[Int.toNat_natCast,hd,B0]
 rw[Az] at kk;exact kk
theorem jb {T m:Nat} {v:Value} {s:Sh} (kk:WL c ops l ⟨n,upn f d (.d (.lf (.int .i64 (m:Int)))),hp⟩ K) (ho:o.op=.call { callee:=.builtin .len,args:= #[.tmp x],argTypes:= #[T] }:=by rfl) (hx:f x=.pv v:=by rfl) (hd:o.dst=some d:=by rfl) (hg:o.guard=none:=by rfl) (hT:elS c T=some s:=by rfl) (hv:SlV v m:=by assumption) (hk:Nat.ble (d+1) n=true:=by rfl):WL c ops (o::l) ⟨n,f,hp⟩ K:=by
 obtain⟨ti,e,h1,h2⟩:=Lw hT
 have hk:=B7 hk
 refine WL.cons (OS.op (by unfold wnt;rw[hg]) (UB (fun q hq=>by rw[hd] at hq;cases hq;exact hk) T (.tmp x) ho (by simp only[evT,hx,AV.vw]) trivial hv ti e s h1 h2)) ?_
 simp only[hd,B0]
 rw[Az] at kk;exact kk
theorem nX {T q j b:Nat} {fl:List (Nat×Sh)} (kk:WL c ops l ⟨n,upn f d (.mp b (.st (fl.map Prod.snd)) j [q]),hp⟩ K) (ho:o.op=.fieldAddr T (.tmp x) q:=by rfl) (hx:f x=.mp b (.st (fl.map Prod.snd)) j []:=by rfl) (hd:o.dst=some d:=by rfl) (hg:o.guard=none:=by rfl) (hT:fls c T=some fl:=by rfl) (hq:Nat.ble (q+1) fl.length=true:=by rfl) (hp2:C8 (.st (fl.map Prod.snd)) [q]=some (Sh.ws ((fl.map Prod.snd).take q)):=by rfl) (hk:Nat.ble (d+1) n=true:=by rfl):WL c ops (o::l) ⟨n,f,hp⟩ K:=by
 obtain⟨ti,h1,h2⟩:=eK hT
 have hk:=B7 hk;have hq:=B7 hq
 refine WL.cons (OS.op (by unfold wnt;rw[hg]) (UC (fun q hq=>by rw[hd] at hq;cases hq;exact hk) T q (.tmp x) ho ti fl h1 h2 (b:=b) (j:=j) (s:=.st (fl.map Prod.snd)) (p:=[]) (by simp only[evT,hx,AV.vw]) trivial (fun off h=>by rw[E9] at h;cases h;rw[Nat.zero_add];exact hp2) hq)) ?_
 simp only[hd,B0]
 rw[Az] at kk;exact kk
theorem jc (t:Nat) {T j b:Nat} {v:Value} {s:Sh} {p:List Nat} {es:List DD} {z y:DD} (kk:WL c ops l ⟨n,upn f d (.d y),hp⟩ K) (ho:o.op=.load T (.tmp x):=by rfl) (hx:f x=.mp b s j p:=by rfl) (ht:f t=.mb v s es:=by rfl) (hb:b=IH v:=by rfl) (hd:o.dst=some d:=by rfl) (hg:o.guard=none:=by rfl) (hj:j<es.length:=by simp;omega) (hz:D8 (es[j]) p=z:=by simp[D8];rfl) (hr:shT c T=some z.sh:=by rfl) (hy:z.vw=y:=by simp;rfl) (hk:Nat.ble (d+1) n=true:=by rfl):WL c ops (o::l) ⟨n,f,hp⟩ K:=by
 have hk:=B7 hk
 unfold shT at hr
 cases hti:c.ty T with
 |none=>rw[hti] at hr;cases hr
 |some ti=>
  rw[hti] at hr
  simp only[Option.map_some,Option.some.injEq] at hr
  refine WL.cons (OS.op (by unfold wnt;rw[hg]) (Rv (fun q hq=>by rw[hd] at hq;cases hq;exact hk) T (.tmp x) ho ti hti trivial (b:=b) (j:=j) (p:=p) (by simp only[evT,hx,AV.vw]) ht hb hj (by rw[hz,hr]))) ?_
  simp only[hd,B0]
  rw[Az, ←hy, ←hz] at kk;exact kk
theorem ja (t:Nat) {T j b y:Nat} {v:Value} {s:Sh} {p:List Nat} {es es':List DD} {z zv:DD} (kk:WL c ops l ⟨n,upn (upn f y (.d zv)) t (.mb v s es'),hp⟩ K) (ho:o.op=.store T (.tmp x) (.tmp y):=by rfl) (hx:f x=.mp b s j p:=by rfl) (ht:f t=.mb v s es:=by rfl) (hb:b=IH v:=by rfl) (hy:f y=.d z:=by rfl) (hzv:z.vw=zv:=by simp;rfl) (hd:o.dst=none:=by rfl) (hg:o.guard=none:=by rfl) (hj:j<es.length:=by simp;omega) (hr:shT c T=some z.sh:=by rfl) (hrp:(D8 (es[j]) p).sh=z.sh:=by simp[D8];rfl) (hzo:z.ow:=by simp) (hes:DD.ows es:=by simp) (hty:Nat.beq t y=false:=by rfl) (htn:Nat.ble (t+1) n=true:=by rfl) (hE:es.set j (Dd (es[j]) p z)=es':=by simp[Dd,H]):WL c ops (o::l) ⟨n,f,hp⟩ K:=by
 have htn:=B7 htn
 have hne:t≠y:=fun e=>by rw[e,Nat.beq_refl] at hty;cases hty
 unfold shT at hr
 cases hti:c.ty T with
 |none=>rw[hti] at hr;cases hr
 |some ti=>
  rw[hti] at hr
  simp only[Option.map_some,Option.some.injEq] at hr
  refine WL.cons (OS.op (by unfold wnt;rw[hg]) (OQ hd T (.tmp x) (.tmp y) ho ti hti trivial trivial (b:=b) (j:=j) (p:=p) (by simp only[evT,hx,AV.vw]) ht hb hj (z:=z) (by simp only[tkT,hy]) (by rw[hrp,hr]) hr.symm hzo hes (by simp[tmO,hne]) htn)) ?_
  have e:(upd (BB f (t::tmO (.tmp y))) t (.mb v s (es.set j (Dd (es[j]) p z))):Nat→AV)=upn (upn f y (.d zv)) t (.mb v s es'):=by
   subst hE hzv
   simp only[Az]
   funext u
   by_cases e:u=t
   ·subst e;rw[Au,Au]
   ·rw[BC _ _ e,BC _ _ e,DP]
    by_cases e2:u=y
    ·subst e2;rw[Au,if_pos (by simp[tmO]),hy];rfl
    ·rw[BC _ _ e2,if_neg (by simp[tmO];exact⟨e,e2⟩)]
  show WL c ops l ⟨n,_,hp⟩ K
  rw[e];exact kk
def elB (c:Cx) (T:Nat):Option (Sh×Sh×Nat):=match c.ty T with
 |some { kd:=.sl e s,.. }=>(c.ty e).map fun te=>(s,te.sh,te.bytes)
 |_=>none
theorem eZ {T m:Nat} {s s':Sh} (h:elB c T=some (s,s',m)):∃ti te e,c.ty T=some ti∧ti.kd=.sl e s∧c.ty e=some te∧te.sh=s'∧te.bytes=m:=by
 unfold elB at h
 split at h
 ·rename_i e s2 hq
  cases he:c.ty e with
  |none=>rw[he] at h;cases h
  |some te=>rw[he] at h;cases h;exact⟨_,te,_,hq,rfl,he,rfl,rfl⟩
 ·cases h
theorem jf {T y m:Nat} {s:Sh} {ob:Bool} {es ys es':List DD} {yv:DD} (kk:WL c ops l ⟨n,upn (upn (upn f x .un) y (.d yv)) d (.ms s es'),hp⟩ K) (ho:o.op=.call { callee:=.builtin .append,args:= #[.tmp x,.tmp y],argTypes:= #[T,T] }:=by rfl) (hx:f x=.ms s es:=by rfl) (hy:f y=.d (.sl ob s ys):=by rfl) (hyv:(DD.sl ob s ys).vw=yv:=by simp;rfl) (hd:o.dst=some d:=by rfl) (hg:o.guard=none:=by rfl) (hT:elB c T=some (s,s,m):=by rfl) (hxy:Nat.beq x y=false:=by rfl) (hes:DD.ows es:=by simp) (hys:DD.ows ys:=by simp) (hm:es.length+ys.length≤134217728:=by simp;omega) (hB:m≤1048576:=by decide) (hE:es++ys=es':=by simp[H]) (hk:Nat.ble (d+1) n=true:=by rfl):WL c ops (o::l) ⟨n,f,hp⟩ K:=by
 have hk:=B7 hk
 have hne:x≠y:=fun e=>by rw[e,Nat.beq_refl] at hxy;cases hxy
 obtain⟨ti,te,e,h1,h2,h3,h4,h5⟩:=eZ hT
 have hbb:(es.length+ys.length)*te.bytes≤140737488355328:=by rw[h5];exact Nat.le_trans (Nat.mul_le_mul hm hB) (by decide)
 refine WL.cons (OS.op (by unfold wnt;rw[hg]) (Ms (fun q hq=>by rw[hd] at hq;cases hq;exact hk) T x (.tmp y) ho (by simp[tmO,hne]) ti te e s h1 h2 h3 h4 trivial es ys ob hx (by simp only[tkT,hy]) hes hys (by unfold maxLen;omega) hbb)) ?_
 have e:(B0 (BB f (x::tmO (.tmp y))) o.dst (.ms s (es++ys)):Nat→AV)=upn (upn (upn f x .un) y (.d yv)) d (.ms s es'):=by
  subst hE hyv
  simp only[Az,hd,B0]
  funext u
  by_cases e:u=d
  ·subst e;rw[Au,Au]
  ·rw[BC _ _ e,BC _ _ e,DP]
   by_cases e2:u=y
   ·subst e2;rw[Au,if_pos (by simp[tmO]),hy];rfl
   ·rw[BC _ _ e2]
    by_cases e3:u=x
    ·subst e3;rw[Au,if_pos (by simp),hx];rfl
    ·rw[BC _ _ e3,if_neg (by simp[tmO];exact⟨e3,e2⟩)]
 show WL c ops l ⟨n,_,hp⟩ K
 rw[e];exact kk
theorem nZ (t:Nat) {g T1 T2 x1:Nat} {x2:Operand} {v:Value} {s:Sh} {es:List DD} {d2 y1 y2:DD} {pre:Prop} {r r':DD} (kk:DL c ops (acc++[⟨[],.bw t⟩]) l ⟨n,upn f d (.d r'),hp⟩ K) (ho:o.op=.call { callee:=.value (.func g),args:= #[.tmp x1,x2],argTypes:= #[T1,T2] }:=by rfl) (ht:f t=.mb v s es:=by rfl) (h1:f x1=.pv v:=by rfl) (hd:o.dst=some d:=by rfl) (hg:o.guard=none:=by rfl) (h2:evT c T2 ⟨n,f,hp⟩ x2=.d d2:=by rfl) (hx2:(match x2 with| .tmp u=>Nat.beq u x1|_=>false)=false:=by rfl) (o2:okO c T2 x2:=by trivial) (e1:DD.sl false s (DD.vws es)=y1:=by simp;rfl) (e2:d2=y2:=by first|(simp(disch:=first|(simp;done)|omega) [-List.map_take,H,BF];rfl)|rfl) (hct:Ct c g [.d y1,.d y2] pre (.d r):=by exact inferInstance) (hp0:pre:=by first|trivial|omega|(simp only[H];done)|(simp only[H];first|trivial|omega|grind)|grind) (er:r=r':=by first|(simp only[H];rfl)|rfl) (hr:r.ow:=by simp) (hk:Nat.ble (d+1) n=true:=by rfl):DL c ops acc (o::l) ⟨n,f,hp⟩ K:=by
 have hk:=B7 hk
 obtain⟨fn,body,hfn⟩:=hct.ok
 subst e1 e2 er
 refine DL.cons (⟨o,[],.d r,.bw t⟩:Fsk) rfl (fun S' h=> ?_) (fun _ _ q=>by cases q) (fun _ _ q=>by cases q) (by show(⟨n,B0 f o.dst (.d r),hp⟩:St)=_;rw[hd,Az];rfl) kk
 have hx1:(S'.tm x1).vw=.pv v:=(h.rd x1 (DJ (by rw[ho];simp[Op.operands,Call.operands]))).trans (by show(f x1).vw=_;rw[h1];rfl)
 have hmb:S'.tm t=.mb v s es:=(h.bw t (by simp[Ef.bs])).trans ht
 have hev:evT c T2 S' x2=.d d2:=(Hp (fun u e=>h.rd u (DJ (by rw[ho, ←e];simp[Op.operands,Call.operands]))) T2).trans h2
 refine OS.callB (c:=c) (by rw[h.n];exact fun q hq=>by rw[hd] at hq;cases hq;exact hk) ((GK h.rd).trans (by unfold wnt;rw[hg])) (.func g) #[.tmp x1,x2] #[T1,T2] ho g [] rfl trivial fn body hfn rfl (fun x hx=> ?_) t [x1] v s es hmb (fun u hu=>by simp only[List.mem_singleton] at hu;subst hu;exact hx1) (as':=[.d (.sl false s (DD.vws es)),.d d2]) ?_ ⟨trivial,trivial,trivial⟩ (.d r) (fun h=>hct.cs hp0 h) hr
 ·simp only[List.zip_cons_cons,List.zip_nil_right,List.mem_cons,List.not_mem_nil,or_false] at hx
  rcases hx with rfl|rfl
  ·trivial
  ·exact o2
 ·simp only[List.zip_cons_cons,List.zip_nil_right,List.map_cons,List.map_nil,List.append_nil,PC]
  congr 1
  ·simp
  ·congr 1
   cases x2 with
   |tmp u=>
    have hu:u≠x1:=fun e=>by simp only[e,Nat.beq_refl] at hx2;cases hx2
    simp only[PC]
    rw[show([x1].contains u)=false by simp[hu]]
    exact hev
   |_=>exact hev
end
theorem Rel.msNil {S:St} {w:World} {F:Nat→Nat} {Θ:Ty} {own:Who→List Nat} {a:Act} (hR:Rel w F Θ own S a) {t:Nat} {s:Sh} (ht:S.tm t=.d (.sl true s [])):Rel w F Θ own ⟨S.n,upd S.tm t (.ms s []),S.hp⟩ a:=by
 refine hR.asT t _ ?_
 have hv:=hR.tm t
 rw[ht] at hv
 simp only[rv] at hv ⊢
 obtain⟨cs,h1,h2⟩:=hv
 have hl:=rp.length _ _ _ h1
 match cs,hl with
 |[v],_=>
  rw[h2]
  refine rms.of (F1:=F) h1 trivial (hR.nd _) (fun _ _ _=>rfl) fun x hx=> ?_
  simp only[rp] at h1
  obtain⟨-, -,a2,cap, -, -, -, -,g⟩:=h1
  rcases g with ⟨g, -, -⟩|⟨b,off,r, -, -, -,g⟩
  ·rw[g] at hx;simp at hx
  ·rcases g with ⟨g, -, -⟩|⟨-,g, -,g2, -⟩
   ·simp at g
   ·rw[g] at hx;simp at hx;subst hx;simpa using g2
theorem CS.nil0 {P:Program} {f:Nat} {s:Sh} {args:List AV} {h h':HP} {r:AV} (k:CS P f (.ms s []::args) h r h'):CS P f (.d (.sl true s [])::args) h r h':=fun w F Θ own vs hR=>by
 refine k w F Θ own vs ?_
 have h1:=hR.msNil (t:=0) (s:=s) rfl
 have e:(⟨(Ci (.d (.sl true s [])::args) h).n,upd (Ci (.d (.sl true s [])::args) h).tm 0 (.ms s []),(Ci (.d (.sl true s [])::args) h).hp⟩:St)=Ci (.ms s []::args) h:=by
  show(⟨_,_,_⟩:St)=⟨_,_,_⟩
  congr 1
  funext t
  cases t with
  |zero=>rw[Au];rfl
  |succ t=>rw[BC _ _ (by simp)];rfl
 rw[e] at h1
 exact h1
theorem Y9 (x y:Operand) (a b c d:Int) (w:World):(do eqGuard .eql 131 x y (.agg #[.int .i64 a,.int .i64 b]) (.agg #[.int .i64 c,.int .i64 d]);binOp .eql 131 (.agg #[.int .i64 a,.int .i64 b]) (.agg #[.int .i64 c,.int .i64 d]):Sem Value).run prog w=.ok (.bool (decide (a=c) && decide (b=d))) w:=by
 have h1:prog.eqGuardType prog.depth 131=false:=by kernel_rfl
 have h2:prog.stoodInHeld 131=false:=by kernel_rfl
 have h3:prog.underlying 131=some (.struct (prog.fieldsOf 131)):=by kernel_rfl
 have h4:(prog.fieldsOf 131).toList.map (fun f=>(f.name== "_",f.type,f.offset))=[(false,3,0),(false,3,1)]:=by kernel_rfl
 have h5:prog.underlying 3=some (.int .i64):=by kernel_rfl
 simp only[Sem.run_bind,run_eqGuard_agg w .eql _ x y _ _ h1,Result.andThen_ok,run_eql_struct]
 rw[run_equalIn_struct w 9999 _ _ _ h3 h2]
 generalize (prog.fieldsOf 131).toList=fs at h4
 have hl:fs.length=2:=by simpa using congrArg List.length h4
 obtain⟨f,g,rfl⟩:∃f g,fs=[f,g]:=by
  cases fs with
  |nil=>simp at hl
  |cons f fs=>cases fs with
   |nil=>simp at hl
   |cons g fs=>exact⟨f,g,by simp at hl;rw[hl]⟩
 simp only[List.map_cons,List.map_nil,List.cons.injEq,Prod.mk.injEq,and_true,beq_eq_false_iff_ne,ne_eq] at h4
 obtain⟨⟨n1,t1,o1⟩,n2,t2,o2⟩:=h4
 have hp:∀(i:Nat) (cs:Array Value) (v:Value),cs[i]? =some v→(part 3 cs i).run prog w=.ok v w:=fun i cs v hv=>by
  unfold part
  simp[isAgg,run_underlying h5,hv]
 have he:∀u v:Int,(Op.equalIn 9999 3 (.int .i64 u) (.int .i64 v)).run prog w=.ok (u==v) w:=fun u v=>run_equalIn_int w 9998 _ _ _ u v h5
 simp only[Op.eqFields,n1,n2,t1,t2,o1,o2,not_false_eq_true,if_true,Sem.run_bind,hp 0 #[.int .i64 a,.int .i64 b] (.int .i64 a) rfl,hp 0 #[.int .i64 c,.int .i64 d] (.int .i64 c) rfl,hp 1 #[.int .i64 a,.int .i64 b] (.int .i64 b) rfl,hp 1 #[.int .i64 c,.int .i64 d] (.int .i64 d) rfl,Result.andThen_ok,he,Sem.run_ite,Sem.run_pure,ne_eq]
 by_cases e1:a=c<;>by_cases e2:b=d<;>simp[e1,e2]
section
variable {ops:Array Oper} {o:Oper} {l:List Oper} {S:St} {K:St→Prop} {acc:List Sk} {n k s t:Nat} {f:Nat→AV} {hp:HP}
theorem XY {yT:Nat} {x y:Operand} {a b c d:Int} (hd:∀k,o.dst=some k→k<S.n) (ho:o.op=.binOp .eql 131 x y yT) (hx:evT cx 0 S x=.d (.st [.lf (.int .i64 a),.lf (.int .i64 b)])) (hy:evT cx 0 S y=.d (.st [.lf (.int .i64 c),.lf (.int .i64 d)])) (ox:okO cx 0 x) (oy:okO cx 0 y):Snd cx o S ⟨S.n,B0 S.tm o.dst (.d (.lf (.bool (decide (a=c) && decide (b=d))))),S.hp⟩:=by
 intro w F Θ own ac hR
 have two:∀(z:Operand) (u v:Int),okO cx 0 z→evT cx 0 S z=.d (.st [.lf (.int .i64 u),.lf (.int .i64 v)])→ac.eval z=.agg #[.int .i64 u,.int .i64 v]:=fun z u v oz hz=>by
  have h:=BT (T:=0) hR oz
  rw[hz] at h
  simp only[rv] at h
  obtain⟨cs,h1,h2⟩:=h
  simp only[rp,rpS] at h1
  obtain⟨c1,c2,b1,b2,rfl, -,⟨rfl, -, -⟩,c3,c4,b3,b4,rfl, -,⟨rfl, -, -⟩,rfl, -⟩:=h1
  exact h2
 have e1:=two x a b ox hx
 have e2:=two y c d oy hy
 have hrun:(execOp ac.eval o).run cx.P w=.ok (.value (.bool (decide (a=c) && decide (b=d)))) w:=by
  have:=Y9 x y a b c d w
  unfold execOp
  simp only[ho,e1,e2]
  show((do eqGuard .eql 131 x y (.agg #[.int .i64 a,.int .i64 b]) (.agg #[.int .i64 c,.int .i64 d]);binOp .eql 131 (.agg #[.int .i64 a,.int .i64 b]) (.agg #[.int .i64 c,.int .i64 d]):Sem Value)>>=fun v=>pure (Next.value v)).run prog w=_
  rw[Sem.run_bind,this];rfl
 obtain⟨own',g1,g2⟩:=hR.pure o.dst hd [] List.nodup_nil (.d (.lf (.bool (decide (a=c) && decide (b=d))))) _ (Dp trivial)
 exact⟨_,w,F,Θ,own',.inl hrun,g1,g2⟩
theorem XrD {yT:Nat} {a b c d:Int} (kk:DL cx ops (acc++[⟨[],.val⟩]) l ⟨n,upn f k (.d (.lf (.bool (decide (a=c) && decide (b=d))))),hp⟩ K) (ho:o.op=.binOp .eql 131 (.tmp s) (.tmp t) yT:=by rfl) (hx:f s=.d (.st [.lf (.int .i64 a),.lf (.int .i64 b)]):=by rfl) (hy:f t=.d (.st [.lf (.int .i64 c),.lf (.int .i64 d)]):=by rfl) (hd:o.dst=some k:=by rfl) (hg:o.guard=none:=by rfl) (hk:Nat.ble (k+1) n=true:=by rfl):DL cx ops acc (o::l) ⟨n,f,hp⟩ K:=by
 have hk:=B7 hk
 refine DL.cons (⟨o,[],.d (.lf (.bool (decide (a=c) && decide (b=d)))),.val⟩:Fsk) rfl (fun S' h=> ?_) (fun _ _ q=>by cases q) (fun _ _ q=>by cases q) (by show(⟨n,B0 f o.dst _,hp⟩:St)=_;rw[hd,Az];rfl) kk
 have h1:evT cx 0 S' (.tmp s)=.d (.st [.lf (.int .i64 a),.lf (.int .i64 b)]):=(Hp (fun u e=>h.rd u (DJ (by rw[ho, ←e];simp[Op.operands]))) 0).trans (by simp only[evT,hx,AV.vw,DD.vw,DD.vws])
 have h2:evT cx 0 S' (.tmp t)=.d (.st [.lf (.int .i64 c),.lf (.int .i64 d)]):=(Hp (fun u e=>h.rd u (DJ (by rw[ho, ←e];simp[Op.operands]))) 0).trans (by simp only[evT,hy,AV.vw,DD.vw,DD.vws])
 exact OS.op ((GK h.rd).trans (by unfold wnt;rw[hg])) (XY (by rw[h.n];exact fun q hq=>by rw[hd] at hq;cases hq;exact hk) ho h1 h2 trivial trivial)
end
