/- Part 36. No condition. -/
import Derived.Test.YtdooklofebdknaaGreatM35
namespace Go.Proofs.YtdooklofebdknaaGreat
open Go.RowKit Tryz
set_option linter.unusedVariables false
set_option linter.unusedSimpArgs false
set_option maxRecDepth 10000
set_option maxHeartbeats 4000000
theorem rpS.takeN {w:World} {F:Nat→Nat}:∀(l:List DD) (cs:List Value) (bs:List Nat) (k:Nat),rpS w F l cs bs→∃c1 c2 b1 b2,cs=c1++c2∧bs=b1++b2∧rpS w F (l.take k) c1 b1
 |l,cs,bs,0,h=>⟨[],cs,[],bs,rfl,rfl,by simp[rpS]⟩
 |[],cs,bs,k+1,h=>⟨[],cs,[],bs,rfl,rfl,by simp[rpS]⟩
 |d::l,cs,bs,k+1,h=>by
  simp only[rpS] at h
  obtain⟨c1,c2,b1,b2,rfl,rfl,h3,h4⟩:=h
  obtain⟨d1,d2,q1,q2,rfl,rfl,h5⟩:=rpS.takeN l c2 b2 k h4
  refine⟨c1++d1,d2,b1++q1,q2,by simp,by simp,?_⟩
  simp only[List.take_succ_cons,rpS]
  exact⟨c1,d1,b1,q1,rfl,rfl,h3,h5⟩
theorem Rb (zc:List Value) (n:Nat) (h0:0<zc.length):(Builtin.zeroCells zc.toArray n).toList=(List.replicate n zc).flatten:=by
 have:=Hc zc zc.length rfl h0 n
 rw[←this]
 simp[Builtin.zeroCells,madeCells]
def LK (v:Value) (i q:Nat):Value:=match v with
 | .slice a n cap=> .slice (if cap=i then a else a.map (·.add (i*q))) (n - i) (cap - i)
 |v=>v
section
variable {c:Cx} {o:Oper} {S:St}
theorem Rw (hd:∀k,o.dst=some k→k<S.n) (T:Nat) (x i:Operand) (ho:o.op=.slice T x (some i) none none) (ti:TI) (e:Nat) (s:Sh) (ht:c.ty T=some ti) (hk:ti.kd=.sl e s) {v0:Value} (hx:evT c T S x=.pv v0) (ox:okO c T x) {m j:Nat} (hv:SlV v0 m)
  (hi:evT c 0 S i=.d (.lf (.int .i64 (j:Int)))) (oi:okO c 0 i) (hj:j≤m):Snd c o S ⟨S.n,B0 S.tm o.dst (.pv (LK v0 j s.w)),S.hp⟩:=by
 intro w F Θ own a hR
 obtain⟨e2, -⟩:=CN hR hi oi
 have hvx:=BT hR ox
 rw[hx] at hvx
 simp only[rv] at hvx
 obtain⟨-,e1⟩:=hvx
 obtain⟨a',cap,rfl, -, -⟩:=hv
 have hd2:=(c.ok T ti ht).kd
 rw[hk] at hd2
 obtain⟨-, -,hu,q,hq,hqs⟩:=hd2
 have hrun:(execOp a.eval o).run c.P w=.ok (.value (LK (.slice a' m cap) j s.w)) w:=by
  unfold execOp
  simp[ho,e1,e2,Go.Instr.sliceAt,Go.Instr.slice,Go.Instr.sliceBounds,Go.Instr.sliceBound,asIntOf,run_underlying hu,hj,sizeOf,typeInfo,hq,hqs,LK]
 obtain⟨own',g1,g2⟩:=hR.pure o.dst hd [] List.nodup_nil (.pv (LK (.slice a' m cap) j s.w)) _ (by simp only[List.flatMap_nil,rv];exact⟨trivial,rfl⟩)
 exact⟨_,w,F,Θ,own',.inl hrun,g1,g2⟩
theorem OW (hd:o.dst=none) (T:Nat) (x:Operand) (ho:o.op=.call { callee:=.builtin .clear,args:= #[x],argTypes:= #[T] }) (ti te:TI) (e:Nat) (s:Sh) (ht:c.ty T=some ti) (hk:ti.kd=.sl e s) (hte:c.ty e=some te) (hts:te.sh=s) {v0:Value} {t j:Nat} {es:List DD}
  (hx:evT c 0 S x=.pv (LK v0 j s.w)) (ox:okO c 0 x) (hm:S.tm t=.mb v0 s es) (hj:j≤es.length) (h0:0<es.length) (hes:DD.ows es) (htn:t<S.n):Snd c o S ⟨S.n,upd (BB S.tm [t]) t (.mb v0 s (es.take j++List.replicate (es.length - j) te.z)),S.hp⟩:=by
 intro w F Θ own a hR
 have hE:=c.ok e te hte
 obtain⟨ii,hi1,hi2,hi3,hi4⟩:=hE.info
 have hd2:=(c.ok T ti ht).kd
 rw[hk] at hd2
 obtain⟨-,hp,hu, -⟩:=hd2
 have hvx:=BT hR ox
 rw[hx] at hvx
 simp only[rv] at hvx
 obtain⟨-,e1⟩:=hvx
 have hb:=hR.tm t
 rw[hm] at hb
 obtain⟨hv0,r,hbo,hb⟩:=Lc hb h0
 obtain⟨hs, -,a',cap,e2,h1,h2,h3,h4⟩:=hb
 rcases h4 with ⟨h4, -, -⟩|⟨b,r',cur,ty,rfl,h5,h6,h7,h8,h9⟩
 ·simp at h4
 have hvv:v0=.slice (some ⟨b,0,none⟩) es.length cap:=by rw[←hv0,e2]
 have hbb:IH v0=b:=by rw[hvv];rfl
 rw[hbb] at hbo h5
 simp only[List.cons.injEq,true_and] at h5
 subst h5
 have hown:(own (.t t)).Nodup:=hR.nd _
 have hbn:b∉r:=by rw[hbo] at hown;exact(List.nodup_cons.1 hown).1
 by_cases hjn:j=es.length
 ·-- nothing to be set
  subst hjn
  have hrun:(execOp a.eval o).run c.P w=.ok (.value (.tuple #[])) w:=by
   unfold execOp
   by_cases hq:cap=es.length<;>simp[ho,e1,resolve,invoke,builtin,Builtin.clear_,run_underlying hu,LK,hvv,hq]
  obtain⟨own',w1,w2⟩:=hR.fin (w':=w) (F':=F) (some t) (fun k hk=>by cases hk;exact htn) [t] (.mb v0 s (es.take es.length++List.replicate (es.length - es.length) te.z)) (a.tmps.getD t undef) (own (.t t)) (Ks.refl _ _ _) hR.top
   (by have h:=hR.tm t;rw[hm] at h;simpa using h) hown (fun q hq=> .inl ⟨t,by simp,hq⟩) (fun q hq=>hR.lt _ q hq)
  rw[Gk] at w1
  refine⟨_,_,F,Θ,own',.inl hrun,?_,w2⟩
  rw[hd]
  exact w1
 have hjl:j<es.length:=by omega
 obtain⟨xs,g1,g2⟩:=rpE.toS es 0 r h7
 obtain⟨c1,c2,b1,b2,rfl,rfl,g3⟩:=rpS.takeN es xs r j g2
 have hxl:=rpS.length es _ _ g2
 rw[DD.shs_eq,Sh.ws_map es hs] at hxl
 have hc1:=rpS.length _ _ _ g3
 rw[DD.shs_eq,Sh.ws_map _ (fun d hd=>hs d (List.mem_of_mem_take hd)),List.length_take] at hc1
 have hc1:c1.length=j*s.w:=by rw[hc1];congr 1;omega
 have hz:=hE.z w F
 have hzl:=rp.length _ _ _ hz
 rw[hE.zs,hts] at hzl
 let Z:=(List.replicate (es.length - j) te.zc).flatten
 have hZl:Z.length=(es.length - j)*s.w:=by simp[Z,hzl]
 have hZ1:∀u∈Z,u.oneCell'=true:=fun u hu=>by
  obtain⟨l,hl,hul⟩:=List.mem_flatten.1 hu
  rw[(List.mem_replicate.1 hl).2] at hul
  exact rp.one _ _ _ hz u hul
 have hmul:j*s.w+(es.length - j)*s.w=es.length*s.w:=by rw[←Nat.add_mul];congr 1;omega
 have hcap:es.length*s.w≤cap*s.w:=Nat.mul_le_mul_right _ h1
 have hsz:j*s.w+Z.length≤cur.size:=by rw[hZl];omega
 let arr:=cur.toList.take (j*s.w)++Z++cur.toList.drop (j*s.w+Z.length)
 have hks:Ks w F (w.setRow b arr.toArray) F (fun x=>x=b):=JL h8 h6
 have hst:=run_storeCells_at c.P b (j*s.w) ty Z 0 cur w h8 (by simpa using hsz) hZ1
 simp only[Nat.add_zero] at hst
 have hzf:=Rb te.zc (es.length - j) (by rw[hzl];exact hp)
 have hmk:=EA hz
 have hrun:(execOp a.eval o).run c.P w=.ok (.value (.tuple #[])) (w.setRow b arr.toArray):=by
  unfold execOp
  obtain⟨m,hm'⟩:∃m,es.length - j=m+1:=⟨es.length - j - 1,by omega⟩
  have hne:¬cap=j:=by omega
  rw[hm'] at hzf
  have hZe:Z=(List.replicate (m+1) te.zc).flatten:=by show(List.replicate (es.length - j) te.zc).flatten=_;rw[hm']
  simp only[arr]
  rw[hZe] at hst ⊢
  simp[ho,e1,resolve,invoke,builtin,Builtin.clear_,run_underlying hu,LK,hvv,hne,hm',zeroValue,typeInfo,hi1,hi4,hmk,hzf,hst,Addr.add_lit]
 have hat:=setRow_heap w b cur arr.toArray ty (0,0) h8
 have hlt:∀q∈b1,q<w.heap.size:=fun q hq=>hR.lt (.t t) q (by rw[hbo];simp[hq])
 have hb1:∀q∈b1,q≠b:=fun q hq e=>hbn (by rw[←e];simp[hq])
 have hto:DD.ows (es.take j):=by
  rw[DD.ows_iff] at hes ⊢
  exact fun d hd=>hes d (List.mem_of_mem_take hd)
 have g4:=rpS.keepO _ _ _ g3 hto (fun q hq=>hks.out q (hlt q hq) (hb1 q hq))
 have g5:=rpS.append _ _ _ _ _ _ g4 (IU (hE.z (w.setRow b arr.toArray) F) (es.length - j))
 rw[List.append_nil] at g5
 have hlen:(es.take j++List.replicate (es.length - j) te.z).length=es.length:=by simp;omega
 obtain⟨own',w1,w2⟩:=hR.fin (w':=w.setRow b arr.toArray) (F':=F) (some t) (fun k hk=>by cases hk;exact htn) [t] (.mb v0 s (es.take j++List.replicate (es.length - j) te.z)) (a.tmps.getD t undef) (b::b1)
  ⟨hks.os,hks.tape,hks.output,hks.size,hks.cell,hks.mono,fun q hq hne=>hks.out q hq (fun e=>hne ⟨t,by simp,by rw[hbo,e];simp⟩)⟩ (fun q hq=>hR.top q (by rw[size_setRow] at hq;exact hq))
  (by
   simp only[rv]
   refine⟨hv0,?_,hp,_,cap,by rw[hlen];exact e2,by rw[hlen];exact h1,h2,h3,.inr ⟨b,_,arr.toArray,ty,rfl,rfl,h6,?_,hat,?_⟩⟩
   ·intro d hd
    rcases List.mem_append.1 hd with hd|hd
    ·exact hs d (List.mem_of_mem_take hd)
    ·rw[(List.mem_replicate.1 hd).2,hE.zs,hts]
   ·refine rpS.toE _ _ 0 _ g5 fun q u hu=> ?_
    rw[cell_of_row _ _ _ _ ty (0,0) hat,Nat.zero_add]
    simp only[List.getElem?_toArray]
    have old:∀q u,(c1++c2)[q]? =some u→cur.toList[q]? =some u:=fun q u hu=>by
     have:=g1 q u hu
     rw[cell_of_row w _ _ _ ty (0,0) h8,Nat.zero_add] at this
     rw[Array.getElem?_toList];exact this
    have htk:cur.toList.take (j*s.w)=c1:=by
     refine List.ext_getElem? fun i=> ?_
     rw[List.getElem?_take]
     split
     ·rename_i hi
      have hi2:i<c1.length:=by omega
      rw[old i c1[i] (by rw[List.getElem?_append_left hi2,List.getElem?_eq_getElem hi2]),List.getElem?_eq_getElem hi2]
     ·rename_i hi
      rw[List.getElem?_eq_none (by omega)]
    show(cur.toList.take (j*s.w)++Z++cur.toList.drop (j*s.w+Z.length))[q]? =some u
    rw[htk]
    have hq:q<(c1++Z).length:=(List.getElem?_eq_some_iff.1 hu).1
    rw[List.getElem?_append_left hq];exact hu
   ·simp only[arr,List.size_toArray,List.length_append,List.length_take,List.length_drop,Array.length_toList]
    omega)
  (by
   refine List.nodup_cons.2 ⟨fun h=>hb1 b h rfl,?_⟩
   rw[hbo] at hown
   exact(List.nodup_append.1 (List.nodup_cons.1 hown).2).1)
  (fun q hq => by
   left
   refine⟨t,by simp,?_⟩
   rw[hbo]
   rcases List.mem_cons.1 hq with rfl|hq
   ·simp
   ·simp [hq]) (fun q hq => by
   rw[size_setRow]
   rcases List.mem_cons.1 hq with rfl|hq
   ·exact hR.lt (.t t) q (by rw[hbo];simp)
   ·exact hlt q hq)
 rw[Gk] at w1
 refine⟨_,_,F,Θ,own',.inl hrun,?_,w2⟩
 rw[hd]
 exact w1
theorem Rt (hd:∀k,o.dst=some k→k<S.n) (T:Nat) (x i:Operand) (ho:o.op=.slice T x none (some i) none) (ti:TI) (e:Nat) (s:Sh) (ht:c.ty T=some ti) (hk:ti.kd=.sl e s) {v0:Value} {t j:Nat} {es:List DD} (hx:evT c T S x=.pv v0) (ox:okO c T x) (hm:S.tm t=.mb v0 s es)
  (hi:evT c 0 S i=.d (.lf (.int .i64 (j:Int)))) (oi:okO c 0 i) (hj:j≤es.length):Snd c o S ⟨S.n,B0 (BB S.tm [t]) o.dst (.ms s (es.take j)),S.hp⟩:=by
 intro w F Θ own a hR
 obtain⟨e3, -⟩:=CN hR hi oi
 have hvx:=BT hR ox
 rw[hx] at hvx
 simp only[rv] at hvx
 obtain⟨-,e1⟩:=hvx
 have hb:=hR.tm t
 rw[hm] at hb
 simp only[rv] at hb
 obtain⟨hv0,hs,hp,a',cap,e2,h1,h2,h3,h4⟩:=hb
 have hvv:v0=.slice a' es.length cap:=by rw[←hv0,e2]
 have hd2:=(c.ok T ti ht).kd
 rw[hk] at hd2
 obtain⟨-, -,hu,q,hq,hqs⟩:=hd2
 have hjc:j≤cap:=by omega
 have haa:∀a':Option Addr,Option.map (fun x:Addr=>x.add 0) a'=a':=fun a'=>by cases a'<;>simp[Addr.add]
 have hrun:(execOp a.eval o).run c.P w=.ok (.value (.slice a' j cap)) w:=by
  unfold execOp
  simp[ho,e1,e3,hvv,Go.Instr.sliceAt,Go.Instr.slice,Go.Instr.sliceBounds,Go.Instr.sliceBound,asIntOf,run_underlying hu,hjc,sizeOf,typeInfo,hq,hqs,haa]
 have hlen:(es.take j).length=j:=by simp;omega
 have hsub:∀d∈es.take j,d.sh=s:=fun d hd=>hs d (List.mem_of_mem_take hd)
 obtain⟨bs,hr,hn,hb⟩:∃bs,rms w F s (es.take j) (.slice a' j cap) bs∧bs.Nodup∧∀q∈bs,q∈own (.t t):=by
  rcases h4 with ⟨h4,h5,h6⟩|⟨b,r,cur,ty,rfl,h5,h6,h7,h8,h9⟩
  ·refine⟨[],⟨hsub,hp,a',cap,by rw[hlen],by rw[hlen];exact hjc,h2,h3,.inl ⟨rfl,by rw[h5];simp,h6⟩⟩,List.nodup_nil,by simp⟩
  ·obtain⟨xs,g1,g2⟩:=rpE.toS es 0 r h7
   obtain⟨c1,c2,b1,b2,rfl,rfl,g3⟩:=rpS.takeN es xs r j g2
   refine⟨b::b1,⟨hsub,hp,_,cap,by rw[hlen],by rw[hlen];exact hjc,h2,h3,.inr ⟨b,b1,cur,ty,rfl,rfl,h6,rpS.toE _ _ 0 _ g3 (fun q u hu=>g1 q u (by rw[List.getElem?_append_left (List.getElem?_eq_some_iff.1 hu).1];exact hu)),h8,h9⟩⟩,?_,fun q hq=>by rw[h5];rcases List.mem_cons.1 hq with rfl|hq<;>simp[*]⟩
   have hown:(own (.t t)).Nodup:=hR.nd _
   rw[h5] at hown
   have h:=List.nodup_cons.1 hown
   exact List.nodup_cons.2 ⟨fun hq=>h.1 (List.mem_append_left _ hq),(List.nodup_append.1 h.2).1⟩
 obtain⟨own',g1,g2⟩:=hR.fin (w':=w) (F':=F) o.dst hd [t] (.ms s (es.take j)) (.slice a' j cap) bs (Ks.refl _ _ _) hR.top (by simp only[rv];exact hr) hn (fun q hq=> .inl ⟨t,by simp,hb q hq⟩) (fun q hq=>hR.lt _ q (hb q hq))
 exact⟨_,w,F,Θ,own',.inl hrun,g1,g2⟩
end
section
variable {c:Cx} {ops:Array Oper} {o:Oper} {l:List Oper} {K:St→Prop} {n d x i t:Nat} {f:Nat→AV} {hp:HP}
def elZ (c:Cx) (T:Nat):Option (Sh×Sh×DD):=match c.ty T with
 |some { kd:=.sl e s,.. }=>(c.ty e).map fun te=>(s,te.sh,te.z)
 |_=>none
theorem eY {T:Nat} {s s':Sh} {z:DD} (h:elZ c T=some (s,s',z)):∃ti te e,c.ty T=some ti∧ti.kd=.sl e s∧c.ty e=some te∧te.sh=s'∧te.z=z:=by
 unfold elZ at h
 split at h
 ·rename_i e s2 hq
  cases he:c.ty e with
  |none=>rw[he] at h;cases h
  |some te=>rw[he] at h;cases h;exact⟨_,te,_,hq,rfl,he,rfl,rfl⟩
 ·cases h
theorem nW {T m j:Nat} {v:Value} {s:Sh} (kk:WL c ops l ⟨n,upn f d (.pv (LK v j s.w)),hp⟩ K) (ho:o.op=.slice T (.tmp x) (some (.tmp i)) none none:=by rfl) (hx:f x=.pv v:=by rfl) (hi:f i=.d (.lf (.int .i64 (j:Int))):=by rfl) (hd:o.dst=some d:=by rfl) (hg:o.guard=none:=by rfl) (hT:elS c T=some s:=by rfl) (hv:SlV v m:=by assumption) (hj:j≤m:=by omega) (hk:Nat.ble (d+1) n=true:=by rfl):WL c ops (o::l) ⟨n,f,hp⟩ K:=by
 obtain⟨ti,e,h1,h2⟩:=Lw hT
 have hk:=B7 hk
 refine WL.cons (OS.op (by unfold wnt;rw[hg]) (Rw (fun q hq=>by rw[hd] at hq;cases hq;exact hk) T (.tmp x) (.tmp i) ho ti e s h1 h2 (v0:=v) (by simp only[evT,hx,AV.vw]) trivial hv (j:=j) (by simp only[evT,hi,AV.vw,DD.vw]) trivial hj)) ?_
 simp only[hd,B0]
 rw[Az] at kk;exact kk
theorem je (t:Nat) {T j:Nat} {v:Value} {s:Sh} {es es':List DD} {z:DD} (kk:WL c ops l ⟨n,upn f t (.mb v s es'),hp⟩ K) (ho:o.op=.call { callee:=.builtin .clear,args:= #[.tmp x],argTypes:= #[T] }:=by rfl) (ht:f t=.mb v s es:=by rfl) (hT:elZ c T=some (s,s,z):=by rfl) (hx:f x=.pv (LK v j s.w):=by rfl) (hd:o.dst=none:=by rfl) (hg:o.guard=none:=by rfl) (hj:j≤es.length:=by simp;omega) (h0:0<es.length:=by simp;omega) (hes:DD.ows es:=by simp) (htn:Nat.ble (t+1) n=true:=by rfl) (hE:es.take j++List.replicate (es.length - j) z=es':=by rfl):WL c ops (o::l) ⟨n,f,hp⟩ K:=by
 have htn:=B7 htn
 obtain⟨ti,te,e,h1,h2,h3,h4,h5⟩:=eY hT
 subst hE h5
 refine WL.cons (OS.op (by unfold wnt;rw[hg]) (OW hd T (.tmp x) ho ti te e s h1 h2 h3 h4 (v0:=v) (j:=j) (by simp only[evT,hx,AV.vw]) trivial ht hj h0 hes htn)) ?_
 have e:(upd (BB f [t]) t (.mb v s (es.take j++List.replicate (es.length - j) te.z)):Nat→AV)=upn f t (.mb v s (es.take j++List.replicate (es.length - j) te.z)):=by
  simp only[Az,BB]
  funext u
  by_cases e:u=t
  ·subst e;rw[Au,Au]
  ·rw[BC _ _ e,BC _ _ e,BC _ _ e]
 show WL c ops l ⟨n,_,hp⟩ K
 rw[e];exact kk
theorem nV (t:Nat) {T j:Nat} {v:Value} {s:Sh} {es es':List DD} (kk:WL c ops l ⟨n,upn (upn f t (.pv v)) d (.ms s es'),hp⟩ K) (ho:o.op=.slice T (.tmp x) none (some (.tmp i)) none:=by rfl) (hx:f x=.pv v:=by rfl) (ht:f t=.mb v s es:=by rfl) (hi:f i=.d (.lf (.int .i64 (j:Int))):=by rfl) (hd:o.dst=some d:=by rfl) (hg:o.guard=none:=by rfl) (hT:elS c T=some s:=by rfl) (hj:j≤es.length:=by simp;omega) (hE:es.take j=es':=by rfl) (hk:Nat.ble (d+1) n=true:=by rfl):WL c ops (o::l) ⟨n,f,hp⟩ K:=by
 obtain⟨ti,e,h1,h2⟩:=Lw hT
 have hk:=B7 hk
 subst hE
 refine WL.cons (OS.op (by unfold wnt;rw[hg]) (Rt (fun q hq=>by rw[hd] at hq;cases hq;exact hk) T (.tmp x) (.tmp i) ho ti e s h1 h2 (v0:=v) (by simp only[evT,hx,AV.vw]) trivial ht (j:=j) (by simp only[evT,hi,AV.vw,DD.vw]) trivial hj)) ?_
 simp only[hd,B0,BB]
 rw[Az,Az] at kk
 rw[ht];exact kk
theorem nY (t:Nat) {g T1 T2 x1:Nat} {x2:Operand} {v:Value} {s:Sh} {es:List DD} {q:Nat} {cs cs':List AV} {y1:DD} {pre:Prop} {r r':DD} (kk:WL c ops l ⟨n,upn f d (.d r'),hp⟩ K) (ho:o.op=.call { callee:=.value (.func g),args:= #[.tmp x1,x2],argTypes:= #[T1,T2] }:=by rfl) (ht:f t=.mb v s es:=by rfl) (h1:f x1=.pv v:=by rfl) (hd:o.dst=some d:=by rfl) (hg:o.guard=none:=by rfl) (h2:evT c T2 ⟨n,f,hp⟩ x2=.fn q cs:=by rfl) (hx2:(match x2 with| .tmp u=>Nat.beq u x1|_=>false)=false:=by rfl) (o2:okO c T2 x2:=by trivial) (e1:DD.sl false s (DD.vws es)=y1:=by simp;rfl) (e2:cs=cs':=by first|(simp[-List.map_take];rfl)|rfl) (hn:(AV.fn q cs').nf:=by simp[AV.nf,AV.nfs]) (hct:Ct c g [.d y1,.fn q cs'] pre (.d r):=by exact inferInstance) (hp0:pre:=by first|trivial|omega|(simp only[H];done)|(simp only[H];first|trivial|omega|grind)|grind) (er:r=r':=by first|(simp only[H];rfl)|rfl) (hr:r.ow:=by simp) (hk:Nat.ble (d+1) n=true:=by rfl):WL c ops (o::l) ⟨n,f,hp⟩ K:=by
 have hk:=B7 hk
 obtain⟨fn,body,hfn⟩:=hct.ok
 subst e1 e2 er
 refine WL.cons (OS.callB (c:=c) (fun q hq=>by rw[hd] at hq;cases hq;exact hk) (by unfold wnt;rw[hg]) (.func g) #[.tmp x1,x2] #[T1,T2] ho g [] rfl trivial fn body hfn rfl (fun x hx=> ?_) t [x1] v s es ht (fun u hu=>by simp only[List.mem_singleton] at hu;subst hu;show(f u).vw=_;rw[h1];rfl) (as':=[.d (.sl false s (DD.vws es)),.fn q cs]) ?_ ⟨trivial,hn,trivial⟩ (.d r) (fun h=>hct.cs hp0 h) hr) ?_
 ·simp only[List.zip_cons_cons,List.zip_nil_right,List.mem_cons,List.not_mem_nil,or_false] at hx
  rcases hx with rfl|rfl
  ·trivial
  ·exact o2
 ·simp only[List.zip_cons_cons,List.zip_nil_right,List.map_cons,List.map_nil,List.append_nil,PC]
  congr 1
  ·simp
  ·congr 1
   rw[←h2]
   cases x2 with
   |tmp u=>
    have:([x1]:List Nat).contains u=false:=by
     cases q:Nat.beq u x1 with
     |true=>simp only[q] at hx2;cases hx2
     |false=>simp;intro e;subst e;rw[Nat.beq_refl] at q;cases q
    simp only[this,cond_false,evT]
   |_=>rfl
 ·show WL c ops l ⟨n,B0 f o.dst (.d r),hp⟩ K
  rw[hd]
  simp only[B0]
  rw[Az] at kk;exact kk
end
def pNm (l:List AW):List ByteArray:=l.map AW.A6
def pTy (l:List AW):List A0:=l.map AW.AM
theorem dG (l:List AW):l.map AW.A6=pNm l:=rfl
theorem dF (l:List AW):l.map AW.AM=pTy l:=rfl
theorem Ug (l:List AW) (hl:l.length≤134217728) (h:HP):CS cx.P 187 [.d (.sl false CX (l.map (AW.dd false)))] h (.d (.sl true .one ((pNm l).map dS))) h:=by
 refine Ze func187 rfl 20 ?_
 apply Zr;intros
 refine Zo ?_;simp
 exact Zx
 apply Zr;intros
 iterate 2 (refine Zo ?_;simp)
 exact Zx
 refine W.seq ?_
 apply Zr;intros
 iterate 3 (refine Zo ?_;simp)
 exact Zx
 refine W.block ?_
 refine W.loopk [7,8] [] (fun k0=>[(9,.d (.lf (.int .i64 (k0:Int)))),(3,.d (.sl true .one ((En l AW.A6 k0).map dS)))]) (fun _=>[]) l.length rfl (by simp[Ha]) fun k0 hk0 T hT=> ?_
 simp at hT;subst hT
 have hl0:=Fc AW.A6 hk0
 apply Zr;intros
 refine Zo ?_ (by simp[hl0]<;>omega);simp[hl0]
 exact Zx
 refine Zv rfl ?_ ?_<;>intro hb0<;>try simp at hb0
 have hx:=B1 hb0 (by omega)
 refine W.skip ?_
 refine Zb ?_
 apply Zr;intros
 refine Zo ?_ (by simp[hl0,hb0,hx]<;>omega);simp[hl0,hb0,hx]
 refine Zm [12] ?_ (by simp[hl0,hb0,hx]<;>omega);simp[hl0,hb0,hx]
 iterate 2 (refine Zo ?_ (by simp[hl0,hb0,hx]<;>omega);simp[hl0,hb0,hx])
 exact Zx
 apply Zs;intros
 refine Zm [13] ?_ (by simp[hl0,hb0,hx]<;>omega);simp[hl0,hb0,hx]
 iterate 5 (refine Zo ?_ (by simp[hl0,hb0,hx]<;>omega);simp[hl0,hb0,hx])
 exact Zx
 apply Zs;intros
 iterate 2 (refine Zo ?_ (by simp[hl0,hb0,hx]<;>omega);simp[hl0,hb0,hx])
 exact Zx
 refine⟨hb0,Wz.to rfl rfl rfl ?_⟩
 have hs:=Hb AW.A6 hb0
 simp[hs]
 have hkl:k0=l.length:=by omega
 subst hkl
 have hres:=(Em l AW.A6).trans (dG l)
 refine W.exit ?_
 apply Zr;intros
 refine Zm [19] ?_ (by simp[hl0]<;>omega);simp[hl0]
 refine Zo ?_ (by simp[hl0]<;>omega);simp[hl0]
 exact Zx
 refine W.ret (Zq ?_)
 simp[f187,hres]
def tyK (l:List AW) (k:Nat):List A0:=(l.take k).map AW.AM
theorem TZ (l:List AW):tyK l 0=[]:=rfl
theorem Tb (l:List AW):tyK l l.length=l.map AW.AM:=by unfold tyK;rw[List.take_length]
theorem XA {l:List AW} {k:Nat} (h:k≤l.length):(tyK l k).length=k:=by unfold tyK;simp;omega
theorem Ta {l:List AW} {k:Nat} (h:k<l.length):(tyK l k).map (A0.dd false)++[l[k].AM.dd false]=(tyK l (k+1)).map (A0.dd false):=by
 unfold tyK
 rw[Y' h,List.map_append,List.map_append];rfl
theorem Uf (l:List AW) (hl:l.length≤134217728) (h:HP):CS cx.P 68 [.d (.sl false CX (l.map (AW.dd false)))] h (.d (.sl true Ag ((pTy l).map (A0.dd false)))) h:=by
 refine Ze func68 rfl 20 ?_
 apply Zr;intros
 refine Zo ?_;simp
 exact Zx
 apply Zr;intros
 iterate 2 (refine Zo ?_;simp)
 exact Zx
 refine W.seq ?_
 apply Zr;intros
 iterate 3 (refine Zo ?_;simp)
 exact Zx
 refine W.block ?_
 refine W.loopk [7,8] [] (fun k0=>[(9,.d (.lf (.int .i64 (k0:Int)))),(3,.d (.sl true Ag ((tyK l k0).map (A0.dd false))))]) (fun _=>[]) l.length rfl (by simp[TZ]) fun k0 hk0 T hT=> ?_
 simp at hT;subst hT
 have hl0:=XA hk0
 apply Zr;intros
 refine Zo ?_ (by simp[hl0]<;>omega);simp[hl0]
 exact Zx
 refine Zv rfl ?_ ?_<;>intro hb0<;>try simp at hb0
 have hx:=B1 hb0 (by omega)
 refine W.skip ?_
 refine Zb ?_
 apply Zr;intros
 refine Zo ?_ (by simp[hl0,hb0,hx]<;>omega);simp[hl0,hb0,hx]
 refine Zm [12] ?_ (by simp[hl0,hb0,hx]<;>omega);simp[hl0,hb0,hx]
 iterate 2 (refine Zo ?_ (by simp[hl0,hb0,hx]<;>omega);simp[hl0,hb0,hx])
 exact Zx
 apply Zs;intros
 refine Zm [13] ?_ (by simp[hl0,hb0,hx]<;>omega);simp[hl0,hb0,hx]
 refine Zo ?_ (by simp[hl0,hb0,hx]<;>omega);simp[hl0,hb0,hx]
 refine Zm [15] ?_ (by simp[hl0,hb0,hx]<;>omega);simp[hl0,hb0,hx]
 iterate 3 (refine Zo ?_ (by simp[hl0,hb0,hx]<;>omega);simp[hl0,hb0,hx])
 exact Zx
 apply Zs;intros
 iterate 2 (refine Zo ?_ (by simp[hl0,hb0,hx]<;>omega);simp[hl0,hb0,hx])
 exact Zx
 refine⟨hb0,Wz.to rfl rfl rfl ?_⟩
 have hs:=Ta hb0
 simp at hs
 simp[hs]
 have hkl:k0=l.length:=by omega
 subst hkl
 have hres:=(Tb l).trans (dF l)
 refine W.exit ?_
 apply Zr;intros
 refine Zm [19] ?_ (by simp[hl0]<;>omega);simp[hl0]
 refine Zo ?_ (by simp[hl0]<;>omega);simp[hl0]
 exact Zx
 refine W.ret (Zq ?_)
 simp[f68,hres]
