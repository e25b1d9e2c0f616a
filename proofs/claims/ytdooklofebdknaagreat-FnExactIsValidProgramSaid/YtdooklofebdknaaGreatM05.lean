/- Part 05. No condition. -/
import Derived.Test.YtdooklofebdknaaGreatM04
namespace Go.Proofs.YtdooklofebdknaaGreat
open Go.RowKit
set_option linter.unusedSimpArgs false
set_option linter.unusedVariables false
theorem EA {w:World} {F:Nat→Nat} {x:DD} {cs:List Value} {bs:List Nat} (h:rp w F x cs bs):(x.mk cs).cells=cs.toArray:=by
 cases x with
 |lf v=>
  simp only[rp] at h
  obtain⟨rfl,h, -⟩:=h
  simp only[DD.mk,List.headD_cons]
  cases v<;>first|rfl|exact h.elim
 |sl o s es=>
  simp only[rp] at h
  obtain⟨-, -,a,cap,rfl, -⟩:=h
  rfl
 |st fs=>rfl
theorem NX:∀(l:List Value) (off k:Nat) (pre old post:List Value),pre.length=off+k→old.length=l.length→
  (l.zipIdx k).foldl (fun cs (x:Value×Nat)=>cs.setIfInBounds (off+x.2) x.1) (pre++(old++post)).toArray=(pre++(l++post)).toArray
 |[],off,k,pre,old,post,_,h=>by
  have:old=[]:=List.length_eq_zero_iff.1 (by simpa using h)
  subst this
  rfl
 |v::l,off,k,pre,[],post,_,h=>by simp at h
 |v::l,off,k,pre,u::old,post,hp,h=>by
  rw[List.zipIdx_cons,List.foldl_cons]
  have e:(pre++(u::old++post)).toArray.setIfInBounds (off+k) v=((pre++[v])++(old++post)).toArray:=by
   rw[List.setIfInBounds_toArray]
   congr 1
   rw[List.set_append_right _ _ (by omega),hp,Nat.sub_self]
   simp
  simp only[e]
  rw[NX l off (k+1) (pre++[v]) old post (by simp[hp];omega) (by simpa using h)]
  simp
theorem Nf (place:Nat→Option (Nat×Nat)) (i off size:Nat) (v:Value) (cs:List Value) (hv:v.cells=cs.toArray) (hp:place i=some (off,size)) (hs:cs.length=size) (c1 old c2:List Value) (h1:c1.length=off) (h2:old.length=size) (rest:List (Nat×Value)):
  Go.Instr.fill place (c1++(old++c2)).toArray ((i,v)::rest)=Go.Instr.fill place (c1++(cs++c2)).toArray rest:=by
 have hf:=NX cs off 0 c1 old c2 (by simpa using h1) (by rw[h2,hs])
 simp only[Go.Instr.fill,hp,hv]
 rw[if_neg (by simp[hs,h1,h2]<;>omega)]
 congr 1
 simpa using hf
theorem Ls {w:World} {F:Nat→Nat} {Θ:Ty} (place:Nat→Option (Nat×Nat)) (shl:List Sh) (hpl:∀i s,shl[i]? =some s→place i=some (Sh.ws (shl.take i),s.w)):
  ∀(ps:List (Nat×AV)) (vs:List Value) (bv:List Nat),rvS w F Θ (ps.map Prod.snd) vs bv→(∀p∈ps,∃x s,p.2=.d x∧shl[p.1]? =some s∧x.sh=s)→
  ∀(fs:List DD) (cs:List Value) (bf:List Nat),rpS w F fs cs bf→DD.shs fs=shl→(bf++bv).Nodup→
  ∃cs' bs,Go.Instr.fill place cs.toArray ((ps.map Prod.fst).zip vs)=some cs'.toArray∧rpS w F (Dq fs ps) cs' bs∧DD.shs (Dq fs ps)=shl∧bs.Nodup∧∀b∈bs,b∈bf++bv
 |[],vs,bv,h,_,fs,cs,bf,hf,hs,hn=>by
  simp only[List.map_nil,rvS] at h
  obtain⟨rfl,rfl⟩:=h
  exact⟨cs,bf,rfl,hf,hs,by simpa using hn,by simp⟩
 |(i,av)::ps,vs,bv,h,hok,fs,cs,bf,hf,hs,hn=>by
  simp only[List.map_cons,rvS] at h
  obtain⟨v,r,b1,b2,rfl,rfl,h1,h2⟩:=h
  obtain⟨x,s,hx,hsi,hxs⟩:=hok (i,av) (by simp)
  simp only at hx hsi
  subst hx
  simp only[rv] at h1
  obtain⟨cx,h1,rfl⟩:=h1
  obtain⟨e,he,hes⟩:=Pr (hs ▸ hsi)
  obtain⟨c1,ce,c2,d1,de,d2,rfl,rfl,g1,g2,g3⟩:=rpS.focus fs cs bf hf i e he
  have hl:=rp.length _ _ _ h1
  have hl2:=rp.length _ _ _ g2
  rw[hs] at g1
  have hsh:DD.shs (fs.set i x)=shl:=by rw[Pp he (by rw[hes,hxs]),hs]
  obtain ⟨cs', bs, k1, k2, k3, k4, k5⟩ := Ls place shl hpl ps r b2 h2 (fun p hp => hok p (by simp [hp])) (fs.set i x) (c1 ++ (cx ++ c2)) (d1 ++ (b1 ++ d2)) (g3 x cx b1 h1) hsh (by
   have h0:(d1++(de++d2)++(b1++b2)).Nodup:=hn
   have hp1:(d1++(b1++d2)++b2).Perm (d1++d2++(b1++b2)):=by
    simp only[List.append_assoc]
    refine List.Perm.append_left d1 ?_
    rw[←List.append_assoc, ←List.append_assoc d2]
    exact List.Perm.append_right b2 List.perm_append_comm
   refine hp1.nodup_iff.2 (List.Nodup.sublist ?_ h0)
   refine List.Sublist.append (List.Sublist.append (List.Sublist.refl _) (List.sublist_append_right de d2)) (List.Sublist.refl _))
  refine⟨cs',bs,?_,by simpa only[Dq] using k2,by simpa only[Dq] using k3,k4,fun b hb=> ?_⟩
  ·simp only[List.map_cons,List.zip_cons_cons]
   rw[Nf place i _ _ _ cx (EA h1) (hpl i s hsi) (by rw[hl,hxs]) c1 ce c2 g1 (by rw[hl2,hes])]
   exact k1
  ·have:=k5 b hb
   simp only[List.mem_append] at this ⊢
   rcases this with (h|h|h)|h
   ·exact .inl (.inl h)
   ·exact .inr (.inl h)
   ·exact .inl (.inr (.inr h))
   ·exact .inr (.inr h)
theorem N0 {α β:Type} (P:Program) (f:α→Sem β) (g:α→β) (w:World):∀(l:List α),(∀x∈l,(f x).run P w=.ok (g x) w)→(l.mapM f).run P w=.ok (l.map g) w
 |[],_=>by simp
 |x::l,h=>by
  rw[List.mapM_cons]
  simp[Sem.run_bind,h x (by simp),N0 P f g w l (fun y hy=>h y (by simp[hy]))]
theorem Rx {c:Cx} {mv:List Nat} {o:Oper} {S:St} (hd:∀k,o.dst=some k→k<S.n) (T:Nat) (ps:Array (Nat×Operand)) (ho:o.op=.build T ps) (hn:(cls mv o).Nodup) (ti:TI) (fl:List (Nat×Sh)) (zs:List DD)
  (ht:c.ty T=some ti) (hk:ti.kd=.st fl) (hz:ti.z=.st zs) (hp:∀p∈ps.toList,okO c (c.ft T p.1) p.2∧∃x s,tkT c (c.ft T p.1) S p.2=.d x∧(fl.map Prod.snd)[p.1]? =some s∧x.sh=s):Snd c o S (nxP c mv o S):=by
 intro w F Θ own a hR
 have hT:=c.ok T ti ht
 obtain⟨ii,hi1,hi2,hi3,hi4⟩:=hT.info
 have hkd:=hT.kd
 rw[hk] at hkd
 obtain⟨hsh,fs',hu,hsz,hfl⟩:=hkd
 have hz0:=hT.z w F
 have hzs:=hT.zs
 rw[hz] at hz0 hzs hi4
 simp only[rp] at hz0
 simp only[DD.sh] at hzs
 rw[hsh] at hzs
 have hzs':DD.shs zs=fl.map Prod.snd:=by simpa using hzs
 have hvs:=OM (c:=c) hR (ps.toList.map fun p=>(c.ft T p.1,p.2)) (by intro x hx;obtain⟨p,hp1,rfl⟩:=List.mem_map.1 hx;exact(hp p hp1).1)
 simp only[List.map_map,Function.comp_def] at hvs
 have hfm:((ps.toList.map fun p=>(c.ft T p.1,p.2)).flatMap fun x=>tmO x.2)=cls mv o:=by
  unfold cls
  simp only[ho,List.flatMap_map]
 rw[hfm] at hvs
 let place:Nat→Option (Nat×Nat):=fun i=>Option.map (fun f=>(f.offset,c.P.cellsOf f.type)) fs'[i]?
 have hpl:∀i s,(fl.map Prod.snd)[i]? =some s→place i=some (Sh.ws ((fl.map Prod.snd).take i),s.w):=by
  intro i s hs
  rw[List.getElem?_map] at hs
  cases hq:fl[i]? with
  |none=>rw[hq] at hs;cases hs
  |some q=>
   rw[hq] at hs
   simp only[Option.map_some,Option.some.injEq] at hs
   subst hs
   obtain⟨f,g1,g2,g3,g4,⟨j,g5,g6⟩, -⟩:=hfl i q.1 q.2 hq
   show Option.map _ fs'[i]? =_
   rw[g1]
   simp only[Option.map_some,g2,g3,Program.cellsOf,g5,g6]
   simp
 have hndF:(([]:List Nat)++(cls mv o).flatMap fun t=>own (.t t)).Nodup:=by
  rw[List.nil_append]
  refine List.pairwise_flatMap.2 ⟨fun t _=>hR.nd _,List.Pairwise.imp (fun {x y} hxy b hb q hq e=> ?_) hn⟩
  subst e
  exact hR.dj (.t x) (.t y) (fun e=>hxy (by cases e;rfl)) b hb hq
 obtain⟨cs',bs,k1,k2,k3,k4,k5⟩:=Ls (Θ:=Θ) place (fl.map Prod.snd) hpl (ps.toList.map fun p=>(p.1,tkT c (c.ft T p.1) S p.2)) _ _ (by simpa only[List.map_map,Function.comp_def] using hvs)
  (by intro p hp1;obtain⟨q,hq,rfl⟩:=List.mem_map.1 hp1;exact(hp q hq).2) zs ti.zc [] hz0 hzs' hndF
 have hrun:(execOp a.eval o).run c.P w=.ok (.value (.agg cs'.toArray)) w:=by
  unfold execOp
  have hm:(fs'.mapM fun f=>(Functor.map (Prod.mk f.offset) (sizeOf f.type):Sem (Nat×Nat))).run c.P w=.ok (fs'.map fun f=>(f.offset,c.P.cellsOf f.type)) w:=by
   rw[Array.mapM_eq_mapM_toList,map_eq_pure_bind,Sem.run_bind,N0 c.P _ (fun f=>(f.offset,c.P.cellsOf f.type)) w fs'.toList ?_]
   ·simp[Sem.run_pure,Result.andThen_ok]
    rw[←Array.toList_map]
   ·intro f hf
    obtain⟨i,hi,rfl⟩:=List.getElem_of_mem hf
    have hi':i<fl.length:=by rw[←hsz];simpa using hi
    obtain⟨f',g1,g2,g3,g4,⟨j,g5,g6⟩, -⟩:=hfl i fl[i].1 fl[i].2 (List.getElem?_eq_getElem hi')
    have:fs'.toList[i]=f':=by
     have h2:fs'.toList[i]? =some f':=by simpa using g1
     rw[List.getElem?_eq_getElem hi] at h2
     simpa using h2
    rw[this,g2]
    simp[sizeOf,typeInfo,g5,Program.cellsOf]
  simp only[List.map_map,Function.comp_def] at k1
  have hzip:((ps.toList.map fun x=>x.1).zip (ps.toList.map fun x=>a.eval x.2))=(ps.map fun (i,x)=>(i,a.eval x)).toList:=by
   rw[List.zip_map',Array.toList_map]
  rw[hzip] at k1
  have hzc:(DD.mk (.st zs) ti.zc).cells=ti.zc.toArray:=rfl
  simp only[ho,Go.Instr.build,Sem.run_bind,zeroValue,typeInfo]
  simp[hi1,hi4,hzc,run_underlying hu,hm]
  simp at k1
  rw[show(fun x:Nat=>Option.map (fun f=>(f.offset,c.P.cellsOf f.type)) fs'[x]?)=place from rfl,k1]
  simp
 have hv:val c mv o S=.d (.st (Dq zs (ps.toList.map fun p=>(p.1,tkT c (c.ft T p.1) S p.2)))):=by
  unfold val
  obtain⟨sh,z,zc,by_,kd⟩:=ti
  simp only at hz
  subst hz
  simp only[ho,ht]
 obtain⟨own',h3,h4⟩:=hR.fin o.dst hd (cls mv o) (val c mv o S) (.agg cs'.toArray) bs (Ks.refl _ _ _) hR.top (by rw[hv];simp only[rv,rp];exact⟨cs',k2,rfl⟩) k4
  (fun b hb => by
   have:=k5 b hb
   rw[List.nil_append] at this
   obtain⟨t,ht2,q⟩:=List.mem_flatMap.1 this
   exact .inl ⟨t,ht2,q⟩)
  (fun b hb => by
   have:=k5 b hb
   rw[List.nil_append] at this
   obtain⟨t,ht2,q⟩:=List.mem_flatMap.1 this
   exact hR.lt _ b q)
 exact⟨_,w,F,Θ,own',.inl hrun,h3,h4⟩
theorem rpE.drop {w:World} {F:Nat→Nat} {s:Sh} {b:Nat}:∀(k:Nat) (l:List DD) (off:Nat),(∀e∈l,e.sh=s)→rpE w F l b off []→k≤l.length→rpE w F (l.drop k) b (off+k*s.w) []
 |0,l,off,_,h,_=>by simpa using h
 |k+1,[],off,_,_,hk=>by simp at hk
 |k+1,d::l,off,hs,h,hk=>by
  simp only[rpE] at h
  obtain⟨cs,b1,b2,hb,h2,h3,h4⟩:=h
  obtain⟨rfl,rfl⟩:=List.append_eq_nil_iff.1 hb.symm
  rw[hs d (by simp)] at h4
  have:=rpE.drop k l (off+s.w) (fun e he=>hs e (by simp[he])) h4 (by simpa using hk)
  rw[List.drop_succ_cons,show off+(k+1)*s.w=off+s.w+k*s.w by rw[Nat.add_mul];omega]
  exact this
theorem rpE.take {w:World} {F:Nat→Nat} {b:Nat}:∀(k:Nat) (l:List DD) (off:Nat),rpE w F l b off []→rpE w F (l.take k) b off []
 |0,l,off,_=>by simp[rpE]
 |k+1,[],off,h=>by simp[rpE]
 |k+1,d::l,off,h=>by
  simp only[rpE] at h
  obtain⟨cs,b1,b2,hb,h2,h3,h4⟩:=h
  obtain⟨rfl,rfl⟩:=List.append_eq_nil_iff.1 hb.symm
  rw[List.take_succ_cons]
  simp only[rpE]
  exact⟨cs,[],[],rfl,h2,h3,rpE.take k l _ h4⟩
section
variable {c:Cx} {mv:List Nat} {o:Oper} {S:St} {w:World} {F:Nat→Nat} {Θ:Ty} {own:Who→List Nat} {a:Act}
def loV (c:Cx) (S:St):Option Operand→AV
 |some l=>evT c 0 S l
 |none=> .d (.lf (.int .i64 0))
def okX (c:Cx):Option Operand→Prop
 |some l=>okO c 0 l
 |none=>True
theorem Jr (hR:Rel w F Θ own S a) (isS:Bool) (len cap:Nat) (lo hi:Option Operand) (l h:Nat) (kl:IntKind) (hl:loV c S lo=.d (.lf (.int kl l))) (hh:hi.map (evT c 0 S)=none∧h=len∨∃kh,hi.map (evT c 0 S)=some (.d (.lf (.int kh (h:Int)))))
  (olo:okX c lo) (ohi:okX c hi) (h1:l≤h) (h2:h≤cap):(Go.Instr.sliceBounds isS len cap (lo.map a.eval) (hi.map a.eval) none).run c.P w=.ok (l,h,cap) w:=by
 have eh:(match hi.map a.eval with|some v=>Go.Instr.sliceBound v cap (if isS then .sliceAcap else .sliceAlen)|none=>pure len:Sem Nat).run c.P w=.ok h w:=by
  cases hi with
  |none=>
   rcases hh with ⟨-,hh⟩|⟨kh,hh⟩
   ·simp[hh]
   ·simp at hh
  |some x=>
   rcases hh with ⟨hh, -⟩|⟨kh,hh⟩
   ·simp at hh
   ·simp only[Option.map_some,Option.some.injEq] at hh
    obtain⟨e, -⟩:=CN hR hh ohi
    have:(0:Int)≤h∧(h:Int)≤cap:=⟨by omega,by omega⟩
    simp[e,Go.Instr.sliceBound,asIntOf,this]
 have el:(match lo.map a.eval with|some v=>Go.Instr.sliceBound v h (if false then .slice3C else .sliceB)|none=>pure 0:Sem Nat).run c.P w=.ok l w:=by
  cases lo with
  |none=>
   simp only[loV,AV.d.injEq,DD.lf.injEq,Value.int.injEq] at hl
   have:l=0:=by omega
   simp[this]
  |some x=>
   simp only[loV] at hl
   obtain⟨e, -⟩:=CN hR hl olo
   have:(0:Int)≤l∧(l:Int)≤h:=⟨by omega,by omega⟩
   simp[e,Go.Instr.sliceBound,asIntOf,this]
 unfold Go.Instr.sliceBounds
 cases hi with
 |none=>
  simp only[Option.map_none] at eh
  simp at eh
  subst eh
  cases lo<;>simp_all
 |some x=>
  simp only[Option.map_some] at eh
  simp only[Option.map_some,Sem.run_bind,Sem.run_pure,Result.andThen_ok,eh]
  cases lo<;>simp_all
theorem Fp (T:Nat) (x:Operand) (lo hi:Option Operand) (ho:o.op=.slice T x lo hi none):val c mv o S=match evT c T S x,loV c S lo,hi.map (evT c 0 S) with
  | .d (.lf (.string s)),.d (.lf (.int _ l)),none=> .d (.lf (.string (s.extract l.toNat s.size)))
  | .d (.lf (.string s)),.d (.lf (.int _ l)),some (.d (.lf (.int _ h)))=> .d (.lf (.string (s.extract l.toNat h.toNat)))
  | .d (.sl _ s es),.d (.lf (.int _ l)),none=> .d (.sl false s (es.drop l.toNat))
  | .d (.sl _ s es),.d (.lf (.int _ l)),some (.d (.lf (.int _ h)))=> .d (.sl false s ((es.take h.toNat).drop l.toNat))
  |_,_,_=> .un:=by
 unfold val
 simp only[ho]
 cases lo<;>rfl
theorem Of (hR:Rel w F Θ own S a) (T:Nat) (x:Operand) (lo hi:Option Operand) (ho:o.op=.slice T x lo hi none) (ti:TI) (ht:c.ty T=some ti) (hk:ti.kd=.str) (s:ByteArray) (hx:evT c T S x=.d (.lf (.string s))) (ox:okO c T x)
  (l h:Nat) (kl:IntKind) (hl:loV c S lo=.d (.lf (.int kl l))) (hh:hi.map (evT c 0 S)=none∧h=s.size∨∃kh,hi.map (evT c 0 S)=some (.d (.lf (.int kh (h:Int))))) (olo:okX c lo) (ohi:okX c hi) (h1:l≤h) (h2:h≤s.size):
  ∃v,(execOp a.eval o).run c.P w=.ok (.value v) w∧rv w F Θ (val c mv o S) v ((cls mv o).flatMap fun t=>own (.t t)):=by
 obtain⟨e1,l1⟩:=CN hR hx ox
 have hd:=(c.ok T ti ht).kd
 rw[hk] at hd
 refine⟨.string (s.extract l h),?_,?_⟩
 ·unfold execOp
  have hb:=Jr (c:=c) hR false s.size s.size lo hi l h kl hl hh olo ohi h1 h2
  simp[ho,e1,Go.Instr.sliceAt,run_underlying hd.2,Go.Instr.slice,hb]
 ·have hc:cls mv o=[]:=by unfold cls;rw[ho]
  rw[Fp T x lo hi ho,hx,hl,hc]
  have hle:(s.extract l h).size≤maxLen:=by
   simp only[BL] at l1
   rw[ByteArray.size_extract]
   omega
  rcases hh with ⟨hh,rfl⟩|⟨kh,hh⟩
  ·rw[hh];exact Dp hle
  ·rw[hh];exact Dp hle
theorem S8 (hR:Rel w F Θ own S a) (T:Nat) (x:Operand) (lo hi:Option Operand) (ho:o.op=.slice T x lo hi none) (ti:TI) (ht:c.ty T=some ti) (e:Nat) (s':Sh) (hk:ti.kd=.sl e s') (ow:Bool) (s:Sh) (es:List DD) (hx:evT c T S x=.d (.sl ow s es)) (ox:okO c T x)
  (hs:s=s') (l h:Nat) (kl:IntKind) (hl:loV c S lo=.d (.lf (.int kl l))) (hh:hi.map (evT c 0 S)=none∧h=es.length∨∃kh,hi.map (evT c 0 S)=some (.d (.lf (.int kh (h:Int))))) (olo:okX c lo) (ohi:okX c hi) (h1:l≤h) (h2:h≤es.length):
  ∃v,(execOp a.eval o).run c.P w=.ok (.value v) w∧rv w F Θ (val c mv o S) v ((cls mv o).flatMap fun t=>own (.t t)):=by
 subst hs
 have hv:=BT (T:=T) hR ox
 rw[hx] at hv
 simp only[rv,rp] at hv
 obtain⟨cs,⟨hs,hp,a',cap,rfl,g1,g2,g3,g4⟩,e1⟩:=hv
 simp only[DD.mk,List.headD_cons] at e1
 have hd:=(c.ok T ti ht).kd
 rw[hk] at hd
 obtain⟨-, -,hu,j,hj,hjs⟩:=hd
 refine⟨.slice (if cap=l then a' else a'.map (·.add (l*s.w))) (h - l) (cap - l),?_,?_⟩
 ·unfold execOp
  have hb:=Jr (c:=c) hR true es.length cap lo hi l h kl hl hh olo ohi h1 (Nat.le_trans h2 g1)
  simp[ho,e1,Go.Instr.sliceAt,run_underlying hu,Go.Instr.slice,hb,sizeOf,typeInfo,hj,hjs]
 ·have hc:cls mv o=[]:=by unfold cls;rw[ho]
  have hval:val c mv o S=.d (.sl false s ((es.take h).drop l)):=by
   rw[Fp T x lo hi ho,hx,hl]
   rcases hh with ⟨hh,rfl⟩|⟨kh,hh⟩
   ·rw[hh];simp
   ·rw[hh];simp
  rw[hval,hc]
  simp only[rv,rp,List.flatMap_nil]
  have hlen:((es.take h).drop l).length=h - l:=by simp;omega
  refine⟨_,⟨fun q hq=>hs q (List.mem_of_mem_take (List.mem_of_mem_drop hq)),hp,(if cap=l then a' else a'.map (·.add (l*s.w))),cap - l,rfl,by rw[hlen];omega,by omega,?_,?_⟩,by simp only[DD.mk,List.headD_cons,hlen]⟩
  ·intro q
   have:a'=none∨cap=l:=by
    split at q
    ·exact .inr ‹_›
    ·cases a' with
     |none=>exact .inl rfl
     |some z=>simp at q
   rcases this with q|q
   ·have:=g3 q;omega
   ·omega
  ·by_cases hlh:l=h
   ·left
    have hz:((es.take h).drop l).length=0:=by rw[hlen];omega
    exact⟨trivial,List.length_eq_zero_iff.1 hz,by simp⟩
   ·have hne:¬cap=l:=by omega
    rw[if_neg hne]
    rcases g4 with ⟨-,g4, -⟩|⟨b,off,r,rfl,he,hf,h5⟩
    ·rw[g4] at h2;simp at h2;omega
    ·have hr:r=[]:=by
      rcases h5 with ⟨-, -,h5⟩|⟨-,h5, -⟩
      ·exact h5
      ·simp at h5
     subst hr
     right
     refine⟨b,off+l*s.w,[],by simp[Addr.add_lit],rpE.drop l _ off (fun q hq=>hs q (List.mem_of_mem_take hq)) (rpE.take h es off he) (by simp;omega),?_,.inl ⟨trivial,trivial,rfl⟩⟩
     rw[hlen]
     have:l*s.w+(h - l)*s.w≤es.length*s.w:=by rw[←Nat.add_mul];exact Nat.mul_le_mul_right _ (by omega)
     omega
end
theorem Lf {w:World} {F:Nat→Nat} {g:Nat} {cur arr:Array Value} {t:TypeId} {n:Nat} (hg:w.heap[g]? =some (.cells cur t (0,0))) (hn:F g≤n) (hc:∀o,o<F g→arr[o]? =cur[o]?):
  Ks w F (w.setRow g arr) (upd F g n) (fun b=>b=g) where
 os:=rfl
 tape:=rfl
 output:=rfl
 size:=by simp
 cell:=fun b o ho=>by
  by_cases hb:b=g
  ·subst hb
   rw[cell_of_row (w.setRow b arr) b o arr t (0,0) (setRow_heap w b cur arr t (0,0) hg),cell_of_row w b o cur t (0,0) hg]
   exact hc o ho
  ·exact World.cell?_of_block (w:=w) (a:=⟨b,o,none⟩) (setRow_other w g b arr hb)
 mono:=fun b=>by
  by_cases hb:b=g
  ·subst hb;rw[Au];exact hn
  ·rw[BC _ _ hb];exact Nat.le_refl _
 out:=fun b _ hne=>⟨setRow_other w g b arr hne,BC _ _ hne⟩
theorem Ff {w:World} {F:Nat→Nat} {o:Obj} {n:Nat} (E:Nat→Prop) (ht:∀b,w.heap.size≤b→F b=0):Ks w F (w.alloc o) (upd F w.heap.size n) E where
 os:=rfl
 tape:=rfl
 output:=rfl
 size:=by simp
 cell:=fun b q hq=>by
  have hb:b<w.heap.size:=by
   rcases Nat.lt_or_ge b w.heap.size with h|h
   ·exact h
   ·rw[ht b h] at hq;omega
  exact World.cell?_of_block (w:=w) (a:=⟨b,q,none⟩) (Below.heap_alloc w o b hb)
 mono:=fun b=>by
  by_cases hb:b=w.heap.size
  ·subst hb;rw[ht _ (Nat.le_refl _)];omega
  ·rw[BC _ _ hb];exact Nat.le_refl _
 out:=fun b hb _=>⟨Below.heap_alloc w o b hb,BC _ _ (by omega)⟩
theorem Ks.drew {w w':World} {F F':Nat→Nat} {E:Nat→Prop} (h:Ks w.drew F w' F' E):Ks w F w' F' E:=⟨h.os,h.tape,h.output,h.size,h.cell,h.mono,h.out⟩
theorem GY {w:World} {F:Nat→Nat} {o:Obj} {n:Nat} (ht:∀b,w.heap.size≤b→F b=0):∀b,(w.alloc o).heap.size≤b→upd F w.heap.size n b=0:=fun b hb=>by
 have hb':w.heap.size+1≤b:=by simpa using hb
 rw[BC _ _ (by omega)];exact ht b (by omega)
theorem Ks.kp {w w':World} {F F':Nat→Nat} {E:Nat→Prop} (h:Ks w F w' F' E) {bs:List Nat} (hl:∀b∈bs,b<w.heap.size) (hn:∀b∈bs,¬E b):Kp w F w' F' bs:=⟨h.cell,h.mono,fun b hb=>h.out b (hl b hb) (hn b hb)⟩
theorem Q9 {w:World} {F:Nat→Nat} {s:Sh} {es:List DD} {xs:List Value} {r:List Nat} {cap:Nat} {e:TypeId} {arr:Array Value} (hs:∀d∈es,d.sh=s) (h0:0<s.w) (h:rpS w F es xs r) (hr:∀b∈r,b<w.heap.size) (ht:∀b,w.heap.size≤b→F b=0)
  (hx:arr.toList.take xs.length=xs) (hc:es.length≤cap) (hm:cap≤maxLen) (hz:cap*s.w≤arr.size):
  rp (w.alloc (.cells arr e)) (upd F w.heap.size (es.length*s.w)) (.sl true s es) [.slice (some ⟨w.heap.size,0,none⟩) es.length cap] (w.heap.size::r):=by
 have k:=(Ff (o:=.cells arr e) (n:=es.length*s.w) (fun _=>False) ht).kp hr (by simp)
 have hxl:=rpS.length es xs r h
 rw[DD.shs_eq,Sh.ws_map es hs] at hxl
 have hat:(w.alloc (.cells arr e)).heap[w.heap.size]? =some (.cells arr e (0,0)):=Jy rfl
 simp only[rp]
 refine⟨hs,h0,_,cap,rfl,hc,hm,by simp,.inr ⟨w.heap.size,0,r,rfl,rpS.toE es xs 0 r (rpS.keep es xs r h k) ?_,by rw[Au];omega,.inr ⟨trivial,rfl,rfl,Au _ _ _,arr,e,hat,hz⟩⟩⟩
 intro j u hu
 have hj:=(List.getElem?_eq_some_iff.1 hu).1
 rw[cell_of_row _ _ _ _ e (0,0) hat]
 have hu2:(arr.toList.take xs.length)[j]? =some u:=by rw[hx];exact hu
 rw[List.getElem?_take_of_lt hj] at hu2
 simpa using hu2
section
variable {P:Program} (w:World)
theorem HY (t ty e t0:TypeId) (i:TypeInfo) (ht:P.underlying t=some (.slice e)) (hi:P.info? e=some i)
  (g sLen sCap:Nat) (cur:Array Value) (hg:w.heap[g]? =some (.cells cur t0 (0,0)))
  (a:Addr) (m c:Nat) (news:List Value) (hl:news.length=m*i.size) (hnews:∀j u,news[j]? =some u→w.cell? (a.add j)=some u) (h1:∀u∈news,u.oneCell'=true)
  (hroom:sLen+m≤sCap) (hfit:sLen*i.size+news.length≤cur.size):
  (Builtin.append_ #[t,t] ty #[.slice (some ⟨g,0,none⟩) sLen sCap,.slice (some a) m c]).run P w=
   .ok (.slice (some ⟨g,0,none⟩) (sLen+m) sCap) (w.setRow g (cur.toList.take (sLen*i.size)++news++cur.toList.drop (sLen*i.size+news.length)).toArray):=by
 have hf:=run_firstCells_some (P:=P) w i.size m a m c news hl hnews
 have hst:=run_storeCells_at P g (sLen*i.size) t0 news 0 cur w hg (by simpa using hfit) h1
 simp only[Nat.add_zero] at hst
 simp[Builtin.append_,run_underlying ht,sizeOf,typeInfo,hi,Builtin.lenOf,hroom,hf,Addr.add_lit,hst]
theorem IB (t ty e:TypeId) (i:TypeInfo) (ht:P.underlying t=some (.slice e)) (hi:P.info? e=some i) (a a2:Option Addr) (n cap c:Nat) (hn:n≤cap):
  (Builtin.append_ #[t,t] ty #[.slice a n cap,.slice a2 0 c]).run P w=.ok (.slice a n cap) w:=by
 cases a<;>cases a2<;>simp[Builtin.append_,run_underlying ht,sizeOf,typeInfo,hi,Builtin.lenOf,hn,Builtin.firstCells,loadCells,loadCellsFrom,storeCells]
end
theorem Kw {P:Program} {w:World} {F:Nat→Nat} (T ty e:TypeId) (ii:TypeInfo) {s:Sh} (z:DD) (zc:List Value) (hu:P.underlying T=some (.slice e)) (hi:P.info? e=some ii) (his:ii.size=s.w) (hiz:ii.zero=some (z.mk zc)) (hz:∀w F,rp w F z zc []) (hzs:z.sh=s)
  {es ys:List DD} {ox:Bool} {vs vx:Value} {b1 b2:List Nat} (hS:rp w F (.sl true s es) [vs] b1) (hX:rp w F (.sl ox s ys) [vx] b2) (hn:(b1++b2).Nodup) (hl:∀b∈b1++b2,b<w.heap.size) (ht:∀b,w.heap.size≤b→F b=0)
  (hm:es.length+ys.length≤maxLen) (hby:(es.length+ys.length)*ii.bytes≤140737488355328):
  ∃v' w' F' bs,(Builtin.append_ #[T,T] ty #[vs,vx]).run P w=.ok v' w'∧rp w' F' (.sl true s (es++ys)) [v'] bs∧Ks w F w' F' (fun b=>b∈b1)∧bs.Nodup∧(∀b∈bs,b∈b1++b2∨w.heap.size≤b)∧(∀b∈bs,b<w'.heap.size)∧
   (∀b,w'.heap.size≤b→F' b=0)∧∀x∈bs.head?,x∈b1.head? ∨w.heap.size≤x:=by
 have hS0:=hS
 simp only[rp] at hS hX
 obtain⟨hs,h0,a,cap,hv,g1,g2,g3,g4⟩:=hS
 obtain⟨hy, -,a2,c2,hv2,k1,k2,k3,k4⟩:=hX
 simp only[List.cons.injEq,and_true] at hv hv2
 subst hv
 subst hv2
 have hsy:∀d∈es++ys,d.sh=s:=fun d hd=>by
  rcases List.mem_append.1 hd with hd|hd
  ·exact hs d hd
  ·exact hy d hd
 by_cases hy0:ys=[]
 ·subst hy0
  refine⟨_,w,F,b1,IB (P:=P) w T ty e ii hu hi a a2 es.length cap c2 g1,by rw[List.append_nil];exact hS0,Ks.refl _ _ _,(List.nodup_append.1 hn).1,fun b hb=> .inl (by simp[hb]),fun b hb=>hl b (by simp[hb]),ht,fun x hx=> .inl hx⟩
 -- the new elements
 obtain⟨b',off2,q,rfl,hE2,hf2,hq⟩:∃b off r,a2=some ⟨b,off,none⟩∧rpE w F ys b off r∧off+ys.length*s.w≤F b∧(∀x∈r,x∈b2)∧r.Nodup:=by
  rcases k4 with ⟨-,h, -⟩|⟨b,off,r,h1,h2,h3,h4⟩
  ·exact absurd h hy0
  ·refine⟨b,off,r,h1,h2,h3,?_⟩
   have hn2:=(List.nodup_append.1 hn).2.1
   rcases h4 with ⟨-, -,h4⟩|⟨-,h4, -⟩
   ·subst h4;exact⟨by simp,List.nodup_nil⟩
   ·subst h4;exact⟨fun x hx=>by simp[hx],(List.nodup_cons.1 hn2).2⟩
 obtain⟨news,hc2,hS2⟩:=rpE.toS ys off2 q hE2
 have hnl:=rpS.length ys news q hS2
 rw[DD.shs_eq,Sh.ws_map ys hy] at hnl
 have hn1:news.length=ys.length*ii.size:=by rw[hnl,his]
 have hnews:∀j u,news[j]? =some u→w.cell? ((⟨b',off2,none⟩:Addr).add j)=some u:=fun j u hu=>by rw[Addr.add_lit];exact hc2 j u hu
 have hone:=rpS.one ys news q hS2
 have hyp:0<ys.length:=List.length_pos_iff.2 hy0
 have hm':es.length+ys.length≤9223372036854775807:=by simpa[maxLen] using hm
 have hzsz:(z.mk zc).cells.size=s.w:=by rw[EA (hz w F)];simp[rp.length z zc [] (hz w F),hzs]
 have grown:∀(olds:List Value) (r:List Nat) (old:Nat),rpS w F es olds r→old<es.length+ys.length→(∀x∈r,x∈b1)→r.Nodup→
   ∃bs,rp (w.drew.alloc (.cells (olds.toArray++news.toArray++Builtin.zeroCells (z.mk zc).cells (grownCap w (es.length+ys.length) old e - (es.length+ys.length))) e)) (upd F w.heap.size ((es++ys).length*s.w)) (.sl true s (es++ys))
    [.slice (some ⟨w.heap.size,0,none⟩) (es.length+ys.length) (grownCap w (es.length+ys.length) old e)] bs∧bs.Nodup∧(∀b∈bs,b∈b1++b2∨w.heap.size≤b)∧(∀b∈bs,b<w.heap.size+1)∧∀x∈bs.head?,w.heap.size≤x:=by
  intro olds r old hO ho hr hrn
  have hge:=grownCap_ge w (es.length+ys.length) old e
  have hcm:grownCap w (es.length+ys.length) old e≤maxLen:=grownCap_le_maxLen w (es.length+ys.length) old e hm
  have hol:=rpS.length es olds r hO
  rw[DD.shs_eq,Sh.ws_map es hs] at hol
  have hrq:∀b∈r++q,b∈b1++b2:=fun b hb=>by
   rcases List.mem_append.1 hb with hb|hb
   ·simp[hr b hb]
   ·simp[hq.1 b hb]
  have:=Q9 (w:=w.drew) (F:=F) (s:=s) (es:=es++ys) (xs:=olds++news) (r:=r++q) (cap:=grownCap w (es.length+ys.length) old e) (e:=e)
   (arr:=olds.toArray++news.toArray++Builtin.zeroCells (z.mk zc).cells (grownCap w (es.length+ys.length) old e - (es.length+ys.length))) hsy h0 (rpS.keep _ _ _ (rpS.append es olds r ys news q hO hS2) ⟨fun _ _ _=>rfl,fun _=>Nat.le_refl _,fun _ _=>⟨rfl,rfl⟩⟩) (fun b hb=>hl b (hrq b hb)) ht
   (by rw [Array.toList_append, Array.toList_append]; exact List.take_left) (by simpa using hge) hcm (by
    simp only[Array.size_append,List.size_toArray,size_zeroCells,hzsz,hol,hnl, ←Nat.add_mul]
    exact Nat.mul_le_mul_right _ (by omega))
  rw[List.length_append] at this ⊢
  refine⟨_,this,?_,?_,?_,?_⟩
  ·refine List.nodup_cons.2 ⟨fun hb=> ?_,?_⟩
   ·have:=hl _ (hrq _ hb);simp at this
   ·refine List.nodup_append.2 ⟨hrn,hq.2,fun x hx y hy e=> ?_⟩
    subst e
    exact(List.nodup_append.1 hn).2.2 x (hr x hx) x (hq.1 x hy) rfl
  ·intro b hb
   rcases List.mem_cons.1 hb with rfl|hb
   ·exact .inr (Nat.le_refl _)
   ·exact .inl (hrq b hb)
  ·intro b hb
   rcases List.mem_cons.1 hb with rfl|hb
   ·simp
   ·have:=hl b (hrq b hb);omega
  ·intro x hx
   simp at hx;omega
 by_cases hroom:es.length+ys.length≤cap
 ·-- it fits
  rcases g4 with ⟨-,rfl,h⟩|⟨b,off,r,rfl,he,hf,h⟩
  ·have:=h trivial
   simp only[List.length_nil] at hroom
   omega
  ·rcases h with ⟨h, -⟩|⟨-,rfl,rfl,hF,cur,t0,hg,hcz⟩
   ·cases h
   ·obtain⟨olds,hco,hO⟩:=rpE.toS es 0 r he
    have hol:=rpS.length es olds r hO
    rw[DD.shs_eq,Sh.ws_map es hs] at hol
    have hsum:es.length*s.w+ys.length*s.w≤cap*s.w:=by rw[←Nat.add_mul];exact Nat.mul_le_mul_right _ hroom
    have hrun:=HY (P:=P) w T ty e t0 ii hu hi b es.length cap cur hg ⟨b',off2,none⟩ ys.length c2 news hn1 hnews hone hroom (by rw[hn1,his];omega)
    rw[his] at hrun
    have hbn:b∉r:=(List.nodup_cons.1 (List.nodup_append.1 hn).1).1
    have hks:Ks w F (w.setRow b (cur.toList.take (es.length*s.w)++news++cur.toList.drop (es.length*s.w+news.length)).toArray) (upd F b ((es++ys).length*s.w)) (fun x=>x=b):=by
     refine Lf hg (by rw[hF,List.length_append,Nat.add_mul];omega) (fun o ho=> ?_)
     rw[hF] at ho
     have hlt:o<cur.size:=by omega
     simp only[List.getElem?_toArray,List.append_assoc]
     rw[List.getElem?_append_left (by simp;omega),List.getElem?_take_of_lt ho]
     simp
    have hrl:∀x∈r,x<w.heap.size:=fun x hx=>hl x (by simp[hx])
    have hql:∀x∈q,x<w.heap.size:=fun x hx=>hl x (by simp[hq.1 x hx])
    have hqb:∀x∈q,¬x=b:=fun x hx e=>(List.nodup_append.1 hn).2.2 b (by simp) x (hq.1 x hx) e.symm
    have hat:=setRow_heap w b cur (cur.toList.take (es.length*s.w)++news++cur.toList.drop (es.length*s.w+news.length)).toArray t0 (0,0) hg
    refine⟨_,_,upd F b ((es++ys).length*s.w),b::(r++q),hrun,?_,⟨hks.os,hks.tape,hks.output,hks.size,hks.cell,hks.mono,fun x hx hne=>hks.out x hx (fun e=>hne (by simp[e]))⟩,?_,?_,?_,?_,?_⟩
    ·simp only[rp]
     refine⟨hsy,h0,_,cap,by rw[List.length_append],by rw[List.length_append];exact hroom,g2,by simp,.inr ⟨b,0,r++q,rfl,?_,by rw[Au];omega,.inr ⟨trivial,rfl,rfl,Au _ _ _,_,t0,hat,?_⟩⟩⟩
     ·refine rpS.toE (es++ys) (olds++news) 0 (r++q) (rpS.append es olds r ys news q (rpS.keep es olds r hO (hks.kp hrl (fun x hx e=>hbn (e ▸ hx)))) (rpS.keep ys news q hS2 (hks.kp hql hqb))) ?_
      intro j u hu
      rw[cell_of_row _ _ _ _ t0 (0,0) hat,Nat.zero_add]
      simp only[List.getElem?_toArray]
      by_cases hj:j<olds.length
      ·rw[List.getElem?_append_left hj] at hu
       have:=hco j u hu
       rw[cell_of_row w _ _ _ t0 (0,0) hg,Nat.zero_add] at this
       rw[List.append_assoc,List.getElem?_append_left (by simp;omega),List.getElem?_take_of_lt (by omega)]
       simpa using this
      ·have hj2:=(List.getElem?_eq_some_iff.1 hu).1
       rw[List.length_append] at hj2
       rw[List.getElem?_append_right (by omega)] at hu
       have htl:(cur.toList.take (es.length*s.w)).length=es.length*s.w:=by simp;omega
       rw[List.append_assoc,List.getElem?_append_right (by omega),List.getElem?_append_left (by omega),htl, ←hol]
       exact hu
     ·simp only[List.size_toArray,List.length_append,List.length_take,List.length_drop,Array.length_toList]
      omega
    ·refine List.nodup_cons.2 ⟨fun hb=> ?_,?_⟩
     ·rcases List.mem_append.1 hb with hb|hb
      ·exact hbn hb
      ·exact hqb b hb rfl
     ·have hn3:=(List.nodup_cons.1 (List.nodup_append.1 hn).1).2
      refine List.nodup_append.2 ⟨hn3,hq.2,fun x hx y hy e=> ?_⟩
      subst e
      exact(List.nodup_append.1 hn).2.2 x (by simp[hx]) x (hq.1 x hy) rfl
    ·intro x hx
     left
     rcases List.mem_cons.1 hx with rfl|hx
     ·simp
     ·rcases List.mem_append.1 hx with hx|hx
      ·simp[hx]
      ·simp[hq.1 x hx]
    ·intro x hx
     rw[size_setRow]
     rcases List.mem_cons.1 hx with rfl|hx
     ·exact hl _ (by simp)
     ·rcases List.mem_append.1 hx with hx|hx
      ·exact hrl x hx
      ·exact hql x hx
    ·intro x hx
     rw[size_setRow] at hx
     have:x≠b:=fun e=>by have:=hl b (by simp);omega
     rw[BC _ _ this]
     exact ht x hx
    ·exact fun x hx=> .inl hx
 ·-- it grows
  have hfits:∀old,old<es.length+ys.length→Builtin.nextslicecap (es.length+ys.length) old*ii.bytes≤281474976710656:=fun old h=>growslice_fits h hby
  cases a with
  |none=>
   have hc:=g3 rfl
   have he0:es=[]:=List.length_eq_zero_iff.1 (by omega)
   subst he0
   subst hc
   simp only[List.length_nil,Nat.zero_add] at hm' hby grown ⊢
   have hrun:=run_append_nil (P:=P) w T ty e ii (z.mk zc) hu hi hiz ⟨b',off2,none⟩ ys.length c2 news hn1 hnews hyp (by omega) (by omega)
   obtain⟨bs,m1,m2,m3,m4,m5⟩:=grown [] [] 0 (by simp[rpS]) hyp (by simp) List.nodup_nil
   refine⟨_,_,_,bs,hrun,by simpa using m1,(Ks.drew (Ff (w:=w.drew) _ ht)),m2,m3,fun b hb=>by simpa using m4 b hb,GY (w:=w.drew) ht,fun x hx=> .inr (m5 x hx)⟩
  |some ad=>
   rcases g4 with ⟨rfl,rfl, -⟩|⟨b,off,r,ha,he,hf,h⟩
   ·have hrun:=run_append_grow (P:=P) w T ty e ii (z.mk zc) hu hi hiz ad 0 cap [] (by simp) (by simp) ⟨b',off2,none⟩ ys.length c2 news hn1 hnews (by simp at hroom;omega) (by simp at hm';omega) (hfits cap (by omega))
    obtain⟨bs,m1,m2,m3,m4,m5⟩:=grown [] [] cap (by simp[rpS]) (by omega) (by simp) List.nodup_nil
    refine⟨_,_,_,bs,hrun,m1,(Ks.drew (Ff (w:=w.drew) _ ht)),m2,m3,fun b hb=>by simpa using m4 b hb,GY (w:=w.drew) ht,fun x hx=> .inr (m5 x hx)⟩
   ·simp only[Option.some.injEq] at ha
    subst ha
    obtain⟨olds,hco,hO⟩:=rpE.toS es off r he
    have hol:=rpS.length es olds r hO
    rw[DD.shs_eq,Sh.ws_map es hs] at hol
    have hr:(∀x∈r,x∈b1)∧r.Nodup:=by
     have hn1:=(List.nodup_append.1 hn).1
     rcases h with ⟨-, -,h⟩|⟨-,h, -⟩
     ·subst h;exact⟨by simp,List.nodup_nil⟩
     ·subst h;exact⟨fun x hx=>by simp[hx],(List.nodup_cons.1 hn1).2⟩
    have hrun:=run_append_grow (P:=P) w T ty e ii (z.mk zc) hu hi hiz ⟨b,off,none⟩ es.length cap olds (by rw[hol,his]) (fun j u hu=>by rw[Addr.add_lit];exact hco j u hu) ⟨b',off2,none⟩ ys.length c2 news hn1 hnews (by omega) (by omega) (hfits cap (by omega))
    obtain⟨bs,m1,m2,m3,m4,m5⟩:=grown olds r cap hO (by omega) hr.1 hr.2
    refine⟨_,_,_,bs,hrun,m1,(Ks.drew (Ff (w:=w.drew) _ ht)),m2,m3,fun b hb=>by simpa using m4 b hb,GY (w:=w.drew) ht,fun x hx=> .inr (m5 x hx)⟩
def Iq (Θ:Ty) (k:Nat) (x:Nat×Sh):Ty:=fun lv q=>if lv=0∧q=k then some x else Θ lv q
theorem JL {w:World} {F:Nat→Nat} {g:Nat} {cur arr:Array Value} {t:TypeId} (hg:w.heap[g]? =some (.cells cur t (0,0))) (hn:F g=0):Ks w F (w.setRow g arr) F (fun b=>b=g):=by
 have h:=Lf (F:=F) (n:=0) (arr:=arr) hg (by omega) (fun o ho=>by omega)
 have e:upd F g 0=F:=by
  funext b
  by_cases hb:b=g
  ·subst hb;rw[Au,hn]
  ·rw[BC _ _ hb]
 rwa [e] at h
theorem V4 {w:World} {F:Nat→Nat} {o:Obj} (E:Nat→Prop) (ht:∀b,w.heap.size≤b→F b=0):Ks w F (w.alloc o) F E:=by
 have h:=Ff (F:=F) (o:=o) (n:=0) E ht
 have e:upd F w.heap.size 0=F:=by
  funext b
  by_cases hb:b=w.heap.size
  ·subst hb;rw[Au,ht _ (Nat.le_refl _)]
  ·rw[BC _ _ hb]
 rwa [e] at h
theorem Rel.alloc {w:World} {F:Nat→Nat} {Θ:Ty} {own:Who→List Nat} {S:St} {a:Act} (h:Rel w F Θ own S a) (k:Nat) (hk:k<S.n) (hkn:hpg S.hp 0 k=none) (hne:0<S.hp.length) (ts:List Nat)
  (cn:AV) (cs:List Value) (bs:List Nat) (s:Sh) (T:TypeId) (hcs:cn.csh=some s) (hrc:rc w F Θ cn cs bs) (hn:bs.Nodup) (hb:∀b∈bs,∃t∈ts,b∈own (.t t)) (r:AV) (v:Value)
  (hr:rv (w.alloc (.cells cs.toArray T)) F (Iq Θ k (w.heap.size,s)) r v []):
  ∃own',Rel (w.alloc (.cells cs.toArray T)) F (Iq Θ k (w.heap.size,s)) own' ⟨S.n,upd (BB S.tm ts) k r,hps S.hp 0 k (some cn)⟩ (a.put (some k) v)∧Stp w F Θ own (w.alloc (.cells cs.toArray T)) F (Iq Θ k (w.heap.size,s)) own':=by
 have hks:Ks w F (w.alloc (.cells cs.toArray T)) F (fun _=>False):=V4 _ h.top
 have kp:∀bs:List Nat,(∀b∈bs,b<w.heap.size)→Kp w F (w.alloc (.cells cs.toArray T)) F bs:=fun bs hl=>hks.kp hl (by simp)
 have hT:∀lv q (x:Nat×Sh),Θ lv q=some x→Iq Θ k (w.heap.size,s) lv q=some x:=fun lv q x hx=>by
  unfold Iq
  rw[if_neg];exact hx
  rintro ⟨rfl,rfl⟩
  rw[(h.hn 0 q hkn).1] at hx;cases hx
 have hbl:∀b∈bs,b<w.heap.size:=fun b hq=>by obtain⟨t,_,q⟩:=hb b hq;exact h.lt _ b q
 let own':Who→List Nat:=fun x=>if x=.h 0 k then bs else if x=.l 0 k then [w.heap.size] else if x=.t k then [] else if (∃t∈ts,x=.t t) then [] else own x
 have o1:own' (.h 0 k)=bs:=if_pos rfl
 have o2:own' (.l 0 k)=[w.heap.size]:=by show(if _ then _ else if _ then _ else _)=_;rw[if_neg (by simp),if_pos rfl]
 have o3:own' (.t k)=[]:=by show(if _ then _ else if _ then _ else if _ then _ else _)=_;rw[if_neg (by simp),if_neg (by simp),if_pos rfl]
 have o4:∀t,t≠k→t∈ts→own' (.t t)=[]:=fun t ht hm=>by
  show(if _ then _ else if _ then _ else if _ then _ else if _ then _ else _)=_
  rw[if_neg (by simp),if_neg (by simp),if_neg (by simpa using ht),if_pos ⟨t,hm,rfl⟩]
 have o5:∀t,t≠k→t∉ts→own' (.t t)=own (.t t):=fun t ht hm=>by
  show(if _ then _ else if _ then _ else if _ then _ else if _ then _ else _)=_
  rw[if_neg (by simp),if_neg (by simp),if_neg (by simpa using ht),if_neg (by rintro ⟨q,hq,e⟩;cases e;exact hm hq)]
 have o6:∀lv q,¬(lv=0∧q=k)→own' (.h lv q)=own (.h lv q)∧own' (.l lv q)=own (.l lv q):=fun lv q hq=>by
  refine⟨?_,?_⟩<;>
  ·show(if _ then _ else if _ then _ else if _ then _ else if _ then _ else _)=_
   rw[if_neg (by first|(simp;done)|simpa using hq),if_neg (by first|(simp;done)|simpa using hq),if_neg (by simp),if_neg (by rintro ⟨q,hq,e⟩;cases e)]
 have o7:∀x b,b∈own' x→(b∈bs∧x=.h 0 k)∨(b=w.heap.size∧x=.l 0 k)∨(b∈own x∧∀t∈ts,x≠ .t t):=fun x b hx=>by
  have hx':b∈(if x=.h 0 k then bs else if x=.l 0 k then [w.heap.size] else if x=.t k then [] else if (∃t∈ts,x=.t t) then [] else own x):=hx
  split at hx'
  ·exact .inl ⟨hx', ‹_›⟩
  ·split at hx'
   ·exact .inr (.inl ⟨by simpa using hx', ‹_›⟩)
   ·split at hx'
    ·simp at hx'
    ·split at hx'
     ·simp at hx'
     ·rename_i hq;exact .inr (.inr ⟨hx',fun t ht e=>hq ⟨t,ht,e⟩⟩)
 have hga:=CH S.hp 0 k (some cn)
 refine⟨own',⟨?_,?_,?_,?_,?_,?_,?_,?_,?_,h.gl.ks hks⟩,?_,?_,?_⟩
 ·rw[Gg,h.n]
 ·rw[F9,h.df]
 ·intro t
  rw[EC a k t v (by rw[h.n];exact hk)]
  show rv _ _ _ (upd (BB S.tm ts) k r t) _ _
  by_cases ht:t=k
  ·subst ht
   rw[Au,if_pos rfl,o3];exact hr
  ·rw[BC _ _ ht,if_neg ht,DP]
   by_cases hm:t∈ts
   ·rw[if_pos hm,o4 t ht hm]
    exact rv.keep hT _ _ _ (rv.view _ _ _ (h.tm t)) (kp _ (by simp))
   ·rw[if_neg hm,o5 t ht hm]
    exact rv.keep hT _ _ _ (h.tm t) (kp _ (h.lt _))
 ·intro lv q hq
  rw[hga] at hq
  split at hq
  ·cases hq
  ·rename_i hne2
   have hne3:¬(lv=0∧q=k):=fun ⟨e1,e2⟩=>hne2 ⟨e1,e2,hne⟩
   have:=h.hn lv q hq
   rw[(o6 lv q hne3).1,(o6 lv q hne3).2]
   refine⟨?_,this.2⟩
   unfold Iq;rw[if_neg hne3];exact this.1
 ·intro lv q c hq
  rw[hga] at hq
  split at hq
  ·rename_i he
   obtain⟨rfl,rfl, -⟩:=he
   cases hq
   refine⟨w.heap.size,s,cs.toArray,T,?_,o2,h.top _ (Nat.le_refl _),hcs,Jy rfl,?_⟩
   ·unfold Iq;rw[if_pos ⟨rfl,rfl⟩]
   ·rw[o1]
    exact rc.keep hT cn cs bs hrc (kp bs hbl)
  ·rename_i hne2
   have hne3:¬(lv=0∧q=k):=fun ⟨e1,e2⟩=>hne2 ⟨e1,e2,hne⟩
   obtain⟨b,s',cur,t,h1,h2,h3,h4,h5,h6⟩:=h.hs lv q c hq
   rw[(o6 lv q hne3).1,(o6 lv q hne3).2]
   refine⟨b,s',cur,t,hT _ _ _ h1,h2,h3,h4,?_,rc.keep hT c _ _ h6 (kp _ (h.lt _))⟩
   exact((kp [b] (by intro x hx;simp at hx;subst hx;exact h.lt (.l lv q) _ (by rw[h2];simp))).own b (by simp)).1.trans h5
 ·intro x
  show(if _ then _ else if _ then _ else if _ then _ else if _ then _ else _:List Nat).Nodup
  split
  ·exact hn
  ·split
   ·simp
   ·split
    ·simp
    ·split
     ·simp
     ·exact h.nd x
 ·intro x y hxy b hbx hby
  have hlt:∀x,b∈own x→b<w.heap.size:=fun x q=>h.lt x b q
  rcases o7 x b hbx with ⟨h1,rfl⟩|⟨h1,rfl⟩|⟨h1,h2⟩<;>rcases o7 y b hby with ⟨g1,rfl⟩|⟨g1,rfl⟩|⟨g1,g2⟩
  ·exact hxy rfl
  ·have:=hbl b h1;omega
  ·obtain⟨t,ht,q⟩:=hb b h1;exact h.dj y (.t t) (g2 t ht) b g1 q
  ·have:=hbl b g1;omega
  ·exact hxy rfl
  ·have:=hlt _ g1;omega
  ·obtain⟨t,ht,q⟩:=hb b g1;exact h.dj x (.t t) (h2 t ht) b h1 q
  ·have:=hlt _ h1;omega
  ·exact h.dj x y hxy b h1 g1
 ·intro x b hbx
  have hs1:(w.alloc (.cells cs.toArray T)).heap.size=w.heap.size+1:=by simp
  rw[hs1]
  rcases o7 x b hbx with ⟨h1, -⟩|⟨h1, -⟩|⟨h1, -⟩
  ·have:=hbl b h1;omega
  ·omega
  ·have:=h.lt x b h1;omega
 ·intro b hb2
  have hb3:w.heap.size+1≤b:=by simpa using hb2
  exact h.top b (by omega)
 ·exact⟨hks.os,hks.tape,hks.output,hks.size,hks.cell,hks.mono,fun b hb _=>hks.out b hb (by simp)⟩
 ·intro x b hbx
  rcases o7 x b hbx with ⟨h1, -⟩|⟨h1, -⟩|⟨h1, -⟩
  ·obtain⟨t,_,q⟩:=hb b h1;exact .inl ⟨_,q⟩
  ·exact .inr (by omega)
  ·exact .inl ⟨_,h1⟩
 ·intro lv q
  unfold Iq;rw[if_neg (by simp)]
theorem Rel.set {w w':World} {F:Nat→Nat} {Θ:Ty} {own:Who→List Nat} {S:St} {a:Act} (h:Rel w F Θ own S a) (d:Option Nat) (hd:∀k,d=some k→k<S.n) (lv k:Nat) (cn cn':AV) (hc:hpg S.hp lv k=some cn) (ts:List Nat) (b:Nat) (s:Sh) (hΘ:Θ lv k=some (b,s))
  (cs':List Value) (T:TypeId) (bs bd:List Nat) (hcs:cn'.csh=some s) (hrc:rc w' F Θ cn' cs' bs) (hat:w'.heap[b]? =some (.cells cs'.toArray T (0,0))) (hks:Ks w F w' F (fun x=>x=b)) (hsz:w'.heap.size=w.heap.size)
  (r:AV) (v:Value) (hr:rv w' F Θ r v bd) (hn:(bs++bd).Nodup) (hb:∀x∈bs++bd,x∈own (.h lv k)∨∃t∈ts,x∈own (.t t)):
  ∃own',Rel w' F Θ own' ⟨S.n,B0 (BB S.tm ts) d r,hps S.hp lv k (some cn')⟩ (a.put d v)∧Stp w F Θ own w' F Θ own':=by
 obtain⟨b0,s0,cur,t0,z1,z2,z3,z4,z5,z6⟩:=h.hs lv k cn hc
 rw[hΘ] at z1
 cases z1
 have hT:∀lv q (x:Nat×Sh),Θ lv q=some x→Θ lv q=some x:=fun _ _ _ q=>q
 have hbo:∀x,x≠ .l lv k→b∉own x:=fun x hx hb=>h.dj (.l lv k) x (Ne.symm hx) b (by rw[z2];simp) hb
 have kp:∀x,x≠ .l lv k→Kp w F w' F (own x):=fun x hx=>hks.kp (h.lt x) (fun q hq e=>hbo x hx (e ▸ hq))
 have kp0:Kp w F w' F []:=hks.kp (by simp) (by simp)
 let own':Who→List Nat:=fun x=>if x=.h lv k then bs else if (∃k,d=some k∧x=.t k) then bd else if (∃t∈ts,x=.t t) then [] else own x
 have o1:own' (.h lv k)=bs:=if_pos rfl
 have o2:∀t,d=some t→own' (.t t)=bd:=fun t ht=>by
  show(if _ then _ else if _ then _ else _)=_
  rw[if_neg (by simp),if_pos ⟨t,ht,rfl⟩]
 have o3:∀t,d≠some t→t∈ts→own' (.t t)=[]:=fun t ht hm=>by
  show(if _ then _ else if _ then _ else if _ then _ else _)=_
  rw[if_neg (by simp),if_neg (by rintro ⟨q,hq,e⟩;cases e;exact ht hq),if_pos ⟨t,hm,rfl⟩]
 have o4:∀t,d≠some t→t∉ts→own' (.t t)=own (.t t):=fun t ht hm=>by
  show(if _ then _ else if _ then _ else if _ then _ else _)=_
  rw[if_neg (by simp),if_neg (by rintro ⟨q,hq,e⟩;cases e;exact ht hq),if_neg (by rintro ⟨q,hq,e⟩;cases e;exact hm hq)]
 have o5:∀l q,¬(l=lv∧q=k)→own' (.h l q)=own (.h l q):=fun l q hne=>by
  show(if _ then _ else if _ then _ else if _ then _ else _)=_
  rw[if_neg (by simpa using hne),if_neg (by rintro ⟨q,hq,e⟩;cases e),if_neg (by rintro ⟨q,hq,e⟩;cases e)]
 have o6:∀l q,own' (.l l q)=own (.l l q):=fun l q=>by
  show(if _ then _ else if _ then _ else if _ then _ else _)=_
  rw[if_neg (by simp),if_neg (by rintro ⟨q,hq,e⟩;cases e),if_neg (by rintro ⟨q,hq,e⟩;cases e)]
 have o7:∀x y,y∈own' x→(y∈bs∧x=.h lv k)∨(y∈bd∧∃k,d=some k∧x=.t k)∨(y∈own x∧x≠ .h lv k∧∀t∈ts,x≠ .t t):=fun x y hx=>by
  have hx':y∈(if x=.h lv k then bs else if (∃k,d=some k∧x=.t k) then bd else if (∃t∈ts,x=.t t) then [] else own x):=hx
  split at hx'
  ·exact .inl ⟨hx', ‹_›⟩
  ·split at hx'
   ·exact .inr (.inl ⟨hx', ‹_›⟩)
   ·split at hx'
    ·simp at hx'
    ·rename_i h1 _ hq;exact .inr (.inr ⟨hx',h1,fun t ht e=>hq ⟨t,ht,e⟩⟩)
 have hnb:=List.nodup_append.1 hn
 have src:∀y,y∈bs++bd→∀x,y∈own x→x≠ .h lv k→(∀t∈ts,x≠ .t t)→False:=fun y hy x hx h1 h2=>by
  rcases hb y hy with q|⟨t,ht,q⟩
  ·exact h.dj x (.h lv k) h1 y hx q
  ·exact h.dj x (.t t) (h2 t ht) y hx q
 have hga:=CH S.hp lv k (some cn')
 have hlv:=Lm S.hp lv k cn hc
 refine⟨own',⟨?_,?_,?_,?_,?_,?_,?_,?_,?_,h.gl.ks hks⟩,?_,?_,fun _ _=>rfl⟩
 ·rw[Gg,h.n]
 ·rw[F9,h.df]
 ·intro t
  show rv w' F Θ (B0 (BB S.tm ts) d r t) _ _
  by_cases hdt:d=some t
  ·subst hdt
   rw[EC a t t v (by rw[h.n];exact hd t rfl),if_pos rfl,o2 t rfl]
   simpa only[B0,Au] using hr
  ·have e1:B0 (BB S.tm ts) d r t=BB S.tm ts t:=by
    cases d with
    |none=>rfl
    |some q=>exact BC _ _ (fun e=>hdt (by rw[e]))
   have e2:(a.put d v).tmps.getD t undef=a.tmps.getD t undef:=by
    cases d with
    |none=>rfl
    |some q=>rw[EC a q t v (by rw[h.n];exact hd q rfl),if_neg (fun e=>hdt (by rw[e]))]
   rw[e1,e2,DP]
   by_cases hm:t∈ts
   ·rw[if_pos hm,o3 t hdt hm]
    exact rv.keep hT _ _ _ (rv.view _ _ _ (h.tm t)) kp0
   ·rw[if_neg hm,o4 t hdt hm]
    exact rv.keep hT _ _ _ (h.tm t) (kp _ (by simp))
 ·intro l q hq
  rw[hga] at hq
  split at hq
  ·cases hq
  ·rename_i hne2
   have hne3:¬(l=lv∧q=k):=fun ⟨e1,e2⟩=>hne2 ⟨e1,e2,hlv⟩
   rw[o5 l q hne3,o6]
   exact h.hn l q hq
 ·intro l q c hq
  rw[hga] at hq
  split at hq
  ·rename_i he
   obtain⟨rfl,rfl, -⟩:=he
   cases hq
   exact⟨b,s,cs'.toArray,T,hΘ,(o6 _ _).trans z2,z3,hcs,hat,by rw[o1];exact hrc⟩
  ·rename_i hne2
   have hne3:¬(l=lv∧q=k):=fun ⟨e1,e2⟩=>hne2 ⟨e1,e2,hlv⟩
   obtain⟨b',s',cur',t',h1,h2,h3,h4,h5,h6⟩:=h.hs l q c hq
   rw[o5 l q hne3,o6]
   have hlk:Who.l l q≠ .l lv k:=fun e=>by cases e;exact hne3 ⟨rfl,rfl⟩
   refine⟨b',s',cur',t',h1,h2,h3,h4,?_,rc.keep hT c _ _ h6 (kp _ (by simp))⟩
   exact((kp _ hlk).own b' (by rw[h2];simp)).1.trans h5
 ·intro x
  show(if _ then _ else if _ then _ else if _ then _ else _:List Nat).Nodup
  split
  ·exact hnb.1
  ·split
   ·exact hnb.2.1
   ·split
    ·simp
    ·exact h.nd x
 ·intro x y hxy z hzx hzy
  rcases o7 x z hzx with ⟨h1,rfl⟩|⟨h1,p,hp,rfl⟩|⟨h1,h2,h3⟩<;>rcases o7 y z hzy with ⟨g1,rfl⟩|⟨g1,p2,hp2,rfl⟩|⟨g1,g2,g3⟩
  ·exact hxy rfl
  ·exact hnb.2.2 z h1 z g1 rfl
  ·exact src z (by simp[h1]) y g1 g2 g3
  ·exact hnb.2.2 z g1 z h1 rfl
  ·rw[hp] at hp2;cases hp2;exact hxy rfl
  ·exact src z (by simp[h1]) y g1 g2 g3
  ·exact src z (by simp[g1]) x h1 h2 h3
  ·exact src z (by simp[g1]) x h1 h2 h3
  ·exact h.dj x y hxy z h1 g1
 ·intro x z hz
  rw[hsz]
  have all:∀z∈bs++bd,z<w.heap.size:=fun z hz=>by
   rcases hb z hz with q|⟨t,ht,q⟩
   ·exact h.lt _ z q
   ·exact h.lt _ z q
  rcases o7 x z hz with ⟨h1, -⟩|⟨h1, -⟩|⟨h1, -⟩
  ·exact all z (by simp[h1])
  ·exact all z (by simp[h1])
  ·exact h.lt x z h1
 ·intro x hx
  exact h.top x (by rw[hsz] at hx;exact hx)
 ·exact⟨hks.os,hks.tape,hks.output,hks.size,hks.cell,hks.mono,fun x hx hne=>hks.out x hx (fun e=>hne ⟨.l lv k,by rw[z2,e];simp⟩)⟩
 ·intro x z hz
  left
  rcases o7 x z hz with ⟨h1, -⟩|⟨h1, -⟩|⟨h1, -⟩
  ·rcases hb z (by simp[h1]) with q|⟨t,ht,q⟩
   ·exact⟨_,q⟩
   ·exact⟨_,q⟩
  ·rcases hb z (by simp[h1]) with q|⟨t,ht,q⟩
   ·exact⟨_,q⟩
   ·exact⟨_,q⟩
  ·exact⟨_,h1⟩
