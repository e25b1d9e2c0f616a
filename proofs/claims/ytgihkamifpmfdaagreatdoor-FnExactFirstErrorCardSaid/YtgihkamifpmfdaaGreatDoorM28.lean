/- Part 28. No condition. -/
import Derived.Test.YtgihkamifpmfdaaGreatDoorM20
import Derived.Test.YtgihkamifpmfdaaGreatDoorM25
namespace Go.Proofs.YtgihkamifpmfdaaGreatDoor
open Go.RowKit Tryz
set_option maxRecDepth 10000
set_option linter.unusedSimpArgs false
set_option maxHeartbeats 4000000
set_option linter.unusedVariables false
theorem VH (x:A8) (s:BA') (lv k:Nat) (h:HP) (hcap:hpg h lv k=some (dS' s)):CS cx.P 234 [.d ((x).dd false),.pt lv k []] h (dB' (decide (x.A5=s))) h:=by
 have hc2:=Dh hcap
 refine Ze func234 rfl 8 ?_
 apply Zr;intros
 iterate 2 (refine Zo ?_ (by simp[hc2]<;>omega);simp[hc2])
 exact Zx
 apply Zr;intros
 iterate 5 (refine Zo ?_ (by simp[hc2]<;>omega);simp[hc2])
 exact Zx
 refine W.ret (Zq ?_)
 simp[f234]
theorem fX (x:A1) (s:BA') (hz:x.sz≤134217728) (h:HP):CS cx.P 154 [.d ((x).dd false),dS' s] h (dI' (pIx x s)) h:=by
 have hz2:=x.sz_eq;unfold szs at hz2
 have hpi:CT x.A2 (fun q=>decide (q.A5=s))=pIx x s:=rfl
 refine Ze func154 rfl 9 ?_
 refine Zw ?_
 apply Zr;intros
 iterate 3 (refine Zo ?_;simp)
 refine Zl [] rfl func233 (G6 x.A2 (by omega) 234 f234 _ ⟨func234,rfl,rfl⟩ (fun q=>decide (q.A5=s)) 3 (.lf (.string s)) 0 (fun y hy lv h hc=>VH y s lv 3 h hc) _ (by simp)) ?_;simp
 refine Zo ?_;simp
 exact Zx
 refine W.ret (Zq ?_)
 simp[f154,hpi]
def El (f:Nat→Bool) (n:Nat):List DD:=(List.range n).map fun j=> .lf (.bool (f j))
theorem JJ {f:Nat→Bool} {n j:Nat} (h:j<n):(El f n)[j]? =some (.lf (.bool (f j))):=by unfold El;simp[h]
theorem Uq (f:Nat→Bool) (n:Nat):DD.shs (El f n)=List.replicate n .one:=by unfold El;rw[BN (s:=.one) (fun _=>rfl)];simp
theorem Tu (f:Nat→Bool) (n:Nat):DD.vws (El f n)=El f n:=B6 (fun _=>rfl) _
theorem V1 (f:Nat→Bool) (n:Nat):(El f n).length=n:=by unfold El;simp
attribute [simp] Uq Tu V1
theorem NP {f g:Nat→Bool} {n j:Nat} (h:∀i,g i=(f i||decide (i=j))):(El f n).set j (.lf (.bool true))=El g n:=by
 unfold El
 refine List.ext_getElem? fun i=> ?_
 rw[List.getElem?_set]
 simp only[List.getElem?_map,List.length_map,List.length_range]
 by_cases hij:j=i
 ·subst hij
  by_cases hj:j<n
  ·simp[hj,h]
  ·simp[hj]
 ·have e:g i=f i:=by rw[h];simp[Ne.symm hij]
  by_cases hi:i<n
  ·simp[hij,e,hi]
  ·simp[hij,hi]
theorem Z2 {f:Nat→Bool} {n j:Nat} (h:j<(El f n).length):(El f n)[j]=.lf (.bool (f j)):=by rw[List.getElem_eq_iff];exact JJ (by simpa using h)
theorem Ur (n:Nat) (v:Value):DD.shs (List.replicate n (.lf v))=List.replicate n .one:=by rw[DD.shs_eq,List.map_replicate];rfl
attribute [simp] Z2 Ur
theorem V0 (n j:Nat):(List.replicate n (DD.lf (.bool false))).set j (.lf (.bool true))=El (fun i=>decide (i=j)) n:=by
 have e:List.replicate n (DD.lf (.bool false))=El (fun _=>false) n:=by
  unfold El
  refine List.ext_getElem? fun i=> ?_
  simp only[List.getElem?_replicate,List.getElem?_map]
  by_cases hi:i<n<;>simp[hi]
 rw[e];exact NP fun i=>by simp
def H3 (x:A1) (q:Nat) (s:BA'):Bool:=decide (0≤pIx x s) && decide (pIx x s<(q:Int))
def snD (x:A1) (f:Nat→Bool) (L:List BA') (q d:Nat):Nat→Bool:=fun j=>f j||(L.take d).any fun s=>H3 x q s && decide (pIx x s=(j:Int))
theorem Uo (x:A1) (f:Nat→Bool) (L:List BA') (q:Nat):snD x f L q 0=f:=by funext j;simp[snD]
theorem dr {x:A1} {f:Nat→Bool} {L:List BA'} {q d:Nat} (h:d<L.length) (hh:H3 x q L[d]=false):snD x f L q (d+1)=snD x f L q d:=by
 funext j;unfold snD;rw[Y' h,List.any_append];simp[hh]
theorem Yh {x:A1} {f:Nat→Bool} {L:List BA'} {q d j:Nat} (h:d<L.length) (hh:H3 x q L[d]=true) (hj:pIx x L[d]=(j:Int)) (n:Nat):(El (snD x f L q d) n).set j (.lf (.bool true))=El (snD x f L q (d+1)) n:=
 NP fun i=>by
  unfold snD;rw[Y' h,List.any_append]
  simp only[List.any_cons,List.any_nil,Bool.or_false,hh,Bool.true_and,hj,Bool.or_assoc]
  congr 2
  by_cases hi:j=i
  ·simp[hi]
  ·simp[hi,Ne.symm hi]<;>omega
def sn (x:A1) (n:Nat):Nat→Nat→Bool
 |0=>fun j=>decide (j=n)
 |r+1=>if sn x n r (n - r)=true then snD x (sn x n r) (Dn x (n - r)) (n - r) (Dn x (n - r)).length else sn x n r
theorem Yd (x:A1) (n:Nat):sn x n 0=fun j=>decide (j=n):=rfl
def tI (n k:Nat):Int:=(n:Int) - k
theorem YR (n:Nat):tI n 0=n:=by unfold tI;simp
def vf (x:A1) (n k:Nat):List Nat:=(List.range k).filter (sn x n (n+1))
theorem Y8 (x:A1) (n:Nat):vf x n 0=[]:=rfl
theorem dC (x:A1) (n k:Nat):(vf x n k).length≤k:=by have:=List.length_filter_le (sn x n (n+1)) (List.range k);simpa[vf] using this
theorem d9 {x:A1} {n k:Nat} (h:sn x n (n+1) k=true):(vf x n k).map dN++[.lf (.int .i64 (k:Int))]=(vf x n (k+1)).map dN:=by
 unfold vf;rw[List.range_succ,List.filter_append,List.map_append];simp[h]
theorem ie {x:A1} {n k:Nat} (h:sn x n (n+1) k=false):vf x n (k+1)=vf x n k:=by
 unfold vf;rw[List.range_succ,List.filter_append];simp[h]
theorem Ye {x:A1} {n r j:Nat} (h:sn x n r j=true):sn x n (r+1) j=true:=by
 unfold sn
 split
 ·unfold snD;simp[h]
 ·exact h
theorem NH {x:A1} {n r j:Nat} (h:sn x n r j=true):∀d,sn x n (r+d) j=true
 |0=>h
 |d+1=>Ye (NH h d)
theorem Oz {x:A1} {f:Nat→Bool} {L:List BA'} {q j:Nat}:snD x f L q L.length j=true↔f j=true∨∃s∈L,H3 x q s=true∧pIx x s=(j:Int):=by
 unfold snD;rw[List.take_length];simp
theorem Li {x:A1} {n:Nat}:∀(r j:Nat),r≤n+1→sn x n r j=true→j=n∨∃r',r'<r∧sn x n r' (n - r')=true∧∃s∈Dn x (n - r'),H3 x (n - r') s=true∧pIx x s=(j:Int)
 |0,j,_,h=> .inl (by simpa[sn] using h)
 |r+1,j,hr,h=>by
  unfold sn at h
  split at h
  ·rename_i hq
   rcases Oz.1 h with h1|⟨s,h1,h2,h3⟩
   ·rcases Li r j (by omega) h1 with e|⟨r',e,e2⟩
    ·exact .inl e
    ·exact .inr ⟨r',by omega,e2⟩
   ·exact .inr ⟨r,by omega,hq,s,h1,h2,h3⟩
  ·rcases Li r j (by omega) h with e|⟨r',e,e2⟩
   ·exact .inl e
   ·exact .inr ⟨r',by omega,e2⟩
theorem Un {x:A1} {n j:Nat} (hj:j≤n) (h:sn x n (n+1) j=true):sn x n (n - j) j=true:=by
 rcases Li (n+1) j (Nat.le_refl _) h with e|⟨r',h1,h2,s,h3,h4,h5⟩
 ·subst e;simp[sn]
 ·have hlt:j<n - r':=by
   unfold H3 at h4
   simp at h4
   omega
  have h6:sn x n (r'+1) j=true:=by
   unfold sn
   rw[if_pos h2]
   exact Oz.2 (.inr ⟨s,h3,h4,h5⟩)
  have:=NH h6 (n - j - (r'+1))
  rwa [show r'+1+(n - j - (r'+1))=n - j by omega] at this
theorem Yf {x:A1} {n p j:Nat} (hp:p≤n) (h:sn x n (n+1) p=true) {s:BA'} (hs:s∈Dn x p) (hh:H3 x p s=true) (hj:pIx x s=(j:Int)):sn x n (n+1) j=true:=by
 have h1:=Un hp h
 have h2:sn x n (n - p+1) j=true:=by
  unfold sn
  have e:n - (n - p)=p:=by omega
  rw[e,if_pos h1]
  exact Oz.2 (.inr ⟨s,hs,hh,hj⟩)
 have:=NH h2 p
 rwa [show n - p+1+p=n+1 by omega] at this
def inV (x:A1) (p j:Nat):Prop:=j∈(Cj x (p+1)).getD p []
theorem EM {x:A1} {p j:Nat}:inV x p j↔j=p∨(j<p∧∃s∈Dn x p,∃q:Nat,pIx x s=(q:Int)∧q<p∧inV x q j):=by
 unfold inV
 rw[List.getD_eq_getElem?_getD,DA x (Nat.lt_succ_self p)]
 simp only[Option.getD_some,List.mem_append,List.mem_singleton]
 unfold Ec
 rw[List.mem_filter,List.mem_range,List.any_eq_true]
 have key:∀s,hit x (Cj x p) p j s=true↔∃q:Nat,pIx x s=(q:Int)∧q<p∧j∈(Cj x (q+1)).getD q []:=by
  intro s
  unfold hit F9
  constructor
  ·intro h
   simp only[Bool.and_eq_true,decide_eq_true_eq] at h
   obtain⟨⟨h1,h2⟩,h3⟩:=h
   have hq:(pIx x s).toNat<p:=by omega
   refine⟨(pIx x s).toNat,by omega,hq,?_⟩
   rw[List.getD_eq_getElem?_getD,DA x hq] at h3
   rw[List.getD_eq_getElem?_getD,DA x (Nat.lt_succ_self _)]
   exact h3
  ·rintro ⟨q,h1,h2,h3⟩
   rw[h1]
   simp only[Bool.and_eq_true,decide_eq_true_eq,Int.toNat_natCast]
   refine⟨⟨by omega,by omega⟩,?_⟩
   rw[List.getD_eq_getElem?_getD,DA x h2]
   rw[List.getD_eq_getElem?_getD,DA x (Nat.lt_succ_self _)] at h3
   exact h3
 constructor
 ·rintro (⟨h1,s,h2,h3⟩|h)
  ·exact .inr ⟨h1,s,h2,(key s).1 h3⟩
  ·exact .inl h
 ·rintro (h|⟨h1,s,h2,h3⟩)
  ·exact .inr h
  ·exact .inl ⟨h1,s,h2,(key s).2 h3⟩
theorem fJ {x:A1} {p j:Nat} (h:inV x p j):j≤p:=by
 rcases EM.1 h with e|⟨e, -⟩<;>omega
theorem Vn {x:A1}:∀(p q j:Nat),inV x p q→∀s∈Dn x q,pIx x s=(j:Int)→j<q→inV x p j:=by
 intro p
 induction p using Nat.strongRecOn with
 |ind p ih=>
  intro q j h s hs hj hlt
  rcases EM.1 h with e|⟨h1,t,h2,r,h3,h4,h5⟩
  ·subst e
   exact EM.2 (.inr ⟨hlt,s,hs,j,hj,hlt,EM.2 (.inl rfl)⟩)
  ·have h6:=ih r h4 q j h5 s hs hj hlt
   exact EM.2 (.inr ⟨by have:=fJ h6;omega,t,h2,r,h3,h4,h6⟩)
theorem Sa {x:A1} {n:Nat}:∀(p j:Nat),p≤n→sn x n (n+1) p=true→inV x p j→sn x n (n+1) j=true:=by
 intro p
 induction p using Nat.strongRecOn with
 |ind p ih=>
  intro j hp h hv
  rcases EM.1 hv with e|⟨h1,s,h2,q,h3,h4,h5⟩
  ·subst e;exact h
  ·have h6:sn x n (n+1) q=true:=Yf hp h h2 (by unfold H3;rw[h3];simp;omega) h3
   exact ih q h4 j (by omega) h6 h5
theorem L8 {x:A1} {n:Nat}:∀(m j:Nat),n - j≤m→j≤n→sn x n (n+1) j=true→inV x n j
 |0,j,h,hj,_=>EM.2 (.inl (by omega))
 |m+1,j,h,hj,hs=>by
  rcases Li (n+1) j (Nat.le_refl _) hs with e|⟨r',h1,h2,s,h3,h4,h5⟩
  ·exact EM.2 (.inl e)
  ·have hlt:j<n - r':=by unfold H3 at h4;simp at h4;omega
   have h6:=NH h2 (n+1 - r')
   rw[show r'+(n+1 - r')=n+1 by omega] at h6
   exact Vn n (n - r') j (L8 m (n - r') (by omega) (by omega) h6) s h3 h5 hlt
theorem dA {x:A1} {n:Nat} (h:n<x.A2.length):vf x n (n+1)=vis x (n:Int):=by
 have e:vis x (n:Int)=Ec x (Cj x n) n n++[n]:=by
  unfold vis
  rw[if_pos (by omega),Int.toNat_natCast,List.getD_eq_getElem?_getD,DA x (Nat.lt_succ_self n)];rfl
 have hv:∀j,inV x n j↔j∈Ec x (Cj x n) n n++[n]:=fun j=>by
  unfold inV;rw[List.getD_eq_getElem?_getD,DA x (Nat.lt_succ_self n)];rfl
 rw[e]
 have hn:sn x n (n+1) n=true:=by have:=NH (x:=x) (n:=n) (r:=0) (j:=n) (by simp[sn]) (n+1);simpa using this
 unfold vf Ec
 rw[List.range_succ,List.filter_append]
 simp only[List.filter_cons,hn,if_true,List.filter_nil]
 congr 1
 refine List.filter_congr fun j hj=> ?_
 have hjn:j<n:=by simpa using hj
 have h2:=hv j
 unfold Ec at h2
 rw[List.mem_append,List.mem_filter,List.mem_range,List.mem_singleton] at h2
 rw[Bool.eq_iff_iff]
 constructor
 ·intro hs
  rcases h2.1 (L8 (n - j) j (Nat.le_refl _) (by omega) hs) with q|q
  ·exact q.2
  ·omega
 ·intro hs
  exact Sa n j (Nat.le_refl _) hn (h2.2 (.inl ⟨hjn,hs⟩))
theorem fO (x:A1) (i:Int) (hz:x.sz≤134217728) (h:HP):CS cx.P 78 [.d ((x).dd false),dI' i] h (.d (.sl true .one ((vis x i).map dN))) h:=by
 have hz2:=x.sz_eq;unfold szs at hz2
 refine Ze func78 rfl 78 ?_
 refine Zw ?_
 refine W.seq ?_
 refine W.seq ?_
 refine W.regJ (D:=_) [1,2] [2] [(21,.d (.lf (.bool (!decide (0≤i∧i<(x.A2.length:Int))))))] [] rfl (fun _ K hD hK=> ?_) fun T hT=> ?_
 iterate 3 (refine Zo ?_;simp)
 refine WL.split 15 _ rfl (fun g15=> ?_) fun g15=> ?_<;>try simp at g15
 simp
 iterate 5 (refine ZN' ?_;simp)
 refine Zo ?_;simp
 refine WL.nil (hK _ (Wz.to rfl rfl rfl ?_))
 simp[g15]<;>first|omega|(intros;omega)|grind
 simp
 iterate 5 (refine ZG' ?_;simp)
 refine Zo ?_;simp
 refine WL.nil (hK _ (Wz.to rfl rfl rfl ?_))
 simp[g15]<;>first|omega|(intros;omega)|grind
 simp at hT;subst hT
 refine Zc rfl ?_ ?_<;>intro hb0<;>try simp at hb0
 have hno:¬(0≤i∧i<(x.A2.length:Int)):=by omega
 have hres:vis x i=[]:=by unfold vis;exact if_neg hno
 refine Zw ?_
 refine W.ret (Zq ?_)
 simp[f78,hres]
 have hin:0≤i∧i<(x.A2.length:Int):=by omega
 obtain⟨n,hn⟩:∃n:Nat,i=(n:Int):=⟨_,(Int.toNat_of_nonneg hin.1).symm⟩
 subst hn
 have hnl:n<x.A2.length:=by omega
 have hwn:=BH (n:=(n:Int)+1) (by omega) (by omega)
 have htn:((n:Int)+1).toNat=n+1:=by omega
 have hi0:n<n+1:=by omega
 refine W.skip ?_
 apply Zr;intros
 iterate 4 (refine Zo ?_ (by simp[hnl,hwn,htn,hi0]<;>omega);simp[hnl,hwn,htn,hi0])
 exact Zx
 apply Zr;intros
 iterate 4 (refine Zo ?_ (by simp[hnl,hwn,htn,hi0]<;>omega);simp[hnl,hwn,htn,hi0])
 exact Zx
 refine W.seq ?_
 apply Zr;intros
 iterate 2 (refine Zo ?_ (by simp[hnl,hwn,htn,hi0]<;>omega);simp[hnl,hwn,htn,hi0])
 exact Zx
 refine W.block ?_
 refine W.loopk [2,5] [2] (fun k0=>[(6,dI' (tI n k0))]) (fun k0=>[(24,.d (.st (El (sn x n k0) (n+1))))]) (n+1) rfl (by simp[YR,V0,Yd]) fun k0 hk0 T hT=> ?_
 simp at hT;subst hT
 refine W.seq ?_
 apply Zr;intros
 iterate 2 (refine Zo ?_ (by simp[hnl,hwn,htn,hi0]<;>omega);simp[hnl,hwn,htn,hi0])
 exact Zx
 refine Zc rfl ?_ ?_<;>intro hb1<;>try simp at hb1
 have hlt0:k0<n+1:=by unfold tI at hb1;omega
 obtain⟨q,hqn⟩:∃q:Nat,q=n - k0:=⟨_,rfl⟩
 have hq:tI n k0=(q:Int):=by unfold tI;omega
 have hql:q<x.A2.length:=by omega
 have hqn1:q<n+1:=by omega
 have hw1:IntKind.i64.wrap ((q:Int) - 1)=tI n (k0+1):=by rw[BH (by omega) (by omega)];unfold tI;omega
 have hrd:=JJ (f:=sn x n k0) hqn1
 have hdp:=LG hql
 have hdy:=Ae A8.sz (gm hql)
 have hdy2:=x.A2[q].sz_eq;unfold szs at hdy2
 refine W.skip ?_
 refine Zb ?_
 refine W.seq ?_
 apply Zr;intros
 iterate 5 (refine Zo ?_ (by simp[hnl,hwn,htn,hi0,hq,hql,hqn1,hw1,hrd]<;>omega);simp[hnl,hwn,htn,hi0,hq,hql,hqn1,hw1,hrd])
 exact Zx
 refine Zc rfl ?_ ?_<;>intro hb2<;>try simp at hb2
 have hst:sn x n (k0+1)=sn x n k0:=by rw[sn, ←hqn,if_neg (by simp[hb2])]
 refine W.exit ?_
 apply Zs;intros
 iterate 3 (refine Zo ?_ (by simp[hnl,hwn,htn,hi0,hq,hql,hqn1,hw1,hrd]<;>omega);simp[hnl,hwn,htn,hi0,hq,hql,hqn1,hw1,hrd])
 exact Zx
 refine⟨hlt0,Wz.to rfl rfl rfl ?_⟩
 simp[hst]
 have hst:snD x (sn x n k0) x.A2[q].Ba q x.A2[q].Ba.length=sn x n (k0+1):=by rw[sn, ←hqn,if_pos (by simpa using hb2),hdp]
 refine W.skip ?_
 apply Zr;intros
 iterate 8 (refine Zo ?_ (by simp[hnl,hwn,htn,hi0,hq,hql,hqn1,hw1,hrd]<;>omega);simp[hnl,hwn,htn,hi0,hq,hql,hqn1,hw1,hrd])
 exact Zx
 refine W.block ?_
 refine W.loopk [2,5,6,43,44] [2] (fun k1=>[(45,dI' k1)]) (fun k1=>[(24,.d (.st (El (snD x (sn x n k0) x.A2[q].Ba q k1) (n+1))))]) x.A2[q].Ba.length rfl (by simp[Uo]) fun k1 hk1 T hT=> ?_
 simp at hT;subst hT
 apply Zr;intros
 refine Zo ?_ (by simp[hnl,hwn,htn,hi0,hq,hql,hqn1,hw1,hrd]<;>omega);simp[hnl,hwn,htn,hi0,hq,hql,hqn1,hw1,hrd]
 exact Zx
 refine Zv rfl ?_ ?_<;>intro hb3<;>try simp at hb3
 have hx1:=B2 hb3 (by omega)
 refine W.skip ?_
 refine Zb ?_
 apply Zr;intros
 iterate 3 (refine Zo ?_ (by simp[hnl,hwn,htn,hi0,hq,hql,hqn1,hw1,hrd,hb3,hx1]<;>omega);simp[hnl,hwn,htn,hi0,hq,hql,hqn1,hw1,hrd,hb3,hx1])
 exact Zx
 apply Zr;intros
 iterate 2 (refine Zo ?_ (by simp[hnl,hwn,htn,hi0,hq,hql,hqn1,hw1,hrd,hb3,hx1]<;>omega);simp[hnl,hwn,htn,hi0,hq,hql,hqn1,hw1,hrd,hb3,hx1])
 refine Zl [] rfl func154 (fX x x.A2[q].Ba[k1] hz _) ?_ (by simp[hnl,hwn,htn,hi0,hq,hql,hqn1,hw1,hrd,hb3,hx1]);simp[hnl,hwn,htn,hi0,hq,hql,hqn1,hw1,hrd,hb3,hx1]
 refine Zo ?_ (by simp[hnl,hwn,htn,hi0,hq,hql,hqn1,hw1,hrd,hb3,hx1]<;>omega);simp[hnl,hwn,htn,hi0,hq,hql,hqn1,hw1,hrd,hb3,hx1]
 exact Zx
 refine W.seq ?_
 refine W.regJ (D:=_) [2,5,6,9,43,44,45] [2,24] [(58,.d (.lf (.bool (H3 x q x.A2[q].Ba[k1]))))] [] rfl (fun _ K hD hK=> ?_) fun T hT=> ?_
 iterate 3 (refine Zo ?_ (by simp[hnl,hwn,htn,hi0,hq,hql,hqn1,hw1,hrd,hb3,hx1]<;>omega);simp[hnl,hwn,htn,hi0,hq,hql,hqn1,hw1,hrd,hb3,hx1])
 refine WL.split 54 _ rfl (fun g54=> ?_) fun g54=> ?_<;>try simp at g54
 simp[hnl,hwn,htn,hi0,hq,hql,hqn1,hw1,hrd,hb3,hx1]
 iterate 3 (refine ZG' ?_ (by simp[hnl,hwn,htn,hi0,hq,hql,hqn1,hw1,hrd,hb3,hx1]<;>omega);simp[hnl,hwn,htn,hi0,hq,hql,hqn1,hw1,hrd,hb3,hx1])
 refine Zo ?_ (by simp[hnl,hwn,htn,hi0,hq,hql,hqn1,hw1,hrd,hb3,hx1]<;>omega);simp[hnl,hwn,htn,hi0,hq,hql,hqn1,hw1,hrd,hb3,hx1]
 refine WL.nil (hK _ (Wz.to rfl rfl rfl ?_))
 simp[H3,g54]<;>first|omega|(intros;omega)
 simp[hnl,hwn,htn,hi0,hq,hql,hqn1,hw1,hrd,hb3,hx1]
 iterate 3 (refine ZN' ?_;simp[hnl,hwn,htn,hi0,hq,hql,hqn1,hw1,hrd,hb3,hx1])
 refine Zo ?_ (by simp[hnl,hwn,htn,hi0,hq,hql,hqn1,hw1,hrd,hb3,hx1]<;>omega);simp[hnl,hwn,htn,hi0,hq,hql,hqn1,hw1,hrd,hb3,hx1]
 refine WL.nil (hK _ (Wz.to rfl rfl rfl ?_))
 simp[H3,g54]<;>first|omega|(intros;omega)
 simp at hT;subst hT
 refine Zc rfl ?_ ?_<;>intro hb4<;>try simp at hb4
 have hh:H3 x q x.A2[q].Ba[k1]=true:=hb4
 have hh2:=hh
 unfold H3 at hh2
 simp at hh2
 obtain⟨j,hj⟩:∃j:Nat,pIx x x.A2[q].Ba[k1]=(j:Int):=⟨_,(Int.toNat_of_nonneg hh2.1).symm⟩
 have hjn:j<n+1:=by omega
 have hs:=Yh (f:=sn x n k0) hb3 hh hj (n+1)
 apply Zs;intros
 iterate 4 (refine Zo ?_ (by simp[hnl,hwn,htn,hi0,hq,hql,hqn1,hw1,hrd,hb3,hx1,hj,hjn]<;>omega);simp[hnl,hwn,htn,hi0,hq,hql,hqn1,hw1,hrd,hb3,hx1,hj,hjn])
 exact Zx
 apply Zs;intros
 iterate 2 (refine Zo ?_ (by simp[hnl,hwn,htn,hi0,hq,hql,hqn1,hw1,hrd,hb3,hx1,hj,hjn]<;>omega);simp[hnl,hwn,htn,hi0,hq,hql,hqn1,hw1,hrd,hb3,hx1,hj,hjn])
 exact Zx
 refine⟨hb3,Wz.to rfl rfl rfl ?_⟩
 simp[hs]
 have hs:=dr (f:=sn x n k0) hb3 (by simpa using hb4)
 refine W.skip ?_
 apply Zs;intros
 iterate 2 (refine Zo ?_ (by simp[hnl,hwn,htn,hi0,hq,hql,hqn1,hw1,hrd,hb3,hx1]<;>omega);simp[hnl,hwn,htn,hi0,hq,hql,hqn1,hw1,hrd,hb3,hx1])
 exact Zx
 refine⟨hb3,Wz.to rfl rfl rfl ?_⟩
 simp[hs]
 have hkl:k1=x.A2[q].Ba.length:=by omega
 subst hkl
 refine W.exit ?_
 apply Zs;intros
 iterate 3 (refine Zo ?_ (by simp[hnl,hwn,htn,hi0,hq,hql,hqn1,hw1,hrd]<;>omega);simp[hnl,hwn,htn,hi0,hq,hql,hqn1,hw1,hrd])
 exact Zx
 refine⟨hlt0,Wz.to rfl rfl rfl ?_⟩
 simp[hst]
 have hkl:k0=n+1:=by unfold tI at hb1;omega
 subst hkl
 refine W.exit ?_
 apply Zr;intros
 iterate 2 (refine Zo ?_ (by simp[hnl,hwn,htn,hi0]<;>omega);simp[hnl,hwn,htn,hi0])
 exact Zx
 refine W.seq ?_
 apply Zr;intros
 iterate 3 (refine Zo ?_ (by simp[hnl,hwn,htn,hi0]<;>omega);simp[hnl,hwn,htn,hi0])
 exact Zx
 refine W.block ?_
 refine W.loopk [64,65] [24] (fun k2=>[(66,dI' k2),(10,.d (.sl true .one ((vf x n k2).map dN)))]) (fun _=>[]) (n+1) rfl (by simp[Y8]) fun k2 hk2 T hT=> ?_
 simp at hT;subst hT
 have hvl:=dC x n k2
 apply Zr;intros
 refine Zo ?_ (by simp[hnl,hwn,htn,hi0]<;>omega);simp[hnl,hwn,htn,hi0]
 exact Zx
 refine Zv rfl ?_ ?_<;>intro hb5<;>try simp at hb5
 have hk2n:k2<n+1:=by omega
 have hx2:=B2 hk2n (by omega)
 have hrd2:=JJ (f:=sn x n (n+1)) hk2n
 refine W.skip ?_
 refine Zb ?_
 apply Zr;intros
 iterate 5 (refine Zo ?_ (by simp[hnl,hwn,htn,hi0,hk2n,hx2,hrd2]<;>omega);simp[hnl,hwn,htn,hi0,hk2n,hx2,hrd2])
 exact Zx
 apply Zr;intros
 refine Zo ?_ (by simp[hnl,hwn,htn,hi0,hk2n,hx2,hrd2]<;>omega);simp[hnl,hwn,htn,hi0,hk2n,hx2,hrd2]
 exact Zx
 refine Zc rfl ?_ ?_<;>intro hb6<;>try simp at hb6
 have hs:=d9 hb6
 apply Zs;intros
 refine Zm [72] ?_ (by simp[hnl,hwn,htn,hi0,hk2n,hx2,hrd2]<;>omega);simp[hnl,hwn,htn,hi0,hk2n,hx2,hrd2]
 iterate 4 (refine Zo ?_ (by simp[hnl,hwn,htn,hi0,hk2n,hx2,hrd2]<;>omega);simp[hnl,hwn,htn,hi0,hk2n,hx2,hrd2])
 exact Zx
 apply Zs;intros
 iterate 2 (refine Zo ?_ (by simp[hnl,hwn,htn,hi0,hk2n,hx2,hrd2]<;>omega);simp[hnl,hwn,htn,hi0,hk2n,hx2,hrd2])
 exact Zx
 refine⟨(by omega),Wz.to rfl rfl rfl ?_⟩
 simp[hs]
 have hs:=ie (by simpa using hb6)
 refine W.skip ?_
 apply Zs;intros
 iterate 2 (refine Zo ?_ (by simp[hnl,hwn,htn,hi0,hk2n,hx2,hrd2]<;>omega);simp[hnl,hwn,htn,hi0,hk2n,hx2,hrd2])
 exact Zx
 refine⟨(by omega),Wz.to rfl rfl rfl ?_⟩
 simp[hs]
 have hkl:k2=n+1:=by omega
 subst hkl
 have hres:=dA hnl
 refine W.exit ?_
 apply Zr;intros
 refine Zm [77] ?_ (by simp[hnl,hwn,htn,hi0]<;>omega);simp[hnl,hwn,htn,hi0]
 refine Zo ?_ (by simp[hnl,hwn,htn,hi0]<;>omega);simp[hnl,hwn,htn,hi0]
 exact Zx
 refine W.ret (Zq ?_)
 simp[f78,hres]
theorem rpS.takeN {w:World} {F:Nat→Nat}:∀(l:List DD) (cs:List Value) (bs:List Nat) (k:Nat),rpS w F l cs bs→∃c1 c2 b1 b2,cs=c1++c2∧bs=b1++b2∧rpS w F (l.take k) c1 b1
 |l,cs,bs,0,h=>⟨[],cs,[],bs,rfl,rfl,by simp[rpS]⟩
 |[],cs,bs,k+1,h=>⟨[],cs,[],bs,rfl,rfl,by simp[rpS]⟩
 |d::l,cs,bs,k+1,h=>by
  simp only[rpS] at h
  obtain⟨c1,c2,b1,b2,rfl,rfl,h3,h4⟩:=h
  obtain⟨d1,d2,q1,q2,rfl,rfl,h5⟩:=rpS.takeN l c2 b2 k h4
  refine⟨c1++d1,d2,b1++q1,q2,by simp,by simp,?_⟩
  simp only[List.take_succ_cons,rpS]
  exact⟨c1,d1,b1,q1,rfl,rfl,h3,h5⟩
theorem SA (zc:List Value) (n:Nat) (h0:0<zc.length):(Builtin.zeroCells zc.toArray n).toList=(List.replicate n zc).flatten:=by
 have:=Hk zc zc.length rfl h0 n
 rw[←this]
 simp[Builtin.zeroCells,madeCells]
def Lg (v:Value) (i q:Nat):Value:=match v with
 | .slice a n cap=> .slice (if cap=i then a else a.map (·.add (i*q))) (n - i) (cap - i)
 |v=>v
section
variable {c:Cx} {o:Oper} {S:St}
theorem SX (hd:∀k,o.dst=some k→k<S.n) (T:Nat) (x i:Operand) (ho:o.op=.slice T x (some i) none none) (ti:TI) (e:Nat) (s:Sh) (ht:c.ty T=some ti) (hk:ti.kd=.sl e s) {v0:Value} (hx:evT c T S x=.pv v0) (ox:okO c T x) {m j:Nat} (hv:SlV v0 m)
  (hi:evT c 0 S i=.d (.lf (.int .i64 (j:Int)))) (oi:okO c 0 i) (hj:j≤m):Snd c o S ⟨S.n,B1 S.tm o.dst (.pv (Lg v0 j s.w)),S.hp⟩:=by
 intro w F Θ own a hR
 obtain⟨e2, -⟩:=CM hR hi oi
 have hvx:=BU hR ox
 rw[hx] at hvx
 simp only[rv] at hvx
 obtain⟨-,e1⟩:=hvx
 obtain⟨a',cap,rfl, -, -⟩:=hv
 have hd2:=(c.ok T ti ht).kd
 rw[hk] at hd2
 obtain⟨-, -,hu,q,hq,hqs⟩:=hd2
 have hrun:(execOp a.eval o).run c.P w=.ok (.value (Lg (.slice a' m cap) j s.w)) w:=by
  unfold execOp
  simp[ho,e1,e2,Go.Instr.sliceAt,Go.Instr.slice,Go.Instr.sliceBounds,Go.Instr.sliceBound,asIntOf,run_underlying hu,hj,sizeOf,typeInfo,hq,hqs,Lg]
 obtain⟨own',g1,g2⟩:=hR.pure o.dst hd [] List.nodup_nil (.pv (Lg (.slice a' m cap) j s.w)) _ (by simp only[List.flatMap_nil,rv];exact⟨trivial,rfl⟩)
 exact⟨_,w,F,Θ,own',.inl hrun,g1,g2⟩
theorem Ox (hd:o.dst=none) (T:Nat) (x:Operand) (ho:o.op=.call { callee:=.builtin .clear,args:= #[x],argTypes:= #[T] }) (ti te:TI) (e:Nat) (s:Sh) (ht:c.ty T=some ti) (hk:ti.kd=.sl e s) (hte:c.ty e=some te) (hts:te.sh=s) {v0:Value} {t j:Nat} {es:List DD}
  (hx:evT c 0 S x=.pv (Lg v0 j s.w)) (ox:okO c 0 x) (hm:S.tm t=.mb v0 s es) (hj:j≤es.length) (h0:0<es.length) (hes:DD.ows es) (htn:t<S.n):Snd c o S ⟨S.n,upd (BD S.tm [t]) t (.mb v0 s (es.take j++List.replicate (es.length - j) te.z)),S.hp⟩:=by
 intro w F Θ own a hR
 have hE:=c.ok e te hte
 obtain⟨ii,hi1,hi2,hi3,hi4⟩:=hE.info
 have hd2:=(c.ok T ti ht).kd
 rw[hk] at hd2
 obtain⟨-,hp,hu, -⟩:=hd2
 have hvx:=BU hR ox
 rw[hx] at hvx
 simp only[rv] at hvx
 obtain⟨-,e1⟩:=hvx
 have hb:=hR.tm t
 rw[hm] at hb
 obtain⟨hv0,r,hbo,hb⟩:=Lz hb h0
 obtain⟨hs, -,a',cap,e2,h1,h2,h3,h4⟩:=hb
 rcases h4 with ⟨h4, -, -⟩|⟨b,r',cur,ty,rfl,h5,h6,h7,h8,h9⟩
 ·simp at h4
 have hvv:v0=.slice (some ⟨b,0,none⟩) es.length cap:=by rw[←hv0,e2]
 have hbb:Ia v0=b:=by rw[hvv];rfl
 rw[hbb] at hbo h5
 simp only[List.cons.injEq,true_and] at h5
 subst h5
 have hown:(own (.t t)).Nodup:=hR.nd _
 have hbn:b∉r:=by rw[hbo] at hown;exact(List.nodup_cons.1 hown).1
 by_cases hjn:j=es.length
 ·-- nothing to be set
  subst hjn
  have hrun:(execOp a.eval o).run c.P w=.ok (.value (.tuple #[])) w:=by
   unfold execOp
   by_cases hq:cap=es.length<;>simp[ho,e1,resolve,invoke,builtin,Builtin.clear_,run_underlying hu,Lg,hvv,hq]
  obtain⟨own',w1,w2⟩:=hR.fin (w':=w) (F':=F) (some t) (fun k hk=>by cases hk;exact htn) [t] (.mb v0 s (es.take es.length++List.replicate (es.length - es.length) te.z)) (a.tmps.getD t undef) (own (.t t)) (Ks.refl _ _ _) hR.top
   (by have h:=hR.tm t;rw[hm] at h;simpa using h) hown (fun q hq=> .inl ⟨t,by simp,hq⟩) (fun q hq=>hR.lt _ q hq)
  rw[Gs] at w1
  refine⟨_,_,F,Θ,own',.inl hrun,?_,w2⟩
  rw[hd]
  exact w1
 have hjl:j<es.length:=by omega
 obtain⟨xs,g1,g2⟩:=rpE.toS es 0 r h7
 obtain⟨c1,c2,b1,b2,rfl,rfl,g3⟩:=rpS.takeN es xs r j g2
 have hxl:=rpS.length es _ _ g2
 rw[DD.shs_eq,Sh.ws_map es hs] at hxl
 have hc1:=rpS.length _ _ _ g3
 rw[DD.shs_eq,Sh.ws_map _ (fun d hd=>hs d (List.mem_of_mem_take hd)),List.length_take] at hc1
 have hc1:c1.length=j*s.w:=by rw[hc1];congr 1;omega
 have hz:=hE.z w F
 have hzl:=rp.length _ _ _ hz
 rw[hE.zs,hts] at hzl
 let Z:=(List.replicate (es.length - j) te.zc).flatten
 have hZl:Z.length=(es.length - j)*s.w:=by simp[Z,hzl]
 have hZ1:∀u∈Z,u.oneCell'=true:=fun u hu=>by
  obtain⟨l,hl,hul⟩:=List.mem_flatten.1 hu
  rw[(List.mem_replicate.1 hl).2] at hul
  exact rp.one _ _ _ hz u hul
 have hmul:j*s.w+(es.length - j)*s.w=es.length*s.w:=by rw[←Nat.add_mul];congr 1;omega
 have hcap:es.length*s.w≤cap*s.w:=Nat.mul_le_mul_right _ h1
 have hsz:j*s.w+Z.length≤cur.size:=by rw[hZl];omega
 let arr:=cur.toList.take (j*s.w)++Z++cur.toList.drop (j*s.w+Z.length)
 have hks:Ks w F (w.setRow b arr.toArray) F (fun x=>x=b):=Jf h8 h6
 have hst:=run_storeCells_at c.P b (j*s.w) ty Z 0 cur w h8 (by simpa using hsz) hZ1
 simp only[Nat.add_zero] at hst
 have hzf:=SA te.zc (es.length - j) (by rw[hzl];exact hp)
 have hmk:=EC hz
 have hrun:(execOp a.eval o).run c.P w=.ok (.value (.tuple #[])) (w.setRow b arr.toArray):=by
  unfold execOp
  obtain⟨m,hm'⟩:∃m,es.length - j=m+1:=⟨es.length - j - 1,by omega⟩
  have hne:¬cap=j:=by omega
  rw[hm'] at hzf
  have hZe:Z=(List.replicate (m+1) te.zc).flatten:=by show(List.replicate (es.length - j) te.zc).flatten=_;rw[hm']
  simp only[arr]
  rw[hZe] at hst ⊢
  simp[ho,e1,resolve,invoke,builtin,Builtin.clear_,run_underlying hu,Lg,hvv,hne,hm',zeroValue,typeInfo,hi1,hi4,hmk,hzf,hst,Addr.add_lit]
 have hat:=setRow_heap w b cur arr.toArray ty (0,0) h8
 have hlt:∀q∈b1,q<w.heap.size:=fun q hq=>hR.lt (.t t) q (by rw[hbo];simp[hq])
 have hb1:∀q∈b1,q≠b:=fun q hq e=>hbn (by rw[←e];simp[hq])
 have hto:DD.ows (es.take j):=by
  rw[DD.ows_iff] at hes ⊢
  exact fun d hd=>hes d (List.mem_of_mem_take hd)
 have g4:=rpS.keepO _ _ _ g3 hto (fun q hq=>hks.out q (hlt q hq) (hb1 q hq))
 have g5:=rpS.append _ _ _ _ _ _ g4 (Ik (hE.z (w.setRow b arr.toArray) F) (es.length - j))
 rw[List.append_nil] at g5
 have hlen:(es.take j++List.replicate (es.length - j) te.z).length=es.length:=by simp;omega
 obtain⟨own',w1,w2⟩:=hR.fin (w':=w.setRow b arr.toArray) (F':=F) (some t) (fun k hk=>by cases hk;exact htn) [t] (.mb v0 s (es.take j++List.replicate (es.length - j) te.z)) (a.tmps.getD t undef) (b::b1)
  ⟨hks.os,hks.tape,hks.output,hks.size,hks.cell,hks.mono,fun q hq hne=>hks.out q hq (fun e=>hne ⟨t,by simp,by rw[hbo,e];simp⟩)⟩ (fun q hq=>hR.top q (by rw[size_setRow] at hq;exact hq))
  (by
   simp only[rv]
   refine⟨hv0,?_,hp,_,cap,by rw[hlen];exact e2,by rw[hlen];exact h1,h2,h3,.inr ⟨b,_,arr.toArray,ty,rfl,rfl,h6,?_,hat,?_⟩⟩
   ·intro d hd
    rcases List.mem_append.1 hd with hd|hd
    ·exact hs d (List.mem_of_mem_take hd)
    ·rw[(List.mem_replicate.1 hd).2,hE.zs,hts]
   ·refine rpS.toE _ _ 0 _ g5 fun q u hu=> ?_
    rw[cell_of_row _ _ _ _ ty (0,0) hat,Nat.zero_add]
    simp only[List.getElem?_toArray]
    have old:∀q u,(c1++c2)[q]? =some u→cur.toList[q]? =some u:=fun q u hu=>by
     have:=g1 q u hu
     rw[cell_of_row w _ _ _ ty (0,0) h8,Nat.zero_add] at this
     rw[Array.getElem?_toList];exact this
    have htk:cur.toList.take (j*s.w)=c1:=by
     refine List.ext_getElem? fun i=> ?_
     rw[List.getElem?_take]
     split
     ·rename_i hi
      have hi2:i<c1.length:=by omega
      rw[old i c1[i] (by rw[List.getElem?_append_left hi2,List.getElem?_eq_getElem hi2]),List.getElem?_eq_getElem hi2]
     ·rename_i hi
      rw[List.getElem?_eq_none (by omega)]
    show(cur.toList.take (j*s.w)++Z++cur.toList.drop (j*s.w+Z.length))[q]? =some u
    rw[htk]
    have hq:q<(c1++Z).length:=(List.getElem?_eq_some_iff.1 hu).1
    rw[List.getElem?_append_left hq];exact hu
   ·simp only[arr,List.size_toArray,List.length_append,List.length_take,List.length_drop,Array.length_toList]
    omega)
  (by
   refine List.nodup_cons.2 ⟨fun h=>hb1 b h rfl,?_⟩
   rw[hbo] at hown
   exact(List.nodup_append.1 (List.nodup_cons.1 hown).2).1)
  (fun q hq => by
   left
   refine⟨t,by simp,?_⟩
   rw[hbo]
   rcases List.mem_cons.1 hq with rfl|hq
   ·simp
   ·simp [hq]) (fun q hq => by
   rw[size_setRow]
   rcases List.mem_cons.1 hq with rfl|hq
   ·exact hR.lt (.t t) q (by rw[hbo];simp)
   ·exact hlt q hq)
 rw[Gs] at w1
 refine⟨_,_,F,Θ,own',.inl hrun,?_,w2⟩
 rw[hd]
 exact w1
theorem SU (hd:∀k,o.dst=some k→k<S.n) (T:Nat) (x i:Operand) (ho:o.op=.slice T x none (some i) none) (ti:TI) (e:Nat) (s:Sh) (ht:c.ty T=some ti) (hk:ti.kd=.sl e s) {v0:Value} {t j:Nat} {es:List DD} (hx:evT c T S x=.pv v0) (ox:okO c T x) (hm:S.tm t=.mb v0 s es)
  (hi:evT c 0 S i=.d (.lf (.int .i64 (j:Int)))) (oi:okO c 0 i) (hj:j≤es.length):Snd c o S ⟨S.n,B1 (BD S.tm [t]) o.dst (.ms s (es.take j)),S.hp⟩:=by
 intro w F Θ own a hR
 obtain⟨e3, -⟩:=CM hR hi oi
 have hvx:=BU hR ox
 rw[hx] at hvx
 simp only[rv] at hvx
 obtain⟨-,e1⟩:=hvx
 have hb:=hR.tm t
 rw[hm] at hb
 simp only[rv] at hb
 obtain⟨hv0,hs,hp,a',cap,e2,h1,h2,h3,h4⟩:=hb
 have hvv:v0=.slice a' es.length cap:=by rw[←hv0,e2]
 have hd2:=(c.ok T ti ht).kd
 rw[hk] at hd2
 obtain⟨-, -,hu,q,hq,hqs⟩:=hd2
 have hjc:j≤cap:=by omega
 have haa:∀a':Option Addr,Option.map (fun x:Addr=>x.add 0) a'=a':=fun a'=>by cases a'<;>simp[Addr.add]
 have hrun:(execOp a.eval o).run c.P w=.ok (.value (.slice a' j cap)) w:=by
  unfold execOp
  simp[ho,e1,e3,hvv,Go.Instr.sliceAt,Go.Instr.slice,Go.Instr.sliceBounds,Go.Instr.sliceBound,asIntOf,run_underlying hu,hjc,sizeOf,typeInfo,hq,hqs,haa]
 have hlen:(es.take j).length=j:=by simp;omega
 have hsub:∀d∈es.take j,d.sh=s:=fun d hd=>hs d (List.mem_of_mem_take hd)
 obtain⟨bs,hr,hn,hb⟩:∃bs,rms w F s (es.take j) (.slice a' j cap) bs∧bs.Nodup∧∀q∈bs,q∈own (.t t):=by
  rcases h4 with ⟨h4,h5,h6⟩|⟨b,r,cur,ty,rfl,h5,h6,h7,h8,h9⟩
  ·refine⟨[],⟨hsub,hp,a',cap,by rw[hlen],by rw[hlen];exact hjc,h2,h3,.inl ⟨rfl,by rw[h5];simp,h6⟩⟩,List.nodup_nil,by simp⟩
  ·obtain⟨xs,g1,g2⟩:=rpE.toS es 0 r h7
   obtain⟨c1,c2,b1,b2,rfl,rfl,g3⟩:=rpS.takeN es xs r j g2
   refine⟨b::b1,⟨hsub,hp,_,cap,by rw[hlen],by rw[hlen];exact hjc,h2,h3,.inr ⟨b,b1,cur,ty,rfl,rfl,h6,rpS.toE _ _ 0 _ g3 (fun q u hu=>g1 q u (by rw[List.getElem?_append_left (List.getElem?_eq_some_iff.1 hu).1];exact hu)),h8,h9⟩⟩,?_,fun q hq=>by rw[h5];rcases List.mem_cons.1 hq with rfl|hq<;>simp[*]⟩
   have hown:(own (.t t)).Nodup:=hR.nd _
   rw[h5] at hown
   have h:=List.nodup_cons.1 hown
   exact List.nodup_cons.2 ⟨fun hq=>h.1 (List.mem_append_left _ hq),(List.nodup_append.1 h.2).1⟩
 obtain⟨own',g1,g2⟩:=hR.fin (w':=w) (F':=F) o.dst hd [t] (.ms s (es.take j)) (.slice a' j cap) bs (Ks.refl _ _ _) hR.top (by simp only[rv];exact hr) hn (fun q hq=> .inl ⟨t,by simp,hb q hq⟩) (fun q hq=>hR.lt _ q (hb q hq))
 exact⟨_,w,F,Θ,own',.inl hrun,g1,g2⟩
end
section
variable {c:Cx} {ops:Array Oper} {o:Oper} {l:List Oper} {K:St→Prop} {n d x i t:Nat} {f:Nat→AV} {hp:HP}
def elZ (c:Cx) (T:Nat):Option (Sh×Sh×DD):=match c.ty T with
 |some { kd:=.sl e s,.. }=>(c.ty e).map fun te=>(s,te.sh,te.z)
 |_=>none
theorem gK {T:Nat} {s s':Sh} {z:DD} (h:elZ c T=some (s,s',z)):∃ti te e,c.ty T=some ti∧ti.kd=.sl e s∧c.ty e=some te∧te.sh=s'∧te.z=z:=by
 unfold elZ at h
 split at h
 ·rename_i e s2 hq
  cases he:c.ty e with
  |none=>rw[he] at h;cases h
  |some te=>rw[he] at h;cases h;exact⟨_,te,_,hq,rfl,he,rfl,rfl⟩
 ·cases h
theorem pX {T m j:Nat} {v:Value} {s:Sh} (kk:WL c ops l ⟨n,upn f d (.pv (Lg v j s.w)),hp⟩ K) (ho:o.op=.slice T (.tmp x) (some (.tmp i)) none none:=by rfl) (hx:f x=.pv v:=by rfl) (hi:f i=dI' j:=by rfl) (hd:o.dst=some d:=by rfl) (hg:o.guard=none:=by rfl) (hT:elS c T=some s:=by rfl) (hv:SlV v m:=by assumption) (hj:j≤m:=by omega) (hk:Nat.ble (d+1) n=true:=by rfl):WL c ops (o::l) ⟨n,f,hp⟩ K:=by
 obtain⟨ti,e,h1,h2⟩:=MK hT
 have hk:=B8 hk
 refine WL.cons (OS.op (by unfold wnt;rw[hg]) (SX (fun q hq=>by rw[hd] at hq;cases hq;exact hk) T (.tmp x) (.tmp i) ho ti e s h1 h2 (v0:=v) (by simp only[evT,hx,AV.vw]) trivial hv (j:=j) (by simp only[evT,hi,AV.vw,DD.vw]) trivial hj)) ?_
 simp only[hd,B1]
 rw[B0] at kk;exact kk
theorem lQ (t:Nat) {T j:Nat} {v:Value} {s:Sh} {es es':List DD} {z:DD} (kk:WL c ops l ⟨n,upn f t (.mb v s es'),hp⟩ K) (ho:o.op=.call { callee:=.builtin .clear,args:= #[.tmp x],argTypes:= #[T] }:=by rfl) (ht:f t=.mb v s es:=by rfl) (hT:elZ c T=some (s,s,z):=by rfl) (hx:f x=.pv (Lg v j s.w):=by rfl) (hd:o.dst=none:=by rfl) (hg:o.guard=none:=by rfl) (hj:j≤es.length:=by simp;omega) (h0:0<es.length:=by simp;omega) (hes:DD.ows es:=by simp) (htn:Nat.ble (t+1) n=true:=by rfl) (hE:es.take j++List.replicate (es.length - j) z=es':=by rfl):WL c ops (o::l) ⟨n,f,hp⟩ K:=by
 have htn:=B8 htn
 obtain⟨ti,te,e,h1,h2,h3,h4,h5⟩:=gK hT
 subst hE h5
 refine WL.cons (OS.op (by unfold wnt;rw[hg]) (Ox hd T (.tmp x) ho ti te e s h1 h2 h3 h4 (v0:=v) (j:=j) (by simp only[evT,hx,AV.vw]) trivial ht hj h0 hes htn)) ?_
 have e:(upd (BD f [t]) t (.mb v s (es.take j++List.replicate (es.length - j) te.z)):Nat→AV)=upn f t (.mb v s (es.take j++List.replicate (es.length - j) te.z)):=by
  simp only[B0,BD]
  funext u
  by_cases e:u=t
  ·subst e;rw[Aw,Aw]
  ·rw[BE _ _ e,BE _ _ e,BE _ _ e]
 show WL c ops l ⟨n,_,hp⟩ K
 rw[e];exact kk
theorem pW (t:Nat) {T j:Nat} {v:Value} {s:Sh} {es es':List DD} (kk:WL c ops l ⟨n,upn (upn f t (.pv v)) d (.ms s es'),hp⟩ K) (ho:o.op=.slice T (.tmp x) none (some (.tmp i)) none:=by rfl) (hx:f x=.pv v:=by rfl) (ht:f t=.mb v s es:=by rfl) (hi:f i=dI' j:=by rfl) (hd:o.dst=some d:=by rfl) (hg:o.guard=none:=by rfl) (hT:elS c T=some s:=by rfl) (hj:j≤es.length:=by simp;omega) (hE:es.take j=es':=by rfl) (hk:Nat.ble (d+1) n=true:=by rfl):WL c ops (o::l) ⟨n,f,hp⟩ K:=by
 obtain⟨ti,e,h1,h2⟩:=MK hT
 have hk:=B8 hk
 subst hE
 refine WL.cons (OS.op (by unfold wnt;rw[hg]) (SU (fun q hq=>by rw[hd] at hq;cases hq;exact hk) T (.tmp x) (.tmp i) ho ti e s h1 h2 (v0:=v) (by simp only[evT,hx,AV.vw]) trivial ht (j:=j) (by simp only[evT,hi,AV.vw,DD.vw]) trivial hj)) ?_
 simp only[hd,B1,BD]
 rw[B0,B0] at kk
 rw[ht];exact kk
theorem pZ (t:Nat) {g T1 T2 x1:Nat} {x2:Operand} {v:Value} {s:Sh} {es:List DD} {q:Nat} {cs cs':List AV} {y1:DD} {pre:Prop} {r r':DD} (kk:WL c ops l ⟨n,upn f d (.d r'),hp⟩ K) (ho:o.op=.call { callee:=.value (.func g),args:= #[.tmp x1,x2],argTypes:= #[T1,T2] }:=by rfl) (ht:f t=.mb v s es:=by rfl) (h1:f x1=.pv v:=by rfl) (hd:o.dst=some d:=by rfl) (hg:o.guard=none:=by rfl) (h2:evT c T2 ⟨n,f,hp⟩ x2=.fn q cs:=by rfl) (hx2:(match x2 with| .tmp u=>Nat.beq u x1|_=>false)=false:=by rfl) (o2:okO c T2 x2:=by trivial) (e1:DD.sl false s (DD.vws es)=y1:=by simp;rfl) (e2:cs=cs':=by first|(simp[-List.map_take];rfl)|rfl) (hn:(AV.fn q cs').nf:=by simp[AV.nf,AV.nfs]) (hct:Ct c g [.d y1,.fn q cs'] pre (.d r):=by exact inferInstance) (hp0:pre:=by first|trivial|omega|(simp only[H];done)|(simp only[H];first|trivial|omega|grind)|grind) (er:r=r':=by first|(simp only[H];rfl)|rfl) (hr:r.ow:=by simp) (hk:Nat.ble (d+1) n=true:=by rfl):WL c ops (o::l) ⟨n,f,hp⟩ K:=by
 have hk:=B8 hk
 obtain⟨fn,body,hfn⟩:=hct.ok
 subst e1 e2 er
 refine WL.cons (OS.callB (c:=c) (fun q hq=>by rw[hd] at hq;cases hq;exact hk) (by unfold wnt;rw[hg]) (.func g) #[.tmp x1,x2] #[T1,T2] ho g [] rfl trivial fn body hfn rfl (fun x hx=> ?_) t [x1] v s es ht (fun u hu=>by simp only[List.mem_singleton] at hu;subst hu;show(f u).vw=_;rw[h1];rfl) (as':=[.d (.sl false s (DD.vws es)),.fn q cs]) ?_ ⟨trivial,hn,trivial⟩ (.d r) (fun h=>hct.cs hp0 h) hr) ?_
 ·simp only[List.zip_cons_cons,List.zip_nil_right,List.mem_cons,List.not_mem_nil,or_false] at hx
  rcases hx with rfl|rfl
  ·trivial
  ·exact o2
 ·simp only[List.zip_cons_cons,List.zip_nil_right,List.map_cons,List.map_nil,List.append_nil,Pc]
  congr 1
  ·simp
  ·congr 1
   rw[←h2]
   cases x2 with
   |tmp u=>
    have:([x1]:List Nat).contains u=false:=by
     cases q:Nat.beq u x1 with
     |true=>simp only[q] at hx2;cases hx2
     |false=>simp;intro e;subst e;rw[Nat.beq_refl] at q;cases q
    simp only[this,cond_false,evT]
   |_=>rfl
 ·show WL c ops l ⟨n,B1 f o.dst (.d r),hp⟩ K
  rw[hd]
  simp only[B1]
  rw[B0] at kk;exact kk
end
def nmC (l:List AA):List BA':=l.map AA.A5
def ptL (l:List AX):List A0:=l.map AX.AM
theorem ZG {l:List AA} {k:Nat} (h:l.length≤k):mp AA.A5 l k=nmC l:=Bb h
theorem Z6 {l:List AX} {k:Nat} (h:l.length≤k):mp AX.AM l k=ptL l:=Bb h
theorem ZF (l:List AA):(nmC l).length=l.length:=List.length_map ..
theorem WA (d:AF) (a:List Ac):Jr d a=(d.A4.all (c1 a) && dst (nmC d.A4) && decide (a.length=d.A4.length)):=rfl
instance iSigR (t:AU) (s:BA'):Ct cx 160 [.d (KQ t),dS' s] (True) (.tp [.d (((siR t s).1).dd false),dI' (((siR t s).2.1:Nat):Int),dB' ((siR t s).2.2)]):=by
 refine Xiv func160 25 [.cell 4 137,.tmp 5,.tmp 6] [16,21] [] AN (AI @siR.eq_1<|AI @byN.eq_1<|AI @DX.eq_def<|AI @byF.eq_1<|AI @Ay<|AI @As<|AI @zSi.eq_1<|AI @zT.eq_1<|@zX.eq_1) ?_;intro hp h M G H E
 repeat' (first|(refine IN.mk ?_;intros)|(refine iTw ?_;refine T2 ?_ ?_<;>((try clear H);intro hb H)<;>try exact hb.elim)|(refine LF.mk ?_;exact LX)|refine GN ?_|(refine XC [1,4,10,11] [4] 12 (t.AW.length) (fun k0=>fs (byF AC.A5 s) 0 t.AW=fs (byF AC.A5 s) k0 (t.AW.drop k0)) ?_;intro k0 hk0 hi0)|fail)
instance iMetR (x:AJ) (s:BA'):Ct cx 161 [.d (E6 x),dS' s] (True) (.tp [.d (((meR x s).1).dd false),dB' ((meR x s).2.2)]):=by
 refine Xiv func161 22 [.cell 4 148,.tmp 5] [14,19] [] AN (AI @meR.eq_1<|AI @byN.eq_1<|AI @DX.eq_def<|AI @byF.eq_1<|AI @Ay<|AI @As<|AI @zMe.eq_1<|AI @zX.eq_1<|@zT.eq_1) ?_;intro hp h M G H E
 repeat' (first|(refine IN.mk ?_;intros)|(refine iTw ?_;refine T2 ?_ ?_<;>((try clear H);intro hb H)<;>try exact hb.elim)|(refine LF.mk ?_;exact LX)|refine GN ?_|(refine XC [1,4,9,10] [4] 11 (x.Ar.length) (fun k0=>fs (byF AY.A5 s) 0 x.Ar=fs (byF AY.A5 s) k0 (x.Ar.drop k0)) ?_;intro k0 hk0 hi0)|fail)
theorem Fk {r:Nat→Int} {n k:Nat} (h:k<n):fc r ((List.range n).drop k)=if r k=0 then fc r ((List.range n).drop (k+1)) else r k:=by
  have:=BP (f:=r) (l:=List.range n) (k:=k) (by simpa using h);simpa using this
theorem Vh (r:Int):(if r=0 then 0 else r)=r:=by split<;>simp_all
theorem EP {r:Nat→Int} {n k:Nat} (h:n≤k):fc r ((List.range n).drop k)=0:=Az (by simpa using h)
theorem Jj (F:List AV) (n:Nat) (g:Nat→Nat) (cs:Nat→List AV) (r:Nat→Int) (hF:VwC F) (hl:F.length=n) (hg:∀i,i<n→F[i]? =some (.fn (g i) (cs i))) (hv:∀i,VwC (cs i)) (hi:∀i,Ct cx (g i) (cs i) (i<n) (dI' (r i))) (h:HP):CS cx.P 80 [.fr F] h (dI' (fc r (List.range n))) h:=by
 refine Xe func80 rfl 18 [.tmp 2] ?_
 let M:List Nat:=[]
 let G:List Nat:=[]
 have H:=AN
 have hw:=fun i=>(hv i).all
 have hg2:∀i (h:i<F.length),F[i]=.fn (g i) (cs i):=fun i h=>by have q:=hg i (by omega);rw[List.getElem?_eq_getElem h] at q;exact Option.some.inj q
 replace H:=AI hF.all (AI hl (AI hg2 (AI hw H)))
 repeat' (first|refine GF ?_|refine GO ?_|(refine Two.mk ?_ ?_<;>intro hb<;>(try simp at hb)<;>(try norm_cast at hb)<;>try replace H:=HN hb H)|(refine RG.mk ?_;(try clear hK hD);first|intro _ K hD hK|intro K hD hK)|(refine RF.mk ?_;intro hr)|(refine LF.mk ?_;(try clear hK hD);first|rfl|(simp[Fk,EP, *];done)|(simp_all [Fk,EP];done)|grind [Fk,EP]))
 refine W.loopR [6,7] [] (fun k0 _=>[(8,dI' k0)]) (fun _ _=>[]) (n) (fun k0 _=>fc r (List.range n)=fc r ((List.range n).drop k0)) (fun S=>()) rfl (by simp[H]) (by first|trivial|rfl|(simp;done)|(simp[Fk,EP];done)|(simp_all [Fk,EP];done)) ?_
 intro k0 hk0 s0 hi0 T hT;simp at hT;subst hT
 repeat' (first|refine GF ?_|refine GO ?_|(refine Two.mk ?_ ?_<;>intro hb<;>(try simp at hb)<;>(try norm_cast at hb)<;>try replace H:=HN hb H)|(refine RG.mk ?_;(try clear hK hD);first|intro _ K hD hK|intro K hD hK)|(refine RF.mk ?_;intro hr)|(refine LF.mk ?_;(try clear hK hD);first|rfl|(simp[Fk,EP, *];done)|(simp_all [Fk,EP];done)|grind [Fk,EP]))
instance iU (g0 g1 g2 : Nat) (c0 c1 c2 : List AV) (r0 r1 r2 : Int) {p0 p1 p2 : Prop} [v0 : VwC c0] [h0 : Ct cx g0 c0 p0 (dI' r0)] [v1 : VwC c1] [h1 : Ct cx g1 c1 p1 (dI' r1)] [v2 : VwC c2] [h2 : Ct cx g2 c2 p2 (dI' r2)] : Ct cx 80 [.fr [.fn g0 c0, .fn g1 c1, .fn g2 c2]] (p0 ∧ p1 ∧ p2) (dI' (or0 r0 (or0 r1 r2))) := ⟨fk1 func80, fun hp h => by
  obtain⟨q0,q1,q2⟩:=hp
  have q:=Jj [.fn g0 c0,.fn g1 c1,.fn g2 c2] 3 (fun i=>match i with|0=>g0|1=>g1|_=>g2) (fun i=>match i with|0=>c0|1=>c1|_=>c2) (fun i=>match i with|0=>r0|1=>r1|_=>r2) inferInstance rfl (fun i hi=>by rcases i with _|_|_|i<;>first|rfl|omega) (fun i=>by rcases i with _|_|i;exact v0;exact v1;exact v2) (fun i=>by rcases i with _|_|i;exact⟨h0.ok,fun _=>h0.cs q0⟩;exact⟨h1.ok,fun _=>h1.cs q1⟩;exact⟨h2.ok,fun _=>h2.cs q2⟩) h
  simpa[fc,or0,Vh,List.range,List.range.loop] using q⟩
instance iS (g0 g1 g2 g3 : Nat) (c0 c1 c2 c3 : List AV) (r0 r1 r2 r3 : Int) {p0 p1 p2 p3 : Prop} [v0 : VwC c0] [h0 : Ct cx g0 c0 p0 (dI' r0)] [v1 : VwC c1] [h1 : Ct cx g1 c1 p1 (dI' r1)] [v2 : VwC c2] [h2 : Ct cx g2 c2 p2 (dI' r2)] [v3 : VwC c3] [h3 : Ct cx g3 c3 p3 (dI' r3)] : Ct cx 80 [.fr [.fn g0 c0, .fn g1 c1, .fn g2 c2, .fn g3 c3]] (p0 ∧ p1 ∧ p2 ∧ p3) (dI' (or0 r0 (or0 r1 (or0 r2 r3)))) := ⟨fk1 func80, fun hp h => by
  obtain⟨q0,q1,q2,q3⟩:=hp
  have q:=Jj [.fn g0 c0,.fn g1 c1,.fn g2 c2,.fn g3 c3] 4 (fun i=>match i with|0=>g0|1=>g1|2=>g2|_=>g3) (fun i=>match i with|0=>c0|1=>c1|2=>c2|_=>c3) (fun i=>match i with|0=>r0|1=>r1|2=>r2|_=>r3) inferInstance rfl (fun i hi=>by rcases i with _|_|_|_|i<;>first|rfl|omega) (fun i=>by rcases i with _|_|_|i;exact v0;exact v1;exact v2;exact v3) (fun i=>by rcases i with _|_|_|i;exact⟨h0.ok,fun _=>h0.cs q0⟩;exact⟨h1.ok,fun _=>h1.cs q1⟩;exact⟨h2.ok,fun _=>h2.cs q2⟩;exact⟨h3.ok,fun _=>h3.cs q3⟩) h
  simpa[fc,or0,Vh,List.range,List.range.loop] using q⟩
instance iQ (g0 g1 g2 g3 g4 : Nat) (c0 c1 c2 c3 c4 : List AV) (r0 r1 r2 r3 r4 : Int) {p0 p1 p2 p3 p4 : Prop} [v0 : VwC c0] [h0 : Ct cx g0 c0 p0 (dI' r0)] [v1 : VwC c1] [h1 : Ct cx g1 c1 p1 (dI' r1)] [v2 : VwC c2] [h2 : Ct cx g2 c2 p2 (dI' r2)] [v3 : VwC c3] [h3 : Ct cx g3 c3 p3 (dI' r3)] [v4 : VwC c4] [h4 : Ct cx g4 c4 p4 (dI' r4)] : Ct cx 80 [.fr [.fn g0 c0, .fn g1 c1, .fn g2 c2, .fn g3 c3, .fn g4 c4]] (p0 ∧ p1 ∧ p2 ∧ p3 ∧ p4) (dI' (or0 r0 (or0 r1 (or0 r2 (or0 r3 r4))))) := ⟨fk1 func80, fun hp h => by
  obtain⟨q0,q1,q2,q3,q4⟩:=hp
  have q:=Jj [.fn g0 c0,.fn g1 c1,.fn g2 c2,.fn g3 c3,.fn g4 c4] 5 (fun i=>match i with|0=>g0|1=>g1|2=>g2|3=>g3|_=>g4) (fun i=>match i with|0=>c0|1=>c1|2=>c2|3=>c3|_=>c4) (fun i=>match i with|0=>r0|1=>r1|2=>r2|3=>r3|_=>r4) inferInstance rfl (fun i hi=>by rcases i with _|_|_|_|_|i<;>first|rfl|omega) (fun i=>by rcases i with _|_|_|_|i;exact v0;exact v1;exact v2;exact v3;exact v4) (fun i=>by rcases i with _|_|_|_|i;exact⟨h0.ok,fun _=>h0.cs q0⟩;exact⟨h1.ok,fun _=>h1.cs q1⟩;exact⟨h2.ok,fun _=>h2.cs q2⟩;exact⟨h3.ok,fun _=>h3.cs q3⟩;exact⟨h4.ok,fun _=>h4.cs q4⟩) h
  simpa[fc,or0,Vh,List.range,List.range.loop] using q⟩
