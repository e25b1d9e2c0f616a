/- Part 22. No condition. -/
import Derived.Test.YtgihkamifpmfdaaGreatDoorM13
import Derived.Test.YtgihkamifpmfdaaGreatDoorM21
namespace Go.Proofs.YtgihkamifpmfdaaGreatDoor
open Go.RowKit Tryz
set_option linter.unusedVariables false
set_option maxRecDepth 10000
set_option linter.unusedSimpArgs false
set_option maxHeartbeats 4000000
def dN (n:Nat):DD:=.lf (.int .i64 (n:Int))
theorem l9 (n:Nat):dN n=.lf (.int .i64 (n:Int)):=rfl
theorem Tv (l:List Nat):DD.vws (l.map dN)=l.map dN:=B6 (fun _=>rfl) l
theorem e5 (l:List Nat):DD.shs (l.map dN)=List.replicate l.length .one:=BN (s:=.one) (fun _=>rfl) l
def dNs (o:Bool) (l:List Nat):DD:=.sl o .one (l.map dN)
theorem Wn (o:Bool) (l:List Nat):dNs o l=.sl o .one (l.map dN):=rfl
theorem Y3 (o:Bool) (l:List (List Nat)):DD.vws (l.map (dNs o))=l.map (dNs false):=B6 (fun x=>by simp only[Wn,DD.vw,Tv]) l
theorem Yi (o:Bool) (l:List (List Nat)):DD.shs (l.map (dNs o))=List.replicate l.length .one:=BN (s:=.one) (fun _=>rfl) l
attribute [simp] l9 Tv e5 Wn Y3 Yi
def F9 (l:List Nat) (n:Nat):Bool:=decide (n∈l)
theorem TJ {l:List Nat} {n:Nat} (h:n∈l):F9 l n=true:=decide_eq_true h
theorem NY {l:List Nat} {s:Nat} {k:Nat} (h:∀j,j<k→l[j]? ≠some s) (hk:k<l.length) (hn:¬l[k]=s):∀j,j<k+1→l[j]? ≠some s:=fun j hj=>by
 rcases Nat.lt_or_ge j k with q|q
 ·exact h j q
 ·have:j=k:=by omega
  subst this
  rw[List.getElem?_eq_getElem hk];simpa using hn
theorem PG {l:List Nat} {s:Nat} (h:∀j,j<l.length→l[j]? ≠some s):F9 l s=false:=decide_eq_false fun hs=>by
 obtain⟨j,hj⟩:=List.mem_iff_getElem?.1 hs
 exact h j (List.getElem?_eq_some_iff.1 hj).1 hj
def pIx (x:A1) (s:BA'):Int:=match x.A2.findIdx? fun q=>decide (q.A5=s) with
 |some i=>(i:Int)
 |none=> -1
theorem ew {x:A1} {s:BA'} {k:Nat} (h:∀j,j<k→∀y,x.A2[j]? =some y→decide (y.A5=s)=false) (hk:k<x.A2.length) (e:x.A2[k].A5=s):pIx x s=(k:Int):=by
 have:x.A2.findIdx? (fun q=>decide (q.A5=s))=some k:=by
  rw[List.findIdx?_eq_some_iff_getElem]
  refine⟨hk,by simp[e],fun j hj=> ?_⟩
  have:=h j hj x.A2[j] (List.getElem?_eq_getElem (by omega))
  simpa using this
 unfold pIx;rw[this]
theorem en {x:A1} {s:BA'} (h:∀j,j<x.A2.length→∀y,x.A2[j]? =some y→decide (y.A5=s)=false):pIx x s= -1:=by
 have:x.A2.findIdx? (fun q=>decide (q.A5=s))=none:=by
  rw[List.findIdx?_eq_none_iff]
  intro q hq
  obtain⟨j,hj⟩:=List.mem_iff_getElem?.1 hq
  exact h j (List.getElem?_eq_some_iff.1 hj).1 q hj
 unfold pIx;rw[this]
def Dn (x:A1) (p:Nat):List BA':=match x.A2[p]? with
 |some q=>q.Ba
 |none=>[]
theorem LG {x:A1} {p:Nat} (h:p<x.A2.length):Dn x p=x.A2[p].Ba:=by unfold Dn;rw[List.getElem?_eq_getElem h]
def hit (x:A1) (A:List (List Nat)) (p k:Nat) (n:BA'):Bool:=decide (0≤pIx x n) && decide (pIx x n<(p:Int)) && F9 (A.getD (pIx x n).toNat []) k
def Ec (x:A1) (A:List (List Nat)) (p k:Nat):List Nat:=(List.range k).filter fun j=>(Dn x p).any (hit x A p j)
def Cj (x:A1):Nat→List (List Nat)
 |0=>[]
 |p+1=>Cj x p++[Ec x (Cj x p) p p++[p]]
theorem Dd (x:A1):∀p,(Cj x p).length=p
 |0=>rfl
 |p+1=>by simp[Cj,Dd x p]
theorem Iz (x:A1) (A:List (List Nat)) (p k:Nat):(Ec x A p k).length≤k:=by
 have:=List.length_filter_le (fun j=>(Dn x p).any (hit x A p j)) (List.range k)
 simpa[Ec] using this
theorem Tx {x:A1} {A:List (List Nat)} {p k:Nat} (h:(Dn x p).any (hit x A p k)=true):Ec x A p k++[k]=Ec x A p (k+1):=by
 unfold Ec;rw[List.range_succ,List.filter_append];simp[h]
theorem Y6 {x:A1} {A:List (List Nat)} {p k:Nat} (h:(Dn x p).any (hit x A p k)=false):Ec x A p (k+1)=Ec x A p k:=by
 unfold Ec;rw[List.range_succ,List.filter_append];simp[h]
theorem SF (x:A1) (A:List (List Nat)) (p:Nat):Ec x A p 0=[]:=rfl
theorem DA (x:A1):∀{p q:Nat},q<p→(Cj x p)[q]? =some (Ec x (Cj x q) q q++[q])
 |0,q,h=>by omega
 |p+1,q,h=>by
  rcases Nat.lt_or_ge q p with e|e
  ·rw[Cj,List.getElem?_append_left (by rw[Dd];omega)];exact DA x e
  ·have:q=p:=by omega
   subst this
   rw[Cj,List.getElem?_append_right (by rw[Dd];omega),Dd];simp
theorem SG (x:A1) {p:Nat} {r:List Nat} (h:r∈Cj x p):r.length≤p:=by
 obtain⟨j,hj⟩:=List.mem_iff_getElem?.1 h
 have h1:=(List.getElem?_eq_some_iff.1 hj).1
 rw[Dd] at h1
 rw[DA x h1] at hj
 cases hj
 have:=Iz x (Cj x j) j j
 simp;omega
def vis (x:A1) (i:Int):List Nat:=if 0≤i∧i<x.A2.length then (Cj x (i.toNat+1)).getD i.toNat [] else []
def Tz (x:A1) (i:Int):Bool:= !decide (0≤i∧i<x.A2.length)
theorem Je (l:List Nat) (s:Nat) (hm:l.length≤4294967296) (h:HP):CS cx.P 284 [.d (.sl false .one (l.map dN)),dI' ((s:Nat):Int)] h (dB' (F9 l s)) h:=by
 refine Ze func284 rfl 18 ?_
 refine Zw ?_
 refine W.seq ?_
 refine Zw ?_
 refine W.block ?_
 refine W.loopI [0,1] [] (fun k0=>[(5,dI' k0)]) (fun _=>[]) l.length (fun k0=>∀j,j<k0→l[j]? ≠some s) rfl (by simp) (by simp) fun k0 hk0 hi0 T hT=> ?_
 simp at hT;subst hT
 refine W.seq ?_
 refine Zw ?_
 refine Zc rfl ?_ ?_<;>intro hb0<;>try simp at hb0
 have hx:=B2 hb0 (by omega)
 refine W.skip ?_
 refine Zb ?_
 refine Zw2 ?_
 refine Zc rfl ?_ ?_<;>intro hb1<;>try simp at hb1
 have hbN:l[k0]=s:=by omega
 have hres:=TJ (hbN ▸ gm hb0:s∈l)
 refine Zw2 ?_
 refine W.ret (Zq ?_)
 simp[f284,hres]
 refine W.skip ?_
 apply Zs;intros
 iterate 3 (refine Zo ?_ (by simp[hb0,hx]<;>omega);simp[hb0,hx])
 exact Zx
 refine⟨hb0,NY hi0 hb0 (by omega),Wz.to rfl rfl rfl ?_⟩
 simp
 have hkl:k0=l.length:=by omega
 subst hkl
 have hres:=PG hi0
 refine W.exit ?_
 refine Zw ?_
 refine W.ret (Zq ?_)
 simp[f284,hres]
theorem QT (x:A1) (s:BA') (hz:x.sz≤134217728) (h:HP):CS cx.P 53 [.d (x.dd false),dS' s] h (dI' (pIx x s)) h:=by
 have hz2:=x.sz_eq;unfold szs at hz2
 refine Ze func53 rfl 22 ?_
 refine Zw ?_
 refine W.seq ?_
 refine Zw ?_
 refine W.block ?_
 refine W.loopI [1,2] [2] (fun k0=>[(5,dI' k0)]) (fun _=>[]) x.A2.length (fun k0=>∀j,j<k0→∀y,x.A2[j]? =some y→(fun q:A8=>decide (q.A5=s)) y=false) rfl (by simp) (by simp) fun k0 hk0 hi0 T hT=> ?_
 simp at hT;subst hT
 refine W.seq ?_
 refine Zw ?_
 refine Zc rfl ?_ ?_<;>intro hb0<;>try simp at hb0
 have hx:=B2 hb0 (by omega)
 refine W.skip ?_
 refine Zb ?_
 refine Zw2 ?_
 refine Zc rfl ?_ ?_<;>intro hb1<;>try simp at hb1
 have hres:=ew hi0 hb0 hb1
 refine Zw2 ?_
 refine W.ret (Zq ?_)
 simp[f53,hres]
 refine W.skip ?_
 apply Zs;intros
 iterate 3 (refine Zo ?_ (by simp[hb0,hx]<;>omega);simp[hb0,hx])
 exact Zx
 refine⟨hb0,Bv (p:=fun q:A8=>decide (q.A5=s)) hi0 hb0 (by simpa using hb1),Wz.to rfl rfl rfl ?_⟩
 simp
 have hkl:k0=x.A2.length:=by omega
 subst hkl
 have hres:=en hi0
 refine W.exit ?_
 refine Zw ?_
 refine W.ret (Zq ?_)
 simp[f53,hres]
theorem eA (x:A1) (i:Int) (hz:x.sz≤134217728) (h:HP):CS cx.P 285 [.d (x.dd false),dI' i] h (.d (.sl (Tz x i) .one ((vis x i).map dN))) h:=by
 have hz2:=x.sz_eq;unfold szs at hz2
 have hw0:=BH (n:=(x.A2.length:Int) - 1) (by omega) (by omega)
 refine Ze func285 rfl 83 ?_
 refine Zw2 ?_
 refine W.seq ?_
 apply Zr;intros
 iterate 5 (refine Zo ?_ (by simp[hw0]<;>omega);simp[hw0])
 refine Zl [] rfl func27 (Fh i 0 ((x.A2.length:Int) - 1) _) ?_ (by simp[hw0]);simp[hw0]
 refine Zo ?_ (by simp[hw0]<;>omega);simp[hw0]
 exact Zx
 refine Zc rfl ?_ ?_<;>intro hb0<;>try simp at hb0
 have hno:¬(0≤i∧i<x.A2.length):=by unfold Ap at hb0;simp at hb0;omega
 have hres:vis x i=[]:=by unfold vis;exact if_neg hno
 have hB:Tz x i=true:=by unfold Tz;simp[hno]
 refine Zw2 ?_
 refine W.ret (Zq ?_)
 simp[f285,hres,hB]
 have hin:0≤i∧i<x.A2.length:=by unfold Ap at hb0;simp at hb0;omega
 obtain⟨n,hn⟩:∃n:Nat,i=(n:Int):=⟨_,(Int.toNat_of_nonneg hin.1).symm⟩
 subst hn
 have hnl:n<x.A2.length:=by omega
 refine W.skip ?_
 refine Zw2 ?_
 refine W.seq ?_
 refine Zw2 ?_
 refine W.block ?_
 refine W.loopk [1,2] [2] (fun k0=>[(6,dI' k0),(5,.d (.sl true .one ((Cj x k0).map (dNs true))))]) (fun _=>[]) (n+1) rfl (by simp[Cj]) fun k0 hk0 T hT=> ?_
 simp at hT;subst hT
 have hvl:=Dd x k0
 refine W.seq ?_
 refine Zw2 ?_
 refine Zc rfl ?_ ?_<;>intro hb1<;>try simp at hb1
 have hkn:k0<x.A2.length:=by omega
 have hx:=B2 hkn (by omega)
 have hdy:=Ae A8.sz (gm hkn)
 have hdy2:=x.A2[k0].sz_eq;unfold szs at hdy2
 have hdp:=LG hkn
 refine W.skip ?_
 refine Zb ?_
 refine Zw2 ?_
 refine W.seq ?_
 refine Zw2 ?_
 refine W.block ?_
 refine W.loopk [1,2,5,6] [2] (fun k1=>[(8,dI' k1),(7,.d (.sl true .one ((Ec x (Cj x k0) k0 k1).map dN)))]) (fun _=>[]) k0 rfl (by simp[SF]) fun k1 hk1 T hT=> ?_
 simp at hT;subst hT
 have hol:=Iz x (Cj x k0) k0 k1
 refine W.seq ?_
 refine Zw2 ?_
 refine Zc rfl ?_ ?_<;>intro hb2<;>try simp at hb2
 have hx1:=B2 hb2 (by omega)
 refine W.skip ?_
 refine Zb ?_
 refine Zw2 ?_
 refine W.join [1,2,5,6,8] [2] [(7,.d (.sl true .one ((Ec x (Cj x k0) k0 (k1+1)).map dN)))] [] ?_ fun T hT=> ?_
 refine W.block ?_
 refine W.loopI [1,2,5,6,7,8] [2] (fun k2=>[(9,dI' k2)]) (fun _=>[]) x.A2[k0].Ba.length (fun k2=>∀j,j<k2→∀y,x.A2[k0].Ba[j]? =some y→(hit x (Cj x k0) k0 k1) y=false) rfl (by simp) (by simp) fun k2 hk2 hi2 T hT=> ?_
 simp at hT;subst hT
 refine W.seq ?_
 refine Zw2 ?_
 refine Zc rfl ?_ ?_<;>intro hb3<;>try simp at hb3
 have hx2:=B2 hb3 (by omega)
 refine W.skip ?_
 refine Zb ?_
 apply Yr rfl;intro K hK
 iterate 10 (refine Yo ?_ (by simp[hw0,hnl,hvl,hkn,hx,hol,hb2,hx1,hb3,hx2]<;>omega);simp[hw0,hnl,hvl,hkn,hx,hol,hb2,hx1,hb3,hx2])
 refine Yl [] rfl func53 (QT x x.A2[k0].Ba[k2] hz) ?_ (by simp[hw0,hnl,hvl,hkn,hx,hol,hb2,hx1,hb3,hx2]);simp[hw0,hnl,hvl,hkn,hx,hol,hb2,hx1,hb3,hx2]
 refine Yo ?_ (by simp[hw0,hnl,hvl,hkn,hx,hol,hb2,hx1,hb3,hx2]<;>omega);simp[hw0,hnl,hvl,hkn,hx,hol,hb2,hx1,hb3,hx2]
 exact DL.nil rfl hK
 refine W.seq ?_
 refine W.regJ (D:=_) [1,2,5,6,7,8,9] [2] [(67,.d (.lf (.bool (hit x (Cj x k0) k0 k1 x.A2[k0].Ba[k2]))))] [] rfl (fun _ K hD hK=> ?_) fun T hT=> ?_
 iterate 3 (refine Zo ?_ (by simp[hw0,hnl,hvl,hkn,hx,hol,hb2,hx1,hb3,hx2]<;>omega);simp[hw0,hnl,hvl,hkn,hx,hol,hb2,hx1,hb3,hx2])
 refine WL.split 55 _ rfl (fun g55=> ?_) fun g55=> ?_<;>try simp at g55
 obtain⟨j,hj⟩:∃j:Nat,pIx x x.A2[k0].Ba[k2]=(j:Int):=⟨_,(Int.toNat_of_nonneg g55).symm⟩
 simp[hw0,hnl,hvl,hkn,hx,hol,hb2,hx1,hb3,hx2,hj]
 iterate 3 (refine ZG' ?_ (by simp[hw0,hnl,hvl,hkn,hx,hol,hb2,hx1,hb3,hx2,hj]<;>omega);simp[hw0,hnl,hvl,hkn,hx,hol,hb2,hx1,hb3,hx2,hj])
 iterate 2 (refine Zo ?_ (by simp[hw0,hnl,hvl,hkn,hx,hol,hb2,hx1,hb3,hx2,hj]<;>omega);simp[hw0,hnl,hvl,hkn,hx,hol,hb2,hx1,hb3,hx2,hj])
 refine WL.split 60 _ rfl (fun g60=> ?_) fun g60=> ?_<;>try simp at g60
 have hjl:j<(Cj x k0).length:=by rw[Dd];omega
 have hje:=List.getElem?_eq_getElem hjl
 have hjq:(Cj x k0).getD (pIx x x.A2[k0].Ba[k2]).toNat []=(Cj x k0)[j]:=by rw[hj];simp[List.getD_eq_getElem?_getD,hje]
 simp[hw0,hnl,hvl,hkn,hx,hol,hb2,hx1,hb3,hx2,hj,hje]
 iterate 5 (refine ZG' ?_ (by simp[hw0,hnl,hvl,hkn,hx,hol,hb2,hx1,hb3,hx2,hj,hje]<;>omega);simp[hw0,hnl,hvl,hkn,hx,hol,hb2,hx1,hb3,hx2,hj,hje])
 refine Zk hD rfl rfl [] rfl func284 (Je (Cj x k0)[j] k1 (Nat.le_trans (SG x (gm hjl)) (by omega)) _) ?_ (by simp[hw0,hnl,hvl,hkn,hx,hol,hb2,hx1,hb3,hx2,hj,hje]);simp[hw0,hnl,hvl,hkn,hx,hol,hb2,hx1,hb3,hx2,hj,hje]
 refine Zo ?_ (by simp[hw0,hnl,hvl,hkn,hx,hol,hb2,hx1,hb3,hx2,hj,hje]<;>omega);simp[hw0,hnl,hvl,hkn,hx,hol,hb2,hx1,hb3,hx2,hj,hje]
 refine WL.nil (hK _ (Wz.to rfl rfl rfl ?_))
 simp[hit,g55,g60]<;>first|omega|grind
 have hje:True:=trivial
 simp[hw0,hnl,hvl,hkn,hx,hol,hb2,hx1,hb3,hx2,hj,hje]
 iterate 6 (refine ZN' ?_;simp[hw0,hnl,hvl,hkn,hx,hol,hb2,hx1,hb3,hx2,hj,hje])
 refine Zo ?_ (by simp[hw0,hnl,hvl,hkn,hx,hol,hb2,hx1,hb3,hx2,hj,hje]<;>omega);simp[hw0,hnl,hvl,hkn,hx,hol,hb2,hx1,hb3,hx2,hj,hje]
 refine WL.nil (hK _ (Wz.to rfl rfl rfl ?_))
 simp[hit,g55,g60]<;>first|omega|grind
 have hj:True:=trivial
 simp[hw0,hnl,hvl,hkn,hx,hol,hb2,hx1,hb3,hx2,hj]
 iterate 3 (refine ZN' ?_;simp[hw0,hnl,hvl,hkn,hx,hol,hb2,hx1,hb3,hx2,hj])
 iterate 2 (refine Zo ?_ (by simp[hw0,hnl,hvl,hkn,hx,hol,hb2,hx1,hb3,hx2,hj]<;>omega);simp[hw0,hnl,hvl,hkn,hx,hol,hb2,hx1,hb3,hx2,hj])
 iterate 6 (refine ZN' ?_;simp[hw0,hnl,hvl,hkn,hx,hol,hb2,hx1,hb3,hx2,hj])
 refine Zo ?_ (by simp[hw0,hnl,hvl,hkn,hx,hol,hb2,hx1,hb3,hx2,hj]<;>omega);simp[hw0,hnl,hvl,hkn,hx,hol,hb2,hx1,hb3,hx2,hj]
 refine WL.nil (hK _ (Wz.to rfl rfl rfl ?_))
 simp[hit,g55]<;>first|omega|grind
 simp at hT;subst hT
 refine Zc rfl ?_ ?_<;>intro hb4<;>try simp at hb4
 have hany:=Fp (p:=hit x (Cj x k0) k0 k1) hb3 (by simpa using hb4)
 rw[←hdp] at hany
 have hso:=Tx hany
 have hs:=congrArg (List.map dN) hso
 simp at hs
 apply Zr;intros
 refine Zm [68] ?_ (by simp[hw0,hnl,hvl,hkn,hx,hol,hb2,hx1,hb3,hx2]<;>omega);simp[hw0,hnl,hvl,hkn,hx,hol,hb2,hx1,hb3,hx2]
 iterate 4 (refine Zo ?_ (by simp[hw0,hnl,hvl,hkn,hx,hol,hb2,hx1,hb3,hx2]<;>omega);simp[hw0,hnl,hvl,hkn,hx,hol,hb2,hx1,hb3,hx2])
 exact Zx
 refine W.exit ?_
 refine Wz.to rfl rfl rfl ?_
 simp[hs]
 refine W.skip ?_
 apply Zs;intros
 iterate 3 (refine Zo ?_ (by simp[hw0,hnl,hvl,hkn,hx,hol,hb2,hx1,hb3,hx2]<;>omega);simp[hw0,hnl,hvl,hkn,hx,hol,hb2,hx1,hb3,hx2])
 exact Zx
 refine⟨hb3,Bv (p:=hit x (Cj x k0) k0 k1) hi2 hb3 (by simpa using hb4),Wz.to rfl rfl rfl ?_⟩
 simp
 have hkl:k2=x.A2[k0].Ba.length:=by omega
 subst hkl
 have hany:=HQ hi2
 rw[←hdp] at hany
 have hso:=Y6 hany
 have hs:=congrArg (List.map dN) hso
 refine W.exit ?_
 refine Wz.to rfl rfl rfl ?_
 simp[hs]
 simp at hT;subst hT
 apply Zs;intros
 iterate 3 (refine Zo ?_ (by simp[hw0,hnl,hvl,hkn,hx,hol,hb2,hx1]<;>omega);simp[hw0,hnl,hvl,hkn,hx,hol,hb2,hx1])
 exact Zx
 refine⟨hb2,Wz.to rfl rfl rfl ?_⟩
 simp
 have hkl:k1=k0:=by omega
 subst hkl
 refine W.exit ?_
 apply Zs;intros
 refine Zm [72] ?_ (by simp[hw0,hnl,hvl,hkn,hx,hol]<;>omega);simp[hw0,hnl,hvl,hkn,hx,hol]
 refine Zm [73] ?_ (by simp[hw0,hnl,hvl,hkn,hx,hol]<;>omega);simp[hw0,hnl,hvl,hkn,hx,hol]
 iterate 6 (refine Zo ?_ (by simp[hw0,hnl,hvl,hkn,hx,hol]<;>omega);simp[hw0,hnl,hvl,hkn,hx,hol])
 exact Zx
 apply Zs;intros
 iterate 3 (refine Zo ?_ (by simp[hw0,hnl,hvl,hkn,hx,hol]<;>omega);simp[hw0,hnl,hvl,hkn,hx,hol])
 exact Zx
 refine⟨(by omega),Wz.to rfl rfl rfl ?_⟩
 simp[Cj]
 have hkl:k0=n+1:=by omega
 subst hkl
 have hB:Tz x (n:Int)=false:=by unfold Tz;simp[hnl]
 have hvn:n<(Cj x (n+1)).length:=by rw[Dd];omega
 have hres:vis x (n:Int)=(Cj x (n+1))[n]:=by unfold vis;rw[if_pos (by omega)];simp[List.getD_eq_getElem?_getD,List.getElem?_eq_getElem hvn]
 refine W.exit ?_
 apply Zr;intros
 iterate 3 (refine Zo ?_ (by simp[hw0,hnl,hvl,hvn]<;>omega);simp[hw0,hnl,hvl,hvn])
 refine Zm [82] ?_ (by simp[hw0,hnl,hvl,hvn]<;>omega);simp[hw0,hnl,hvl,hvn]
 refine Zo ?_ (by simp[hw0,hnl,hvl,hvn]<;>omega);simp[hw0,hnl,hvl,hvn]
 exact Zx
 refine W.ret (Zq ?_)
 simp[f285,hres,hB]
theorem AN:(∀x:A0,(⟨x.AH,x.A5,x.AB⟩:A0)=x)∧(∀x:A9,(⟨x.AK,x.AM⟩:A9)=x)∧∀x:AG,(⟨x.AH,x.AK,x.A5,x.fN,x.AM,x.AB,x.Af⟩:AG)=x:=⟨fun x=>by cases x;rfl,fun x=>by cases x;rfl,fun x=>by cases x;rfl⟩
def zTr:AU:=⟨⟨#[]⟩,[],false,false,[]⟩
def zDa:AF:=⟨⟨#[]⟩,[],[]⟩
def zFn:AL:=⟨⟨#[]⟩,[],[],[],zT,zX⟩
def zSi:AC:=⟨⟨#[]⟩,[],zT,false,[],zX⟩
def zMe:AY:=⟨⟨#[]⟩,[],zX⟩
def zIn:AJ:=⟨⟨#[]⟩,[],zT,[],false,false,zT,[]⟩
def byF {α:Type} (g:α→BA') (s:BA') (i:Nat) (x:α):Option (α×Nat):=if g x=s then some (x,i) else none
def byN {α:Type} (g:α→BA') (s:BA') (l:List α):Option (α×Nat):=fs (byF g s) 0 l
def nmF {α:Type} (g:α→BA') (s:BA') (i _:Nat) (x:α):Option (α×Nat):=if g x=s then some (x,i) else none
def inF {α:Type} (r:A8→List α) (g:α→BA') (s:BA') (i:Nat) (p:A8):Option (α×Nat):=fs (nmF g s i) 0 (r p)
def inP {α:Type} (r:A8→List α) (g:α→BA') (w:A1) (s:BA'):Option (α×Nat):=fs (inF r g s) 0 w.A2
def DX {α:Type} (z:α):Option (α×Nat)→α×Nat×Bool
  |some (x,i)=>(x,i,true)
  |none=>(z,0,false)
def trR (w:A1) (s:BA'):AU×Nat×Bool:=DX zTr (inP A8.Aj AU.A5 w s)
def daR (w:A1) (s:BA'):AF×Nat×Bool:=DX zDa (inP A8.AE AF.A5 w s)
def fnR (w:A1) (s:BA'):AL×Nat×Bool:=DX zFn (inP A8.Ad AL.A5 w s)
def ctF (s:BA') (d:AF) (j:Nat) (c:AA):Option (AF×Nat):=if c.A5=s then some (d,j) else none
def ctG (s:BA') (_:Nat) (d:AF):Option (AF×Nat):=fs (ctF s d) 0 d.A4
def ctH (s:BA') (_:Nat) (p:A8):Option (AF×Nat):=fs (ctG s) 0 p.AE
def ctR (w:A1) (s:BA'):AF×Nat×Bool:=DX zDa (fs (ctH s) 0 w.A2)
def siR (t:AU) (s:BA'):AC×Nat×Bool:=DX zSi (byN AC.A5 s t.AW)
def meR (x:AJ) (s:BA'):AY×Nat×Bool:=DX zMe (byN AY.A5 s x.Ar)
def trV (w:A1) (V:List Nat) (s:BA'):Bool:=(trR w s).2.2 && F9 V (trR w s).2.1
def daV (w:A1) (V:List Nat) (s:BA'):Bool:=(daR w s).2.2 && F9 V (daR w s).2.1
def fnV (w:A1) (V:List Nat) (s:BA'):Bool:=(fnR w s).2.2 && F9 V (fnR w s).2.1
def ctV (w:A1) (V:List Nat) (s:BA'):Bool:=(ctR w s).2.2 && F9 V (daR w (ctR w s).1.A5).2.1
def Ej:BA':=⟨#[115,101,108,102]⟩
def aR (t:AU):Bool:= !t.B4 && !(t.AW.any fun g=>decide (0<occ Ej g.B9)||g.Am.any fun p=>decide (0<occ Ej p))
def ckD (w:A1) (V:List Nat) (s:BA'):Int:=if trV w V s then (if aR (trR w s).1 then 0 else 5) else 3
def ckH (w:A1) (V:List Nat) (k:Int) (s:BA') (n:Nat):Int:=
  if k=1 then 0
  else if k=2 then (if Cq s then 0 else if daV w V s then (if (daR w s).1.Aa.length=n then 0 else 2) else 1)
  else if k=3 then (if trV w V s then (if (trR w s).1.B4 then 0 else 4) else 3)
  else if k=4 then ckD w V s
  else 1
mutual
def ckT (w:A1) (V:List Nat):A0→Int
  |⟨k,s,l⟩=>if ckH w V k s l.length=0 then aj w V l else ckH w V k s l.length
def aj (w:A1) (V:List Nat):List A0→Int
  |[]=>0
  |x::l=>if ckT w V x=0 then aj w V l else ckT w V x
end
def fc {α:Type} (f:α→Int):List α→Int
  |[]=>0
  |x::l=>if f x=0 then fc f l else f x
theorem Rm (w:A1) (V:List Nat):∀l,aj w V l=fc (ckT w V) l
  |[]=>rfl
  |x::l=>by simp only[aj,fc,Rm w V l]
theorem EF (w:A1) (V:List Nat) (x:A0):ckT w V x=if ckH w V x.AH x.A5 x.AB.length=0 then fc (ckT w V) x.AB else ckH w V x.AH x.A5 x.AB.length:=by
  cases x;simp only[ckT,Rm]
def ckB (w:A1) (V:List Nat) (b:A9):Int:=if trV w V b.AK then ckT w V b.AM else 3
def c1 (a:List Ac) (c:AA):Bool:=match byN Ac.AZ c.A5 a with
  |some (x,_)=>decide (x.Aa.length=c.Av.length)
  |none=>false
def Jr (d:AF) (a:List Ac):Bool:=d.A4.all (c1 a) && dst (d.A4.map AA.A5) && decide (a.length=d.A4.length)
def FQ (w:A1) (V:List Nat) (e:AG):Int:=
  if e.AH=4 then (if fnV w V e.A5 && decide ((fnR w e.A5).1.Am.length=e.AB.length) then 0 else 9)
  else if e.AH=5 then (if trV w V e.AK then (if (siR (trR w e.AK).1 e.A5).2.2 && decide ((siR (trR w e.AK).1 e.A5).1.Am.length+1=e.AB.length) then 0 else 6) else 3)
  else if e.AH=6 then (if ctV w V e.A5 then (if (((ctR w e.A5).1.A4[(ctR w e.A5).2.1]?).map fun c=>c.Av.length)=some e.AB.length then 0 else 2) else 1)
  else if e.AH = 7 then (match e.Af with
    |[]=>1
    |a::_=>if ctV w V a.AZ then (if Jr (ctR w a.AZ).1 e.Af then 0 else 2) else 1)
  else if e.AH=11 then ckD w V e.AK
  else if e.AH=12 then ckT w V e.AM
  else 0
mutual
def ckE (w:A1) (V:List Nat):AG→Int
  |⟨k,t,s,n,ty,l,a⟩=>if FQ w V ⟨k,t,s,n,ty,l,a⟩=0 then (if X9 w V l=0 then am w V a else X9 w V l) else FQ w V ⟨k,t,s,n,ty,l,a⟩
def X9 (w:A1) (V:List Nat):List AG→Int
  |[]=>0
  |x::l=>if ckE w V x=0 then X9 w V l else ckE w V x
def am (w:A1) (V:List Nat):List Ac→Int
  |[]=>0
  |⟨_,_,x⟩::l=>if ckE w V x=0 then am w V l else ckE w V x
end
theorem Rn (w:A1) (V:List Nat):∀l,X9 w V l=fc (ckE w V) l
  |[]=>rfl
  |x::l=>by simp only[X9,fc,Rn w V l]
theorem Ro (w:A1) (V:List Nat):∀l,am w V l=fc (fun a:Ac=>ckE w V a.Ab) l
  |[]=>rfl
  |⟨_,_,x⟩::l=>by simp only[am,fc,Ro w V l]
theorem ge (w:A1) (V:List Nat) (e:AG):ckE w V e=if FQ w V e=0 then (if fc (ckE w V) e.AB=0 then fc (fun a:Ac=>ckE w V a.Ab) e.Af else fc (ckE w V) e.AB) else FQ w V e:=by
  cases e;simp only[ckE,Rn,Ro]
def or0 (a b:Int):Int:=if a=0 then b else a
def FC (w:A1) (V:List Nat) (t:AU):Int:=
  or0 (fc (fun s=>if trV w V s then (if (trR w s).1.CP then 7 else 0) else 3) t.Aq)
    (fc (fun g:AC=>or0 (fc (ckT w V) g.Am) (or0 (ckT w V g.B9) (if g.BS then ckE w V g.Ab else 0))) t.AW)
def Fo (w:A1) (V:List Nat) (d:AF):Int:=fc (fun c:AA=>fc (ckT w V) c.Av) d.A4
def Cy (t:AU) (x:AJ):Bool:=(x.Ar.all fun m=>(siR t m.A5).2.2 && decide ((siR t m.A5).1.Am.length+1=m.Aa.length)) && t.AW.all fun g=>g.BS||(meR x g.A5).2.2
def I2 (w:A1) (V:List Nat) (x:AJ):Int:=
  if trV w V x.AK then (if (trR w x.AK).1.CP then 7 else
    or0 (ckT w V x.At) (or0 (fc (ckB w V) x.Ah) (or0 (if x.BT=(trR w x.AK).1.B4 then (if x.BT then ckT w V x.B4 else 0) else 4) (or0 (if Cy (trR w x.AK).1 x then 0 else 6) (fc (fun m:AY=>ckE w V m.Ab) x.Ar))))) else 3
def TT (w:A1) (V:List Nat) (f:AL):Int:=or0 (fc (ckB w V) f.Ah) (or0 (fc (fun p:AX=>ckT w V p.AM) f.Am) (or0 (ckT w V f.B9) (ckE w V f.Ab)))
theorem Y7 {x:A1} {A:List (List Nat)} {p k n:Nat} (h:n∈Ec x A p k):n<k:=by
  unfold Ec at h
  have:=(List.mem_filter.1 h).1
  simpa using this
theorem mG {x:A1} {i:Int}:∀n∈vis x i,n<x.A2.length:=fun n hn=>by
  unfold vis at hn
  split at hn
  · rename_i h
    have hq:i.toNat<i.toNat+1:=by omega
    rw[List.getD_eq_getElem?_getD,DA x hq] at hn
    simp only[Option.getD_some,List.mem_append,List.mem_singleton] at hn
    rcases hn with q|q
    · have:=Y7 q;omega
    · omega
  · simp at hn
theorem Y5 {x:A1} {i:Int}:(vis x i).length≤x.A2.length:=by
  unfold vis
  split
  · rename_i h
    have hq:i.toNat<i.toNat+1:=by omega
    rw[List.getD_eq_getElem?_getD,DA x hq]
    have:=Iz x (Cj x i.toNat) i.toNat i.toNat
    simp;omega
  · simp
theorem Dm {α β:Type} {f:Nat→α→Option β} {b:β}:∀{l:List α} {i:Nat},fs f i l=some b→∃x∈l,∃j,f j x=some b
 |[],_,h=>by simp[fs] at h
 |x::l,i,h=>by
  rw[fs] at h
  cases hx:f i x with
  |some y=>rw[hx] at h;exact⟨x,by simp,i,by rw[hx];exact h⟩
  |none=>
    rw[hx] at h
    obtain⟨y,h1,h2⟩:=Dm h
    exact⟨y,by simp[h1],h2⟩
theorem M4 {α:Type} {r:A8→List α} {g:α→BA'} {w:A1} {s:BA'} {x:α} {i:Nat} (h:inP r g w s=some (x,i)):(∃p∈w.A2,x∈r p)∧g x=s:=by
  obtain⟨p,hp,j,h1⟩:=Dm h
  obtain⟨y,hy,k,h2⟩:=Dm h1
  unfold nmF at h2
  split at h2
  · rename_i e;cases h2;exact⟨⟨p,hp,hy⟩,e⟩
  · cases h2
theorem szP {α:Type} {r:A8→List α} {f:α→Nat} {w:A1} (hr:∀p:A8,szL f (r p)≤p.sz) {p:A8} (hp:p∈w.A2) {x:α} (hx:x∈r p):f x≤w.sz:=by
  have h1:=Ae f hx
  have h2:=hr p
  have h3:=Ae A8.sz hp
  have h4:=w.sz_eq
  unfold szs at h4
  omega
theorem RO {α:Type} {r:A8→List α} {g:α→BA'} {f:α→Nat} {z:α} (hz:f z=0) (hr:∀p:A8,szL f (r p)≤p.sz) (w:A1) (s:BA'):f (DX z (inP r g w s)).1≤w.sz:=by
  cases h:inP r g w s with
  |none=>simp[DX,hz]
  |some x=>
    obtain⟨x,i⟩:=x
    obtain⟨⟨p,hp,hx⟩, -⟩:=M4 h
    exact szP hr hp hx
theorem EV (w:A1) (s:BA'):(trR w s).1.sz≤w.sz:=RO (f:=AU.sz) rfl (fun p=>by have:=p.sz_eq;unfold szs at this;omega) w s
theorem PU (w:A1) (s:BA'):(daR w s).1.sz≤w.sz:=RO (f:=AF.sz) rfl (fun p=>by have:=p.sz_eq;unfold szs at this;omega) w s
theorem gV (w:A1) (s:BA'):(ctR w s).1.sz≤w.sz:=by
  unfold ctR
  cases h:fs (ctH s) 0 w.A2 with
  |none=>exact Nat.zero_le _
  |some x=>
    obtain⟨p,hp,j,h1⟩:=Dm h
    obtain⟨d,hd,k,h2⟩:=Dm h1
    obtain⟨c,hc,q,h3⟩:=Dm h2
    unfold ctF at h3
    split at h3
    · cases h3
      exact szP (f:=AF.sz) (r:=A8.AE) (fun p=>by have:=p.sz_eq;unfold szs at this;omega) hp hd
    · cases h3

