/- Part 20. No condition. -/
import Derived.Test.YtdooklofebdknaaGreatM17
import Derived.Test.YtdooklofebdknaaGreatM19
namespace Go.Proofs.YtdooklofebdknaaGreat
open Go.RowKit Tryz
set_option linter.unusedVariables false
set_option maxRecDepth 10000
set_option linter.unusedSimpArgs false
set_option maxHeartbeats 4000000
def La (v:ByteArray) (k:Int) (n:ByteArray):Nat:=if k=1∧n=v then 1 else 0
def IE (v:ByteArray) (x:A0) (k:Nat):Nat:=La v x.AH x.A6+DV v (x.AB.take k)
theorem N8 (v:ByteArray):∀a b:List A0,DV v (a++b)=DV v a+DV v b
 |[],b=>by simp[DV]
 |x::a,b=>by simp only[List.cons_append,DV,N8 v a b];omega
mutual
theorem Ul (v:ByteArray):∀x:A0,occ v x≤AQ x
 |⟨k,n,l⟩=>by
  have:=LY v l
  simp only[occ,AQ];split<;>omega
theorem LY (v:ByteArray):∀l:List A0,DV v l≤Ae l
 |[]=>by simp[DV,Ae]
 |x::l=>by simp only[DV,Ae];have:=Ul v x;have:=LY v l;omega
end
theorem SF (v:ByteArray) (x:A0):IE v x 0=La v x.AH x.A6:=by simp[IE,DV]
theorem SG (v:ByteArray) (x:A0):IE v x x.AB.length=occ v x:=by cases x;simp[IE,occ,La]
theorem YF {v:ByteArray} {x:A0} {k:Nat} (h:k<x.AB.length):IE v x (k+1)=IE v x k+occ v x.AB[k]:=by
 unfold IE
 rw[Y' h,N8];simp[DV];omega
theorem YG (v:ByteArray) (x:A0) (k:Nat):IE v x k≤DE x.AB k:=by
 have:=LY v (x.AB.take k)
 unfold IE La DE;split<;>omega
theorem co (x:A0) (v:ByteArray) (hz:x.sz≤134217728) (hc:∀y∈x.AB,∀h,CS cx.P 280 [.d (y.dd false),.d (.lf (.string v))] h (.d (.lf (.int .i64 ((occ v y:Nat):Int)))) h) (h:HP):CS cx.P 280 [.d (x.dd false),.d (.lf (.string v))] h (.d (.lf (.int .i64 ((occ v x:Nat):Int)))) h:=by
 have hz2:=x.sz_eq;unfold szs at hz2
 have hts:=DF x
 refine Ze func280 rfl 33 ?_
 apply Zr;intros
 iterate 2 (refine Zo ?_;simp)
 exact Zx
 apply Zr;intros
 refine Zo ?_;simp
 exact Zx
 refine W.seq ?_
 refine W.seq ?_
 refine W.regJ (D:=_) [1,2,5] [2] [(15,.d (.lf (.bool (decide (x.AH=1) && decide (x.A6=v)))))] [] rfl (fun _ K hD hK=> ?_) fun T hT=> ?_
 iterate 4 (refine Zo ?_;simp)
 refine WL.split 10 _ rfl (fun g10=> ?_) fun g10=> ?_<;>try simp at g10
 simp
 iterate 4 (refine Zg hD rfl rfl ?_;simp)
 refine Zo ?_;simp
 refine WL.nil (hK _ (Wz.to rfl rfl rfl ?_))
 simp[g10]
 simp
 iterate 4 (refine Zn hD rfl rfl ?_;simp)
 refine Zo ?_;simp
 refine WL.nil (hK _ (Wz.to rfl rfl rfl ?_))
 simp[g10]
 simp at hT;subst hT
 refine W.join [1,2] [2] [(5,.d (.lf (.int .i64 ((La v x.AH x.A6:Nat):Int))))] [] ?_ fun T hT=> ?_
 refine Zc rfl ?_ ?_<;>intro hb0<;>try simp at hb0
 have ht:La v x.AH x.A6=1:=by unfold La;exact if_pos hb0
 apply Zs;intros
 refine Zo ?_;simp
 exact Zx
 refine Wz.to rfl rfl rfl ?_
 simp[ht]
 have ht:La v x.AH x.A6=0:=by unfold La;exact if_neg (by simpa using hb0)
 refine W.skip ?_
 refine Wz.to rfl rfl rfl ?_
 simp[ht]
 simp at hT;subst hT
 refine W.seq ?_
 apply Zr;intros
 refine Zo ?_;simp
 exact Zx
 refine W.block ?_
 refine W.loopk [1,2] [2] (fun k0=>[(6,.d (.lf (.int .i64 (k0:Int)))),(5,.d (.lf (.int .i64 ((IE v x k0:Nat):Int))))]) (fun _=>[]) x.AB.length rfl (by simp[SF]) fun k0 hk0 T hT=> ?_
 simp at hT;subst hT
 refine W.seq ?_
 apply Zr;intros
 iterate 5 (refine Zo ?_;simp)
 exact Zx
 refine Zc rfl ?_ ?_<;>intro hb1<;>try simp at hb1
 have hx:=B1 hb1 (by omega)
 have hw:IntKind.i64.wrap ((IE v x k0:Int)+(occ v x.AB[k0]:Int))=(IE v x (k0+1):Int):=by have h1:=YF (v:=v) hb1;have h2:=YG v x (k0+1);have h3:=IP x (k0+1);rw[BF (by omega) (by omega)];omega
 refine W.skip ?_
 refine Zb ?_
 apply Zs;intros
 iterate 7 (refine Zo ?_ (by simp[hb1,hx,hw]<;>omega);simp[hb1,hx,hw])
 refine Zl [] rfl func280 (hc x.AB[k0] (gm hb1) _) ?_ (by simp[hb1,hx,hw]);simp[hb1,hx,hw]
 iterate 2 (refine Zo ?_ (by simp[hb1,hx,hw]<;>omega);simp[hb1,hx,hw])
 exact Zx
 apply Zs;intros
 iterate 3 (refine Zo ?_ (by simp[hb1,hx,hw]<;>omega);simp[hb1,hx,hw])
 exact Zx
 refine⟨hb1,Wz.to rfl rfl rfl ?_⟩
 simp
 have hkl:k0=x.AB.length:=by omega
 subst hkl
 have hres:=SG v x
 refine W.exit ?_
 apply Zr;intros
 iterate 2 (refine Zo ?_;simp)
 exact Zx
 refine W.ret (Zq ?_)
 simp[f280,hres]
theorem Oa (x:A0) (v:ByteArray) (hz:x.sz≤134217728) (h:HP):CS cx.P 280 [.d (x.dd false),.d (.lf (.string v))] h (.d (.lf (.int .i64 ((occ v x:Nat):Int)))) h:=co x v hz (fun y hy h=>Oa y v (by have h1:=Ah A0.sz hy;have h2:=x.sz_eq;unfold szs at h2;omega) h) h
termination_by SizeOf.sizeOf x
decreasing_by have:=List.sizeOf_lt_of_mem hy;have:=x.lt_fArgs;omega
theorem KX (v:ByteArray) (x:A0) (hz:x.sz≤134217728) (h:HP):CS cx.P 233 [.d (.lf (.string v)),.d (x.dd false)] h (.d (.lf (.bool (decide (0<occ v x))))) h:=by
 refine Ze func233 rfl 9 ?_
 apply Zr;intros
 iterate 2 (refine Zo ?_;simp)
 exact Zx
 apply Zr;intros
 iterate 2 (refine Zo ?_;simp)
 refine Zl [] rfl func280 (Oa x v hz _) ?_;simp
 iterate 2 (refine Zo ?_;simp)
 exact Zx
 refine W.ret (Zq ?_)
 simp[f233]
def dN (n:Nat):DD:=.lf (.int .i64 (n:Int))
theorem jO (n:Nat):dN n=.lf (.int .i64 (n:Int)):=rfl
theorem TL (l:List Nat):DD.vws (l.map dN)=l.map dN:=B5 (fun _=>rfl) l
theorem cU (l:List Nat):DD.shs (l.map dN)=List.replicate l.length .one:=BM (s:=.one) (fun _=>rfl) l
def dNs (o:Bool) (l:List Nat):DD:=.sl o .one (l.map dN)
theorem W2 (o:Bool) (l:List Nat):dNs o l=.sl o .one (l.map dN):=rfl
theorem Wv (o:Bool) (l:List (List Nat)):DD.vws (l.map (dNs o))=l.map (dNs false):=B5 (fun x=>by simp only[W2,DD.vw,TL]) l
theorem Xt (o:Bool) (l:List (List Nat)):DD.shs (l.map (dNs o))=List.replicate l.length .one:=BM (s:=.one) (fun _=>rfl) l
attribute [simp] jO TL cU W2 Wv Xt
def F7 (l:List Nat) (n:Nat):Bool:=decide (n∈l)
theorem Sb {l:List Nat} {n:Nat} (h:n∈l):F7 l n=true:=decide_eq_true h
theorem NB {l:List Nat} {s:Nat} {k:Nat} (h:∀j,j<k→l[j]? ≠some s) (hk:k<l.length) (hn:¬l[k]=s):∀j,j<k+1→l[j]? ≠some s:=fun j hj=>by
 rcases Nat.lt_or_ge j k with q|q
 ·exact h j q
 ·have:j=k:=by omega
  subst this
  rw[List.getElem?_eq_getElem hk];simpa using hn
theorem Oq {l:List Nat} {s:Nat} (h:∀j,j<l.length→l[j]? ≠some s):F7 l s=false:=decide_eq_false fun hs=>by
 obtain⟨j,hj⟩:=List.mem_iff_getElem?.1 hs
 exact h j (List.getElem?_eq_some_iff.1 hj).1 hj
def pIx (x:A1) (s:ByteArray):Int:=match x.A2.findIdx? fun q=>decide (q.A6=s) with
 |some i=>(i:Int)
 |none=> -1
theorem dK {x:A1} {s:ByteArray} {k:Nat} (h:∀j,j<k→∀y,x.A2[j]? =some y→decide (y.A6=s)=false) (hk:k<x.A2.length) (e:x.A2[k].A6=s):pIx x s=(k:Int):=by
 have:x.A2.findIdx? (fun q=>decide (q.A6=s))=some k:=by
  rw[List.findIdx?_eq_some_iff_getElem]
  refine⟨hk,by simp[e],fun j hj=> ?_⟩
  have:=h j hj x.A2[j] (List.getElem?_eq_getElem (by omega))
  simpa using this
 unfold pIx;rw[this]
theorem dH {x:A1} {s:ByteArray} (h:∀j,j<x.A2.length→∀y,x.A2[j]? =some y→decide (y.A6=s)=false):pIx x s= -1:=by
 have:x.A2.findIdx? (fun q=>decide (q.A6=s))=none:=by
  rw[List.findIdx?_eq_none_iff]
  intro q hq
  obtain⟨j,hj⟩:=List.mem_iff_getElem?.1 hq
  exact h j (List.getElem?_eq_some_iff.1 hj).1 q hj
 unfold pIx;rw[this]
def Dl (x:A1) (p:Nat):List ByteArray:=match x.A2[p]? with
 |some q=>q.BZ
 |none=>[]
theorem Kt {x:A1} {p:Nat} (h:p<x.A2.length):Dl x p=x.A2[p].BZ:=by unfold Dl;rw[List.getElem?_eq_getElem h]
def hit (x:A1) (A:List (List Nat)) (p k:Nat) (n:ByteArray):Bool:=decide (0≤pIx x n) && decide (pIx x n<(p:Int)) && F7 (A.getD (pIx x n).toNat []) k
def Ea (x:A1) (A:List (List Nat)) (p k:Nat):List Nat:=(List.range k).filter fun j=>(Dl x p).any (hit x A p j)
def Ch (x:A1):Nat→List (List Nat)
 |0=>[]
 |p+1=>Ch x p++[Ea x (Ch x p) p p++[p]]
theorem Db (x:A1):∀p,(Ch x p).length=p
 |0=>rfl
 |p+1=>by simp[Ch,Db x p]
theorem Ij (x:A1) (A:List (List Nat)) (p k:Nat):(Ea x A p k).length≤k:=by
 have:=List.length_filter_le (fun j=>(Dl x p).any (hit x A p j)) (List.range k)
 simpa[Ea] using this
theorem TN {x:A1} {A:List (List Nat)} {p k:Nat} (h:(Dl x p).any (hit x A p k)=true):Ea x A p k++[k]=Ea x A p (k+1):=by
 unfold Ea;rw[List.range_succ,List.filter_append];simp[h]
theorem Wy {x:A1} {A:List (List Nat)} {p k:Nat} (h:(Dl x p).any (hit x A p k)=false):Ea x A p (k+1)=Ea x A p k:=by
 unfold Ea;rw[List.range_succ,List.filter_append];simp[h]
theorem Rg (x:A1) (A:List (List Nat)) (p:Nat):Ea x A p 0=[]:=rfl
theorem D9 (x:A1):∀{p q:Nat},q<p→(Ch x p)[q]? =some (Ea x (Ch x q) q q++[q])
 |0,q,h=>by omega
 |p+1,q,h=>by
  rcases Nat.lt_or_ge q p with e|e
  ·rw[Ch,List.getElem?_append_left (by rw[Db];omega)];exact D9 x e
  ·have:q=p:=by omega
   subst this
   rw[Ch,List.getElem?_append_right (by rw[Db];omega),Db];simp
theorem Rh (x:A1) {p:Nat} {r:List Nat} (h:r∈Ch x p):r.length≤p:=by
 obtain⟨j,hj⟩:=List.mem_iff_getElem?.1 h
 have h1:=(List.getElem?_eq_some_iff.1 hj).1
 rw[Db] at h1
 rw[D9 x h1] at hj
 cases hj
 have:=Ij x (Ch x j) j j
 simp;omega
def vis (x:A1) (i:Int):List Nat:=if 0≤i∧i<x.A2.length then (Ch x (i.toNat+1)).getD i.toNat [] else []
def TO (x:A1) (i:Int):Bool:= !decide (0≤i∧i<x.A2.length)
theorem JJ (l:List Nat) (s:Nat) (hm:l.length≤4294967296) (h:HP):CS cx.P 236 [.d (.sl false .one (l.map dN)),.d (.lf (.int .i64 ((s:Nat):Int)))] h (.d (.lf (.bool (F7 l s)))) h:=by
 refine Ze func236 rfl 18 ?_
 apply Zr;intros
 refine Zo ?_;simp
 exact Zx
 refine W.seq ?_
 apply Zr;intros
 refine Zo ?_;simp
 exact Zx
 refine W.block ?_
 refine W.loopI [0,1] [] (fun k0=>[(5,.d (.lf (.int .i64 (k0:Int))))]) (fun _=>[]) l.length (fun k0=>∀j,j<k0→l[j]? ≠some s) rfl (by simp) (by simp) fun k0 hk0 hi0 T hT=> ?_
 simp at hT;subst hT
 refine W.seq ?_
 apply Zr;intros
 iterate 4 (refine Zo ?_;simp)
 exact Zx
 refine Zc rfl ?_ ?_<;>intro hb0<;>try simp at hb0
 have hx:=B1 hb0 (by omega)
 refine W.skip ?_
 refine Zb ?_
 apply Zr;intros
 iterate 6 (refine Zo ?_ (by simp[hb0,hx]<;>omega);simp[hb0,hx])
 exact Zx
 refine Zc rfl ?_ ?_<;>intro hb1<;>try simp at hb1
 have hbN:l[k0]=s:=by omega
 have hres:=Sb (hbN ▸ gm hb0:s∈l)
 apply Zr;intros
 refine Zo ?_ (by simp[hb0,hx]<;>omega);simp[hb0,hx]
 exact Zx
 refine W.ret (Zq ?_)
 simp[f236,hres]
 refine W.skip ?_
 apply Zs;intros
 iterate 3 (refine Zo ?_ (by simp[hb0,hx]<;>omega);simp[hb0,hx])
 exact Zx
 refine⟨hb0,NB hi0 hb0 (by omega),Wz.to rfl rfl rfl ?_⟩
 simp
 have hkl:k0=l.length:=by omega
 subst hkl
 have hres:=Oq hi0
 refine W.exit ?_
 apply Zr;intros
 refine Zo ?_;simp
 exact Zx
 refine W.ret (Zq ?_)
 simp[f236,hres]
theorem Q4 (x:A1) (s:ByteArray) (hz:x.sz≤134217728) (h:HP):CS cx.P 37 [.d (x.dd false),.d (.lf (.string s))] h (.d (.lf (.int .i64 (pIx x s)))) h:=by
 have hz2:=x.sz_eq;unfold szs at hz2
 refine Ze func37 rfl 22 ?_
 apply Zr;intros
 iterate 2 (refine Zo ?_;simp)
 exact Zx
 refine W.seq ?_
 apply Zr;intros
 refine Zo ?_;simp
 exact Zx
 refine W.block ?_
 refine W.loopI [1,2] [2] (fun k0=>[(5,.d (.lf (.int .i64 (k0:Int))))]) (fun _=>[]) x.A2.length (fun k0=>∀j,j<k0→∀y,x.A2[j]? =some y→(fun q:A8=>decide (q.A6=s)) y=false) rfl (by simp) (by simp) fun k0 hk0 hi0 T hT=> ?_
 simp at hT;subst hT
 refine W.seq ?_
 apply Zr;intros
 iterate 5 (refine Zo ?_;simp)
 exact Zx
 refine Zc rfl ?_ ?_<;>intro hb0<;>try simp at hb0
 have hx:=B1 hb0 (by omega)
 refine W.skip ?_
 refine Zb ?_
 apply Zr;intros
 iterate 8 (refine Zo ?_ (by simp[hb0,hx]<;>omega);simp[hb0,hx])
 exact Zx
 refine Zc rfl ?_ ?_<;>intro hb1<;>try simp at hb1
 have hres:=dK hi0 hb0 hb1
 apply Zr;intros
 iterate 2 (refine Zo ?_ (by simp[hb0,hx]<;>omega);simp[hb0,hx])
 exact Zx
 refine W.ret (Zq ?_)
 simp[f37,hres]
 refine W.skip ?_
 apply Zs;intros
 iterate 3 (refine Zo ?_ (by simp[hb0,hx]<;>omega);simp[hb0,hx])
 exact Zx
 refine⟨hb0,Bv (p:=fun q:A8=>decide (q.A6=s)) hi0 hb0 (by simpa using hb1),Wz.to rfl rfl rfl ?_⟩
 simp
 have hkl:k0=x.A2.length:=by omega
 subst hkl
 have hres:=dH hi0
 refine W.exit ?_
 apply Zr;intros
 refine Zo ?_;simp
 exact Zx
 refine W.ret (Zq ?_)
 simp[f37,hres]
theorem ca (x:A1) (i:Int) (hz:x.sz≤134217728) (h:HP):CS cx.P 237 [.d (x.dd false),.d (.lf (.int .i64 (i)))] h (.d (.sl (TO x i) .one ((vis x i).map dN))) h:=by
 have hz2:=x.sz_eq;unfold szs at hz2
 have hw0:=BF (n:=(x.A2.length:Int) - 1) (by omega) (by omega)
 refine Ze func237 rfl 83 ?_
 apply Zr;intros
 iterate 2 (refine Zo ?_ (by simp[hw0]<;>omega);simp[hw0])
 exact Zx
 refine W.seq ?_
 apply Zr;intros
 iterate 5 (refine Zo ?_ (by simp[hw0]<;>omega);simp[hw0])
 refine Zl [] rfl func38 (Fe i 0 ((x.A2.length:Int) - 1) _) ?_ (by simp[hw0]);simp[hw0]
 refine Zo ?_ (by simp[hw0]<;>omega);simp[hw0]
 exact Zx
 refine Zc rfl ?_ ?_<;>intro hb0<;>try simp at hb0
 have hno:¬(0≤i∧i<x.A2.length):=by unfold Ay at hb0;simp at hb0;omega
 have hres:vis x i=[]:=by unfold vis;exact if_neg hno
 have hB:TO x i=true:=by unfold TO;simp[hno]
 apply Zr;intros
 iterate 2 (refine Zo ?_ (by simp[hw0]<;>omega);simp[hw0])
 exact Zx
 refine W.ret (Zq ?_)
 simp[f237,hres,hB]
 have hin:0≤i∧i<x.A2.length:=by unfold Ay at hb0;simp at hb0;omega
 obtain⟨n,hn⟩:∃n:Nat,i=(n:Int):=⟨_,(Int.toNat_of_nonneg hin.1).symm⟩
 subst hn
 have hnl:n<x.A2.length:=by omega
 refine W.skip ?_
 apply Zr;intros
 iterate 2 (refine Zo ?_ (by simp[hw0,hnl]<;>omega);simp[hw0,hnl])
 exact Zx
 refine W.seq ?_
 apply Zr;intros
 refine Zo ?_ (by simp[hw0,hnl]<;>omega);simp[hw0,hnl]
 exact Zx
 refine W.block ?_
 refine W.loopk [1,2] [2] (fun k0=>[(6,.d (.lf (.int .i64 (k0:Int)))),(5,.d (.sl true .one ((Ch x k0).map (dNs true))))]) (fun _=>[]) (n+1) rfl (by simp[Ch]) fun k0 hk0 T hT=> ?_
 simp at hT;subst hT
 have hvl:=Db x k0
 refine W.seq ?_
 apply Zr;intros
 iterate 3 (refine Zo ?_ (by simp[hw0,hnl,hvl]<;>omega);simp[hw0,hnl,hvl])
 exact Zx
 refine Zc rfl ?_ ?_<;>intro hb1<;>try simp at hb1
 have hkn:k0<x.A2.length:=by omega
 have hx:=B1 hkn (by omega)
 have hdy:=Ah A8.sz (gm hkn)
 have hdy2:=x.A2[k0].sz_eq;unfold szs at hdy2
 have hdp:=Kt hkn
 refine W.skip ?_
 refine Zb ?_
 apply Zr;intros
 iterate 2 (refine Zo ?_ (by simp[hw0,hnl,hvl,hkn,hx]<;>omega);simp[hw0,hnl,hvl,hkn,hx])
 exact Zx
 refine W.seq ?_
 apply Zr;intros
 refine Zo ?_ (by simp[hw0,hnl,hvl,hkn,hx]<;>omega);simp[hw0,hnl,hvl,hkn,hx]
 exact Zx
 refine W.block ?_
 refine W.loopk [1,2,5,6] [2] (fun k1=>[(8,.d (.lf (.int .i64 (k1:Int)))),(7,.d (.sl true .one ((Ea x (Ch x k0) k0 k1).map dN)))]) (fun _=>[]) k0 rfl (by simp[Rg]) fun k1 hk1 T hT=> ?_
 simp at hT;subst hT
 have hol:=Ij x (Ch x k0) k0 k1
 refine W.seq ?_
 apply Zr;intros
 iterate 3 (refine Zo ?_ (by simp[hw0,hnl,hvl,hkn,hx,hol]<;>omega);simp[hw0,hnl,hvl,hkn,hx,hol])
 exact Zx
 refine Zc rfl ?_ ?_<;>intro hb2<;>try simp at hb2
 have hx1:=B1 hb2 (by omega)
 refine W.skip ?_
 refine Zb ?_
 apply Zr;intros
 refine Zo ?_ (by simp[hw0,hnl,hvl,hkn,hx,hol,hb2,hx1]<;>omega);simp[hw0,hnl,hvl,hkn,hx,hol,hb2,hx1]
 exact Zx
 refine W.join [1,2,5,6,8] [2] [(7,.d (.sl true .one ((Ea x (Ch x k0) k0 (k1+1)).map dN)))] [] ?_ fun T hT=> ?_
 refine W.block ?_
 refine W.loopI [1,2,5,6,7,8] [2] (fun k2=>[(9,.d (.lf (.int .i64 (k2:Int))))]) (fun _=>[]) x.A2[k0].BZ.length (fun k2=>∀j,j<k2→∀y,x.A2[k0].BZ[j]? =some y→(hit x (Ch x k0) k0 k1) y=false) rfl (by simp) (by simp) fun k2 hk2 hi2 T hT=> ?_
 simp at hT;subst hT
 refine W.seq ?_
 apply Zr;intros
 iterate 9 (refine Zo ?_ (by simp[hw0,hnl,hvl,hkn,hx,hol,hb2,hx1]<;>omega);simp[hw0,hnl,hvl,hkn,hx,hol,hb2,hx1])
 exact Zx
 refine Zc rfl ?_ ?_<;>intro hb3<;>try simp at hb3
 have hx2:=B1 hb3 (by omega)
 refine W.skip ?_
 refine Zb ?_
 apply Yr rfl;intro K hK
 iterate 10 (refine Yo ?_ (by simp[hw0,hnl,hvl,hkn,hx,hol,hb2,hx1,hb3,hx2]<;>omega);simp[hw0,hnl,hvl,hkn,hx,hol,hb2,hx1,hb3,hx2])
 refine Yl [] rfl func37 (Q4 x x.A2[k0].BZ[k2] hz) ?_ (by simp[hw0,hnl,hvl,hkn,hx,hol,hb2,hx1,hb3,hx2]);simp[hw0,hnl,hvl,hkn,hx,hol,hb2,hx1,hb3,hx2]
 refine Yo ?_ (by simp[hw0,hnl,hvl,hkn,hx,hol,hb2,hx1,hb3,hx2]<;>omega);simp[hw0,hnl,hvl,hkn,hx,hol,hb2,hx1,hb3,hx2]
 exact DL.nil rfl hK
 refine W.seq ?_
 refine W.regJ (D:=_) [1,2,5,6,7,8,9] [2] [(67,.d (.lf (.bool (hit x (Ch x k0) k0 k1 x.A2[k0].BZ[k2]))))] [] rfl (fun _ K hD hK=> ?_) fun T hT=> ?_
 iterate 3 (refine Zo ?_ (by simp[hw0,hnl,hvl,hkn,hx,hol,hb2,hx1,hb3,hx2]<;>omega);simp[hw0,hnl,hvl,hkn,hx,hol,hb2,hx1,hb3,hx2])
 refine WL.split 55 _ rfl (fun g55=> ?_) fun g55=> ?_<;>try simp at g55
 obtain⟨j,hj⟩:∃j:Nat,pIx x x.A2[k0].BZ[k2]=(j:Int):=⟨_,(Int.toNat_of_nonneg g55).symm⟩
 simp[hw0,hnl,hvl,hkn,hx,hol,hb2,hx1,hb3,hx2,hj]
 iterate 3 (refine Zg hD rfl rfl ?_ (by simp[hw0,hnl,hvl,hkn,hx,hol,hb2,hx1,hb3,hx2,hj]<;>omega);simp[hw0,hnl,hvl,hkn,hx,hol,hb2,hx1,hb3,hx2,hj])
 iterate 2 (refine Zo ?_ (by simp[hw0,hnl,hvl,hkn,hx,hol,hb2,hx1,hb3,hx2,hj]<;>omega);simp[hw0,hnl,hvl,hkn,hx,hol,hb2,hx1,hb3,hx2,hj])
 refine WL.split 60 _ rfl (fun g60=> ?_) fun g60=> ?_<;>try simp at g60
 have hjl:j<(Ch x k0).length:=by rw[Db];omega
 have hje:=List.getElem?_eq_getElem hjl
 have hjq:(Ch x k0).getD (pIx x x.A2[k0].BZ[k2]).toNat []=(Ch x k0)[j]:=by rw[hj];simp[List.getD_eq_getElem?_getD,hje]
 simp[hw0,hnl,hvl,hkn,hx,hol,hb2,hx1,hb3,hx2,hj,hje]
 iterate 5 (refine Zg hD rfl rfl ?_ (by simp[hw0,hnl,hvl,hkn,hx,hol,hb2,hx1,hb3,hx2,hj,hje]<;>omega);simp[hw0,hnl,hvl,hkn,hx,hol,hb2,hx1,hb3,hx2,hj,hje])
 refine Zk hD rfl rfl [] rfl func236 (JJ (Ch x k0)[j] k1 (Nat.le_trans (Rh x (gm hjl)) (by omega)) _) ?_ (by simp[hw0,hnl,hvl,hkn,hx,hol,hb2,hx1,hb3,hx2,hj,hje]);simp[hw0,hnl,hvl,hkn,hx,hol,hb2,hx1,hb3,hx2,hj,hje]
 refine Zo ?_ (by simp[hw0,hnl,hvl,hkn,hx,hol,hb2,hx1,hb3,hx2,hj,hje]<;>omega);simp[hw0,hnl,hvl,hkn,hx,hol,hb2,hx1,hb3,hx2,hj,hje]
 refine WL.nil (hK _ (Wz.to rfl rfl rfl ?_))
 simp[hit,g55,g60]<;>first|omega|grind
 have hje:True:=trivial
 simp[hw0,hnl,hvl,hkn,hx,hol,hb2,hx1,hb3,hx2,hj,hje]
 iterate 6 (refine Zn hD rfl rfl ?_;simp[hw0,hnl,hvl,hkn,hx,hol,hb2,hx1,hb3,hx2,hj,hje])
 refine Zo ?_ (by simp[hw0,hnl,hvl,hkn,hx,hol,hb2,hx1,hb3,hx2,hj,hje]<;>omega);simp[hw0,hnl,hvl,hkn,hx,hol,hb2,hx1,hb3,hx2,hj,hje]
 refine WL.nil (hK _ (Wz.to rfl rfl rfl ?_))
 simp[hit,g55,g60]<;>first|omega|grind
 have hj:True:=trivial
 simp[hw0,hnl,hvl,hkn,hx,hol,hb2,hx1,hb3,hx2,hj]
 iterate 3 (refine Zn hD rfl rfl ?_;simp[hw0,hnl,hvl,hkn,hx,hol,hb2,hx1,hb3,hx2,hj])
 iterate 2 (refine Zo ?_ (by simp[hw0,hnl,hvl,hkn,hx,hol,hb2,hx1,hb3,hx2,hj]<;>omega);simp[hw0,hnl,hvl,hkn,hx,hol,hb2,hx1,hb3,hx2,hj])
 iterate 6 (refine Zn hD rfl rfl ?_;simp[hw0,hnl,hvl,hkn,hx,hol,hb2,hx1,hb3,hx2,hj])
 refine Zo ?_ (by simp[hw0,hnl,hvl,hkn,hx,hol,hb2,hx1,hb3,hx2,hj]<;>omega);simp[hw0,hnl,hvl,hkn,hx,hol,hb2,hx1,hb3,hx2,hj]
 refine WL.nil (hK _ (Wz.to rfl rfl rfl ?_))
 simp[hit,g55]<;>first|omega|grind
 simp at hT;subst hT
 refine Zc rfl ?_ ?_<;>intro hb4<;>try simp at hb4
 have hany:=Fm (p:=hit x (Ch x k0) k0 k1) hb3 (by simpa using hb4)
 rw[←hdp] at hany
 have hso:=TN hany
 have hs:=congrArg (List.map dN) hso
 simp at hs
 apply Zr;intros
 refine Zm [68] ?_ (by simp[hw0,hnl,hvl,hkn,hx,hol,hb2,hx1,hb3,hx2]<;>omega);simp[hw0,hnl,hvl,hkn,hx,hol,hb2,hx1,hb3,hx2]
 iterate 4 (refine Zo ?_ (by simp[hw0,hnl,hvl,hkn,hx,hol,hb2,hx1,hb3,hx2]<;>omega);simp[hw0,hnl,hvl,hkn,hx,hol,hb2,hx1,hb3,hx2])
 exact Zx
 refine W.exit ?_
 refine Wz.to rfl rfl rfl ?_
 simp[hs]
 refine W.skip ?_
 apply Zs;intros
 iterate 3 (refine Zo ?_ (by simp[hw0,hnl,hvl,hkn,hx,hol,hb2,hx1,hb3,hx2]<;>omega);simp[hw0,hnl,hvl,hkn,hx,hol,hb2,hx1,hb3,hx2])
 exact Zx
 refine⟨hb3,Bv (p:=hit x (Ch x k0) k0 k1) hi2 hb3 (by simpa using hb4),Wz.to rfl rfl rfl ?_⟩
 simp
 have hkl:k2=x.A2[k0].BZ.length:=by omega
 subst hkl
 have hany:=HG hi2
 rw[←hdp] at hany
 have hso:=Wy hany
 have hs:=congrArg (List.map dN) hso
 refine W.exit ?_
 refine Wz.to rfl rfl rfl ?_
 simp[hs]
 simp at hT;subst hT
 apply Zs;intros
 iterate 3 (refine Zo ?_ (by simp[hw0,hnl,hvl,hkn,hx,hol,hb2,hx1]<;>omega);simp[hw0,hnl,hvl,hkn,hx,hol,hb2,hx1])
 exact Zx
 refine⟨hb2,Wz.to rfl rfl rfl ?_⟩
 simp
 have hkl:k1=k0:=by omega
 subst hkl
 refine W.exit ?_
 apply Zs;intros
 refine Zm [72] ?_ (by simp[hw0,hnl,hvl,hkn,hx,hol]<;>omega);simp[hw0,hnl,hvl,hkn,hx,hol]
 refine Zm [73] ?_ (by simp[hw0,hnl,hvl,hkn,hx,hol]<;>omega);simp[hw0,hnl,hvl,hkn,hx,hol]
 iterate 6 (refine Zo ?_ (by simp[hw0,hnl,hvl,hkn,hx,hol]<;>omega);simp[hw0,hnl,hvl,hkn,hx,hol])
 exact Zx
 apply Zs;intros
 iterate 3 (refine Zo ?_ (by simp[hw0,hnl,hvl,hkn,hx,hol]<;>omega);simp[hw0,hnl,hvl,hkn,hx,hol])
 exact Zx
 refine⟨(by omega),Wz.to rfl rfl rfl ?_⟩
 simp[Ch]
 have hkl:k0=n+1:=by omega
 subst hkl
 have hB:TO x (n:Int)=false:=by unfold TO;simp[hnl]
 have hvn:n<(Ch x (n+1)).length:=by rw[Db];omega
 have hres:vis x (n:Int)=(Ch x (n+1))[n]:=by unfold vis;rw[if_pos (by omega)];simp[List.getD_eq_getElem?_getD,List.getElem?_eq_getElem hvn]
 refine W.exit ?_
 apply Zr;intros
 iterate 3 (refine Zo ?_ (by simp[hw0,hnl,hvl,hvn]<;>omega);simp[hw0,hnl,hvl,hvn])
 refine Zm [82] ?_ (by simp[hw0,hnl,hvl,hvn]<;>omega);simp[hw0,hnl,hvl,hvn]
 refine Zo ?_ (by simp[hw0,hnl,hvl,hvn]<;>omega);simp[hw0,hnl,hvl,hvn]
 exact Zx
 refine W.ret (Zq ?_)
 simp[f237,hres,hB]
theorem AN:(∀x:A0,(⟨x.AH,x.A6,x.AB⟩:A0)=x)∧(∀x:A9,(⟨x.AK,x.AM⟩:A9)=x)∧∀x:AG,(⟨x.AH,x.AK,x.A6,x.fN,x.AM,x.AB,x.Ad⟩:AG)=x:=⟨fun x=>by cases x;rfl,fun x=>by cases x;rfl,fun x=>by cases x;rfl⟩
def zTr:AS:=⟨⟨#[]⟩,[],false,false,[]⟩
def zDa:AF:=⟨⟨#[]⟩,[],[]⟩
def zFn:AL:=⟨⟨#[]⟩,[],[],[],zT,zX⟩
def zSi:AC:=⟨⟨#[]⟩,[],zT,false,[],zX⟩
def zMe:AX:=⟨⟨#[]⟩,[],zX⟩
def zIn:AJ:=⟨⟨#[]⟩,[],zT,[],false,false,zT,[]⟩
def byF {α:Type} (g:α→ByteArray) (s:ByteArray) (i:Nat) (x:α):Option (α×Nat):=if g x=s then some (x,i) else none
def byN {α:Type} (g:α→ByteArray) (s:ByteArray) (l:List α):Option (α×Nat):=fs (byF g s) 0 l
def nmF {α:Type} (g:α→ByteArray) (s:ByteArray) (i _:Nat) (x:α):Option (α×Nat):=if g x=s then some (x,i) else none
def inF {α:Type} (r:A8→List α) (g:α→ByteArray) (s:ByteArray) (i:Nat) (p:A8):Option (α×Nat):=fs (nmF g s i) 0 (r p)
def inP {α:Type} (r:A8→List α) (g:α→ByteArray) (w:A1) (s:ByteArray):Option (α×Nat):=fs (inF r g s) 0 w.A2
def DW {α:Type} (z:α):Option (α×Nat)→α×Nat×Bool
  |some (x,i)=>(x,i,true)
  |none=>(z,0,false)
def trR (w:A1) (s:ByteArray):AS×Nat×Bool:=DW zTr (inP A8.Ai AS.A6 w s)
def daR (w:A1) (s:ByteArray):AF×Nat×Bool:=DW zDa (inP A8.AE AF.A6 w s)
def fnR (w:A1) (s:ByteArray):AL×Nat×Bool:=DW zFn (inP A8.Ac AL.A6 w s)
def ctF (s:ByteArray) (d:AF) (j:Nat) (c:AA):Option (AF×Nat):=if c.A6=s then some (d,j) else none
def ctG (s:ByteArray) (_:Nat) (d:AF):Option (AF×Nat):=fs (ctF s d) 0 d.A4
def ctH (s:ByteArray) (_:Nat) (p:A8):Option (AF×Nat):=fs (ctG s) 0 p.AE
def ctR (w:A1) (s:ByteArray):AF×Nat×Bool:=DW zDa (fs (ctH s) 0 w.A2)
def siR (t:AS) (s:ByteArray):AC×Nat×Bool:=DW zSi (byN AC.A6 s t.AU)
def meR (x:AJ) (s:ByteArray):AX×Nat×Bool:=DW zMe (byN AX.A6 s x.Ap)
def trV (w:A1) (V:List Nat) (s:ByteArray):Bool:=(trR w s).2.2 && F7 V (trR w s).2.1
def daV (w:A1) (V:List Nat) (s:ByteArray):Bool:=(daR w s).2.2 && F7 V (daR w s).2.1
def fnV (w:A1) (V:List Nat) (s:ByteArray):Bool:=(fnR w s).2.2 && F7 V (fnR w s).2.1
def ctV (w:A1) (V:List Nat) (s:ByteArray):Bool:=(ctR w s).2.2 && F7 V (daR w (ctR w s).1.A6).2.1
def Eh:ByteArray:=⟨#[115,101,108,102]⟩
def ZC (t:AS):Bool:= !t.B3 && !(t.AU.any fun g=>decide (0<occ Eh g.B8)||g.Al.any fun p=>decide (0<occ Eh p))
def ckD (w:A1) (V:List Nat) (s:ByteArray):Int:=if trV w V s then (if ZC (trR w s).1 then 0 else 5) else 3
def ckH (w:A1) (V:List Nat) (k:Int) (s:ByteArray) (n:Nat):Int:=
  if k=1 then 0
  else if k=2 then (if Cp s then 0 else if daV w V s then (if (daR w s).1.AZ.length=n then 0 else 2) else 1)
  else if k=3 then (if trV w V s then (if (trR w s).1.B3 then 0 else 4) else 3)
  else if k=4 then ckD w V s
  else 1
mutual
def ckT (w:A1) (V:List Nat):A0→Int
  |⟨k,s,l⟩=>if ckH w V k s l.length=0 then ZR w V l else ckH w V k s l.length
def ZR (w:A1) (V:List Nat):List A0→Int
  |[]=>0
  |x::l=>if ckT w V x=0 then ZR w V l else ckT w V x
end
def fc {α:Type} (f:α→Int):List α→Int
  |[]=>0
  |x::l=>if f x=0 then fc f l else f x
theorem RC (w:A1) (V:List Nat):∀l,ZR w V l=fc (ckT w V) l
  |[]=>rfl
  |x::l=>by simp only[ZR,fc,RC w V l]
theorem ED (w:A1) (V:List Nat) (x:A0):ckT w V x=if ckH w V x.AH x.A6 x.AB.length=0 then fc (ckT w V) x.AB else ckH w V x.AH x.A6 x.AB.length:=by
  cases x;simp only[ckT,RC]
def ckB (w:A1) (V:List Nat) (b:A9):Int:=if trV w V b.AK then ckT w V b.AM else 3
def c1 (a:List Ab) (c:AA):Bool:=match byN Ab.AY c.A6 a with
  |some (x,_)=>decide (x.AZ.length=c.At.length)
  |none=>false
def JY (d:AF) (a:List Ab):Bool:=d.A4.all (c1 a) && dst (d.A4.map AA.A6) && decide (a.length=d.A4.length)
def FN (w:A1) (V:List Nat) (e:AG):Int:=
  if e.AH=4 then (if fnV w V e.A6 && decide ((fnR w e.A6).1.Al.length=e.AB.length) then 0 else 9)
  else if e.AH=5 then (if trV w V e.AK then (if (siR (trR w e.AK).1 e.A6).2.2 && decide ((siR (trR w e.AK).1 e.A6).1.Al.length+1=e.AB.length) then 0 else 6) else 3)
  else if e.AH=6 then (if ctV w V e.A6 then (if (((ctR w e.A6).1.A4[(ctR w e.A6).2.1]?).map fun c=>c.At.length)=some e.AB.length then 0 else 2) else 1)
  else if e.AH = 7 then (match e.Ad with
    |[]=>1
    |a::_=>if ctV w V a.AY then (if JY (ctR w a.AY).1 e.Ad then 0 else 2) else 1)
  else if e.AH=11 then ckD w V e.AK
  else if e.AH=12 then ckT w V e.AM
  else 0
mutual
def ckE (w:A1) (V:List Nat):AG→Int
  |⟨k,t,s,n,ty,l,a⟩=>if FN w V ⟨k,t,s,n,ty,l,a⟩=0 then (if WH w V l=0 then ZT w V a else WH w V l) else FN w V ⟨k,t,s,n,ty,l,a⟩
def WH (w:A1) (V:List Nat):List AG→Int
  |[]=>0
  |x::l=>if ckE w V x=0 then WH w V l else ckE w V x
def ZT (w:A1) (V:List Nat):List Ab→Int
  |[]=>0
  |⟨_,_,x⟩::l=>if ckE w V x=0 then ZT w V l else ckE w V x
end
theorem RD (w:A1) (V:List Nat):∀l,WH w V l=fc (ckE w V) l
  |[]=>rfl
  |x::l=>by simp only[WH,fc,RD w V l]
theorem RH (w:A1) (V:List Nat):∀l,ZT w V l=fc (fun a:Ab=>ckE w V a.Aa) l
  |[]=>rfl
  |⟨_,_,x⟩::l=>by simp only[ZT,fc,RH w V l]
theorem f9 (w:A1) (V:List Nat) (e:AG):ckE w V e=if FN w V e=0 then (if fc (ckE w V) e.AB=0 then fc (fun a:Ab=>ckE w V a.Aa) e.Ad else fc (ckE w V) e.AB) else FN w V e:=by
  cases e;simp only[ckE,RD,RH]
def or0 (a b:Int):Int:=if a=0 then b else a
def FA (w:A1) (V:List Nat) (t:AS):Int:=
  or0 (fc (fun s=>if trV w V s then (if (trR w s).1.CP then 7 else 0) else 3) t.Ao)
    (fc (fun g:AC=>or0 (fc (ckT w V) g.Al) (or0 (ckT w V g.B8) (if g.BR then ckE w V g.Aa else 0))) t.AU)
def Fl (w:A1) (V:List Nat) (d:AF):Int:=fc (fun c:AA=>fc (ckT w V) c.At) d.A4
def Cv (t:AS) (x:AJ):Bool:=(x.Ap.all fun m=>(siR t m.A6).2.2 && decide ((siR t m.A6).1.Al.length+1=m.AZ.length)) && t.AU.all fun g=>g.BR||(meR x g.A6).2.2
def Hq (w:A1) (V:List Nat) (x:AJ):Int:=
  if trV w V x.AK then (if (trR w x.AK).1.CP then 7 else
    or0 (ckT w V x.Ar) (or0 (fc (ckB w V) x.Af) (or0 (if x.BS=(trR w x.AK).1.B3 then (if x.BS then ckT w V x.B3 else 0) else 4) (or0 (if Cv (trR w x.AK).1 x then 0 else 6) (fc (fun m:AX=>ckE w V m.Aa) x.Ap))))) else 3
def So (w:A1) (V:List Nat) (f:AL):Int:=or0 (fc (ckB w V) f.Af) (or0 (fc (fun p:AW=>ckT w V p.AM) f.Al) (or0 (ckT w V f.B8) (ckE w V f.Aa)))
theorem X0 {x:A1} {A:List (List Nat)} {p k n:Nat} (h:n∈Ea x A p k):n<k:=by
  unfold Ea at h
  have:=(List.mem_filter.1 h).1
  simpa using this
theorem kQ {x:A1} {i:Int}:∀n∈vis x i,n<x.A2.length:=fun n hn=>by
  unfold vis at hn
  split at hn
  · rename_i h
    have hq:i.toNat<i.toNat+1:=by omega
    rw[List.getD_eq_getElem?_getD,D9 x hq] at hn
    simp only[Option.getD_some,List.mem_append,List.mem_singleton] at hn
    rcases hn with q|q
    · have:=X0 q;omega
    · omega
  · simp at hn
theorem Wx {x:A1} {i:Int}:(vis x i).length≤x.A2.length:=by
  unfold vis
  split
  · rename_i h
    have hq:i.toNat<i.toNat+1:=by omega
    rw[List.getD_eq_getElem?_getD,D9 x hq]
    have:=Ij x (Ch x i.toNat) i.toNat i.toNat
    simp;omega
  · simp
theorem Dk {α β:Type} {f:Nat→α→Option β} {b:β}:∀{l:List α} {i:Nat},fs f i l=some b→∃x∈l,∃j,f j x=some b
 |[],_,h=>by simp[fs] at h
 |x::l,i,h=>by
  rw[fs] at h
  cases hx:f i x with
  |some y=>rw[hx] at h;exact⟨x,by simp,i,by rw[hx];exact h⟩
  |none=>
    rw[hx] at h
    obtain⟨y,h1,h2⟩:=Dk h
    exact⟨y,by simp[h1],h2⟩
theorem Lh {α:Type} {r:A8→List α} {g:α→ByteArray} {w:A1} {s:ByteArray} {x:α} {i:Nat} (h:inP r g w s=some (x,i)):(∃p∈w.A2,x∈r p)∧g x=s:=by
  obtain⟨p,hp,j,h1⟩:=Dk h
  obtain⟨y,hy,k,h2⟩:=Dk h1
  unfold nmF at h2
  split at h2
  · rename_i e;cases h2;exact⟨⟨p,hp,hy⟩,e⟩
  · cases h2
theorem szP {α:Type} {r:A8→List α} {f:α→Nat} {w:A1} (hr:∀p:A8,szL f (r p)≤p.sz) {p:A8} (hp:p∈w.A2) {x:α} (hx:x∈r p):f x≤w.sz:=by
  have h1:=Ah f hx
  have h2:=hr p
  have h3:=Ah A8.sz hp
  have h4:=w.sz_eq
  unfold szs at h4
  omega
theorem Qr {α:Type} {r:A8→List α} {g:α→ByteArray} {f:α→Nat} {z:α} (hz:f z=0) (hr:∀p:A8,szL f (r p)≤p.sz) (w:A1) (s:ByteArray):f (DW z (inP r g w s)).1≤w.sz:=by
  cases h:inP r g w s with
  |none=>simp[DW,hz]
  |some x=>
    obtain⟨x,i⟩:=x
    obtain⟨⟨p,hp,hx⟩, -⟩:=Lh h
    exact szP hr hp hx
theorem ET (w:A1) (s:ByteArray):(trR w s).1.sz≤w.sz:=Qr (f:=AS.sz) rfl (fun p=>by have:=p.sz_eq;unfold szs at this;omega) w s
theorem P4 (w:A1) (s:ByteArray):(daR w s).1.sz≤w.sz:=Qr (f:=AF.sz) rfl (fun p=>by have:=p.sz_eq;unfold szs at this;omega) w s
theorem en (w:A1) (s:ByteArray):(ctR w s).1.sz≤w.sz:=by
  unfold ctR
  cases h:fs (ctH s) 0 w.A2 with
  |none=>exact Nat.zero_le _
  |some x=>
    obtain⟨p,hp,j,h1⟩:=Dk h
    obtain⟨d,hd,k,h2⟩:=Dk h1
    obtain⟨c,hc,q,h3⟩:=Dk h2
    unfold ctF at h3
    split at h3
    · cases h3
      exact szP (f:=AF.sz) (r:=A8.AE) (fun p=>by have:=p.sz_eq;unfold szs at this;omega) hp hd
    · cases h3
