/- Part 14. No condition. -/
import Derived.Test.YtgihkamifpmfdaaGreatDoorM12
namespace Go.Proofs.YtgihkamifpmfdaaGreatDoor
open Go.RowKit Tryz
set_option linter.unusedVariables false
set_option maxRecDepth 10000
set_option linter.unusedSimpArgs false
set_option maxHeartbeats 4000000
def CT {α:Type} (l:List α) (p:α→Bool):Int:=match l.findIdx? p with
 |some i=>(i:Int)
 |none=> -1
theorem EO {α:Type} {l:List α} {p:α→Bool} {k:Nat} (h:∀j,j<k→∀y,l[j]? =some y→p y=false) (hk:k<l.length) (e:p l[k]=true):CT l p=(k:Int):=by
 have:l.findIdx? p=some k:=by
  rw[List.findIdx?_eq_some_iff_getElem]
  refine⟨hk,e,fun j hj=> ?_⟩
  rw[h j hj l[j] (List.getElem?_eq_getElem (by omega))];simp
 unfold CT;rw[this]
theorem EN {α:Type} {l:List α} {p:α→Bool} (h:∀j,j<l.length→∀y,l[j]? =some y→p y=false):CT l p= -1:=by
 have:l.findIdx? p=none:=by
  rw[List.findIdx?_eq_none_iff]
  intro x hx
  obtain⟨j,hj⟩:=List.mem_iff_getElem?.1 hx
  exact h j (List.getElem?_eq_some_iff.1 hj).1 x hj
 unfold CT;rw[this]
theorem BR {α:Type} (l:List α) (p:α→Bool):decide (0≤CT l p)=l.any p:=by
 unfold CT
 cases h:l.findIdx? p with
 |none=>
  rw[List.findIdx?_eq_none_iff] at h
  have:l.any p=false:=by rw[List.any_eq_false];intro x hx;simp[h x hx]
  rw[this];rfl
 |some i=>
  rw[List.findIdx?_eq_some_iff_getElem] at h
  obtain⟨h1,h2, -⟩:=h
  have:l.any p=true:=List.any_eq_true.2 ⟨l[i],gm h1,h2⟩
  rw[this];simp
theorem Bv {α:Type} {l:List α} {p:α→Bool} {k:Nat} (h:∀j,j<k→∀y,l[j]? =some y→p y=false) (hk:k<l.length) (hn:p l[k]=false):∀j,j<k+1→∀y,l[j]? =some y→p y=false:=fun j hj y hy=>by
 rcases Nat.lt_or_ge j k with q|q
 ·exact h j q y hy
 ·have:j=k:=by omega
  subst this
  rw[List.getElem?_eq_getElem hk] at hy
  cases hy;exact hn
theorem Ib (l:List A0) (hm:l.length≤134217728) (g:Nat) (fn:Func) (body:Code) (hg:CU cx.P g fn body) (p:A0→Bool) (hp:∀y∈l,∀h,CS cx.P g [.d (y.dd false)] h (dB' (p y)) h) (h:HP):CS cx.P 373 [.d (.sl false Ai (l.map (A0.dd false))),.fn g []] h (dI' (CT l p)) h:=by
 refine Ze func373 rfl 19 ?_
 refine Zw ?_
 refine W.seq ?_
 refine Zw ?_
 refine W.block ?_
 refine W.loopI [0,1,7] [] (fun k0=>[(8,dI' k0)]) (fun _=>[]) l.length (fun k0=>∀j,j<k0→∀y,l[j]? =some y→p y=false) rfl (by simp) (by simp) fun k0 hk0 hi0 T hT=> ?_
 simp at hT;subst hT
 refine Zw ?_
 refine Zv rfl ?_ ?_<;>intro hb0<;>try simp at hb0
 have hx:=B2 hb0 (by omega)
 refine W.skip ?_
 refine Zb ?_
 refine Zw2 ?_
 apply Zr;intros
 iterate 5 (refine Zo ?_ (by simp[hb0,hx]<;>omega);simp[hb0,hx])
 refine WL.call [] _ _ _ rfl rfl (by simp) (g:=g) (caps:=[]) (by simp) (by simp) hg rfl (by simp[hb0,hx]) (by simp) (by simp[hb0,hx]) (hp l[k0] (gm hb0) _) rfl ?_;simp[hb0,hx]
 exact Zx
 refine Zc rfl ?_ ?_<;>intro hb1<;>try simp at hb1
 have hres:=EO hi0 hb0 hb1
 refine Zw2 ?_
 refine W.ret (Zq ?_)
 simp[f373,hres]
 refine W.skip ?_
 apply Zs;intros
 iterate 2 (refine Zo ?_ (by simp[hb0,hx]<;>omega);simp[hb0,hx])
 exact Zx
 refine⟨hb0,Bv hi0 hb0 hb1,Wz.to rfl rfl rfl ?_⟩
 simp
 have hkl:k0=l.length:=by omega
 subst hkl
 have hres:=EN hi0
 refine W.exit ?_
 refine Zw ?_
 refine W.ret (Zq ?_)
 simp[f373,hres]
theorem GM (l:List A0) (hm:l.length≤134217728) (g:Nat) (fn:Func) (body:Code) (hg:CU cx.P g fn body) (p:A0→Bool) (hp:∀y∈l,∀h,CS cx.P g [.d (y.dd false)] h (dB' (p y)) h) (h:HP):CS cx.P 313 [.d (.sl false Ai (l.map (A0.dd false))),.fn g []] h (dB' (l.any p)) h:=by
 refine Ze func313 rfl 9 ?_
 refine Zw ?_
 apply Zr;intros
 iterate 2 (refine Zo ?_;simp)
 refine Zl [] rfl func373 (Ib l hm g fn body hg p hp _) ?_;simp
 iterate 2 (refine Zo ?_;simp)
 exact Zx
 refine W.ret (Zq ?_)
 simp[f313, ←BR]
def Jh (l:List BA') (s:BA'):Int:=match l.findIdx? fun x=>decide (x=s) with
 |some i=>(i:Int)
 |none=> -1
theorem ZV {l:List BA'} {s:BA'} {k:Nat} (h:∀j,j<k→l[j]? ≠some s) (hk:k<l.length) (e:l[k]=s):Jh l s=(k:Int):=by
 have:l.findIdx? (fun x=>decide (x=s))=some k:=by
  rw[List.findIdx?_eq_some_iff_getElem]
  refine⟨hk,by simp[e],fun j hj=> ?_⟩
  have:=h j hj
  rw[List.getElem?_eq_getElem (by omega)] at this
  simpa using this
 unfold Jh;rw[this]
theorem ZT {l:List BA'} {s:BA'} (h:s∉l):Jh l s= -1:=by
 have:l.findIdx? (fun x=>decide (x=s))=none:=by
  rw[List.findIdx?_eq_none_iff]
  intro x hx
  have:x≠s:=fun e=>h (e ▸ hx)
  simpa using this
 unfold Jh;rw[this]
theorem Nm (l:List BA') (s:BA'):decide (0≤Jh l s)=B7 l s:=by
 unfold Jh
 cases h:l.findIdx? fun x=>decide (x=s) with
 |none=>
  rw[List.findIdx?_eq_none_iff] at h
  rw[Jm (fun q=>by simpa using h s q)];rfl
 |some i=>
  rw[List.findIdx?_eq_some_iff_getElem] at h
  obtain⟨h1,h2, -⟩:=h
  have h3:l[i]=s:=by simpa using h2
  rw[LA (h3 ▸ gm h1)]
  simp
theorem S9 (l:List BA') (s:BA') (hm:l.length≤4294967296) (h:HP):CS cx.P 165 [.d (.sl false .one (l.map dS)),dS' s] h (dI' (Jh l s)) h:=by
 refine Ze func165 rfl 19 ?_
 refine Zw ?_
 refine W.seq ?_
 refine Zw ?_
 refine W.block ?_
 refine W.loopI [0,1,7] [] (fun k0=>[(8,dI' k0)]) (fun _=>[]) l.length (fun k0=>∀j,j<k0→l[j]? ≠some s) rfl (by simp) (by simp) fun k0 hk0 hi0 T hT=> ?_
 simp at hT;subst hT
 refine Zw ?_
 refine Zv rfl ?_ ?_<;>intro hb0<;>try simp at hb0
 have hx:=B2 hb0 (by omega)
 refine W.skip ?_
 refine Zb ?_
 refine Zw2 ?_
 refine Zw2 ?_
 refine Zc rfl ?_ ?_<;>intro hb1<;>try simp at hb1
 have hres:=ZV hi0 hb0 hb1.symm
 refine Zw2 ?_
 refine W.ret (Zq ?_)
 simp[f165,hres]
 refine W.skip ?_
 apply Zs;intros
 iterate 2 (refine Zo ?_ (by simp[hb0,hx]<;>omega);simp[hb0,hx])
 exact Zx
 refine⟨hb0,JY hi0 hb0 (fun e=>hb1 e.symm),Wz.to rfl rfl rfl ?_⟩
 simp
 have hkl:k0=l.length:=by omega
 subst hkl
 have hres:=ZT (Kz hi0)
 refine W.exit ?_
 refine Zw ?_
 refine W.ret (Zq ?_)
 simp[f165,hres]
theorem DZ (l:List BA') (s:BA') (hm:l.length≤4294967296) (h:HP):CS cx.P 103 [.d (.sl false .one (l.map dS)),dS' s] h (dB' (B7 l s)) h:=by
 refine Ze func103 rfl 9 ?_
 refine Zw ?_
 apply Zr;intros
 iterate 2 (refine Zo ?_;simp)
 refine Zl [] rfl func165 (S9 l s hm _) ?_;simp
 iterate 2 (refine Zo ?_;simp)
 exact Zx
 refine W.ret (Zq ?_)
 simp[f103, ←Nm]
theorem ID (s:BA') (h:HP):CS cx.P 221 [dS' s] h (dB' (B7 rsv s)) h:=by
 refine Ze func221 rfl 6 ?_
 apply Zr;intros
 refine Zo ?_ (by simp[rsv]<;>omega);simp[rsv]
 exact Zx
 apply Zr;intros
 iterate 2 (refine Zo ?_ (by simp[rsv]<;>omega);simp[rsv])
 refine Zl [] rfl func103 (DZ rsv s (by decide) _) ?_ (by simp[rsv]);simp[rsv]
 refine Zo ?_ (by simp[rsv]<;>omega);simp[rsv]
 exact Zx
 refine W.ret (Zq ?_)
 simp[f221,rsv]
theorem CW (s:BA') (hs:s.size≤134217728) (h:HP):CS cx.P 145 [dS' s] h (dB' (BV s)) h:=by
 refine Ze func145 rfl 39 ?_
 refine Zw ?_
 refine W.seq ?_
 refine Zw ?_
 refine W.block ?_
 refine W.loopI [0,5] [] (fun k0=>[(6,dI' k0)]) (fun _=>[]) s.size (fun k0=>∀j,j<k0→An s j=true) rfl (by simp) (by simp) fun k0 hk0 hi0 T hT=> ?_
 simp at hT;subst hT
 refine Zw ?_
 refine Zv rfl ?_ ?_<;>intro hb0<;>try simp at hb0
 have hx:=B2 hb0 (by omega)
 refine W.skip ?_
 refine Zb ?_
 refine Zw2 ?_
 refine W.seq ?_
 refine W.regJ (D:=_) [0,5,6] [] [(24,.d (.lf (.bool (!An s k0))))] [] rfl (fun _ K hD hK=> ?_) fun T hT=> ?_
 iterate 3 (refine Zo ?_ (by simp[hb0,hx]<;>omega);simp[hb0,hx])
 refine Zl [] rfl func219 (L6 ((bt s k0:Nat):Int) _) ?_ (by simp[hb0,hx]);simp[hb0,hx]
 iterate 2 (refine Zo ?_ (by simp[hb0,hx]<;>omega);simp[hb0,hx])
 refine WL.split 14 _ rfl (fun g14=> ?_) fun g14=> ?_<;>try simp at g14
 simp[hb0,hx]
 iterate 3 (refine ZG' ?_ (by simp[hb0,hx]<;>omega);simp[hb0,hx])
 refine WL.split 17 _ rfl (fun g17=> ?_) fun g17=> ?_<;>try simp at g17
 have e0:=g17
 subst e0
 simp[hb0,hx]
 iterate 5 (refine ZN' ?_;simp[hb0,hx])
 refine ZG' ?_ (by simp[hb0,hx]<;>omega);simp[hb0,hx]
 refine Zo ?_ (by simp[hb0,hx]<;>omega);simp[hb0,hx]
 refine WL.nil (hK _ (Wz.to rfl rfl rfl ?_))
 simp[An,g14,g17]
 simp[hb0,hx]
 iterate 3 (refine ZG' ?_ (by simp[hb0,hx]<;>omega);simp[hb0,hx])
 refine Zk hD rfl rfl [] rfl func220 (L7 ((bt s k0:Nat):Int) _) ?_ (by simp[hb0,hx]);simp[hb0,hx]
 iterate 2 (refine ZG' ?_ (by simp[hb0,hx]<;>omega);simp[hb0,hx])
 refine Zo ?_ (by simp[hb0,hx]<;>omega);simp[hb0,hx]
 refine WL.nil (hK _ (Wz.to rfl rfl rfl ?_))
 simp[An,g14,g17]
 simp[hb0,hx]
 iterate 9 (refine ZN' ?_;simp[hb0,hx])
 refine Zo ?_ (by simp[hb0,hx]<;>omega);simp[hb0,hx]
 refine WL.nil (hK _ (Wz.to rfl rfl rfl ?_))
 simp[An,g14]
 simp at hT;subst hT
 refine Zc rfl ?_ ?_<;>intro hb1<;>try simp at hb1
 have hall:=GJ (n:=s.size) hb0 (by simpa using hb1:An s k0=false)
 refine Zw2 ?_
 refine W.ret (Zq ?_)
 simp[f145,BV,Ap,hall]<;>omega
 refine W.skip ?_
 apply Zs;intros
 iterate 2 (refine Zo ?_ (by simp[hb0,hx]<;>omega);simp[hb0,hx])
 exact Zx
 refine⟨hb0,FZ hi0 (by simpa using hb1),Wz.to rfl rfl rfl ?_⟩
 simp
 have hkl:k0=s.size:=by omega
 subst hkl
 have hall:=I4 hi0
 refine W.exit ?_
 refine W.seq ?_
 refine W.regJ0 (D:=_) rfl fun _ K hD hK=> ?_
 iterate 4 (refine Zo ?_;simp)
 refine WL.split 29 _ rfl (fun g29=> ?_) fun g29=> ?_<;>try simp at g29
 simp
 iterate 3 (refine ZG' ?_;simp)
 iterate 2 (refine Zo ?_;simp)
 refine WL.split 34 _ rfl (fun g34=> ?_) fun g34=> ?_<;>try simp at g34
 simp
 refine ZG' ?_;simp
 refine Zk hD rfl rfl [] rfl func221 (ID s _) ?_;simp
 refine ZG' ?_;simp
 iterate 2 (refine Zo ?_;simp)
 refine WL.nil (hK _ ?_)
 refine W.ret (Zq ?_)
 simp[f145,BV,Ap,hall,g29,g34]<;>omega
 simp
 iterate 3 (refine ZN' ?_;simp)
 iterate 2 (refine Zo ?_;simp)
 refine WL.nil (hK _ ?_)
 refine W.ret (Zq ?_)
 simp[f145,BV,Ap,hall,g29,g34]<;>omega
 simp
 iterate 3 (refine ZN' ?_;simp)
 iterate 2 (refine Zo ?_;simp)
 iterate 3 (refine ZN' ?_;simp)
 iterate 2 (refine Zo ?_;simp)
 refine WL.nil (hK _ ?_)
 refine W.ret (Zq ?_)
 simp[f145,BV,Ap,hall,g29]<;>omega
mutual
def AR:A0→Nat
 |⟨_,_,l⟩=>1+Ag l
def Ag:List A0→Nat
 |[]=>0
 |x::l=>AR x+Ag l
end
mutual
def CA:A0→Nat
 |⟨_,_,l⟩=>Cu l
def Cu:List A0→Nat
 |[]=>0
 |x::l=>max (CA x+1) (Cu l)
end
theorem Bk:∀a b:List A0,Ag (a++b)=Ag a+Ag b
 |[],b=>by simp[Ag]
 |x::a,b=>by simp only[List.cons_append,Ag,Bk a b];omega
theorem I9:∀a b:List A0,Cu (a++b)=max (Cu a) (Cu b)
 |[],b=>by simp[Cu]
 |x::a,b=>by simp only[List.cons_append,Cu,I9 a b];exact(Nat.max_assoc _ _ _).symm
mutual
theorem DG:∀x:A0,AR x≤1+x.sz
 |⟨_,_,l⟩=>by simp only[AR,A0.sz];have:=Ha l;omega
theorem Ha:∀l:List A0,Ag l≤l.length+A0.szLs l
 |[]=>by simp[Ag,A0.szLs]
 |x::l=>by simp only[Ag,A0.szLs,List.length_cons];have:=DG x;have:=Ha l;omega
end
mutual
theorem Hb:∀x:A0,CA x≤x.sz
 |⟨_,_,l⟩=>by simp only[CA,A0.sz];have:=JA l;omega
theorem JA:∀l:List A0,Cu l≤l.length+A0.szLs l
 |[]=>by simp[Cu,A0.szLs]
 |x::l=>by simp only[Cu,A0.szLs,List.length_cons];have:=Hb x;have:=JA l;omega
end
def DF (l:List A0) (k:Nat):Nat:=1+Ag (l.take k)
theorem HZ (l:List A0):DF l 0=1:=rfl
theorem DU (x:A0):DF x.AB x.AB.length=AR x:=by cases x;simp[DF,AR]
theorem Ki {l:List A0} {k:Nat} (h:k<l.length) (hz:szs A0.sz l≤134217728):IntKind.i64.wrap ((DF l k:Int)+(AR l[k]:Int))=(DF l (k+1):Int):=by
 have h1:DF l (k+1)=DF l k+AR l[k]:=by
  unfold DF
  rw[Y' h,Bk];simp[Ag];omega
 have h2:DF l (k+1)≤1+Ag l:=by
  unfold DF
  have:=Bk (l.take (k+1)) (l.drop (k+1))
  rw[List.take_append_drop] at this;omega
 have h3:=Ha l
 rw[A0.szLs_eq] at h3
 unfold szs at hz
 rw[BH (by omega) (by omega)];omega
def GA (l:List A0) (k:Nat):Nat:=Cu (l.take k)
theorem Km (l:List A0):GA l 0=0:=rfl
theorem Ko (x:A0):GA x.AB x.AB.length=CA x:=by cases x;simp[GA,CA]
theorem Kn {l:List A0} {k:Nat} (h:k<l.length):GA l (k+1)=max (GA l k) (CA l[k]+1):=by
 unfold GA
 rw[Y' h,I9];simp[Cu]
theorem Ph (x:A0) (hz:x.sz≤134217728) (hc:∀y∈x.AB,∀h,CS cx.P 249 [.d (y.dd false)] h (dI' ((AR y:Nat):Int)) h) (h:HP):CS cx.P 249 [.d (x.dd false)] h (dI' ((AR x:Nat):Int)) h:=by
 have hz2:=x.sz_eq;unfold szs at hz2
 refine Ze func249 rfl 19 ?_
 refine Zw ?_
 refine Zw ?_
 refine W.seq ?_
 refine Zw ?_
 refine W.block ?_
 refine W.loopk [7,8] [] (fun k0=>[(9,dI' k0),(3,dI' ((DF x.AB k0:Nat):Int))]) (fun _=>[]) x.AB.length rfl (by simp[HZ]) fun k0 hk0 T hT=> ?_
 simp at hT;subst hT
 refine Zw ?_
 refine Zv rfl ?_ ?_<;>intro hb0<;>try simp at hb0
 have hx:=B2 hb0 (by omega)
 have hw:=Ki hb0 (by unfold szs;omega)
 refine W.skip ?_
 refine Zb ?_
 apply Zr;intros
 refine Zo ?_ (by simp[hb0,hx,hw]<;>omega);simp[hb0,hx,hw]
 refine Zm [12] ?_ (by simp[hb0,hx,hw]<;>omega);simp[hb0,hx,hw]
 iterate 2 (refine Zo ?_ (by simp[hb0,hx,hw]<;>omega);simp[hb0,hx,hw])
 exact Zx
 apply Zs;intros
 iterate 2 (refine Zo ?_ (by simp[hb0,hx,hw]<;>omega);simp[hb0,hx,hw])
 refine Zl [] rfl func249 (hc x.AB[k0] (gm hb0) _) ?_ (by simp[hb0,hx,hw]);simp[hb0,hx,hw]
 iterate 2 (refine Zo ?_ (by simp[hb0,hx,hw]<;>omega);simp[hb0,hx,hw])
 exact Zx
 apply Zs;intros
 iterate 2 (refine Zo ?_ (by simp[hb0,hx,hw]<;>omega);simp[hb0,hx,hw])
 exact Zx
 refine⟨hb0,Wz.to rfl rfl rfl ?_⟩
 simp
 have hkl:k0=x.AB.length:=by omega
 subst hkl
 refine W.exit ?_
 refine Zw ?_
 refine W.ret (Zq ?_)
 simp[f249,DU]
theorem di {l:List A0} {k:Nat} (h:k<l.length):(if (GA l k:Int)<(CA l[k]:Int)+1 then (CA l[k]:Int)+1 else (GA l k:Int))=(GA l (k+1):Int):=by
 rw[Kn h];split<;>omega
theorem dh {l:List A0} {k:Nat} (h:k<l.length):(if 1+(CA l[k]:Int)<(GA l k:Int) then (GA l k:Int) else 1+(CA l[k]:Int))=(GA l (k+1):Int):=by
 rw[Kn h];split<;>omega
theorem ZN (x y:Int) (h:HP):CS cx.P 439 [dI' x,dI' y] h (dI' (if y<x then x else y)) h:=by
 refine Ze func439 rfl 10 ?_
 refine Zw ?_
 refine W.seq ?_
 refine Zw ?_
 refine Zc rfl ?_ ?_<;>intro hb0<;>try simp at hb0
 refine Zw ?_
 refine W.ret (Zq ?_)
 simp[f439]
 omega
 refine W.skip ?_
 refine Zw ?_
 refine W.ret (Zq ?_)
 simp[f439]
 omega
theorem Vu (x:A0) (hz:x.sz≤134217728) (hc:∀y∈x.AB,∀h,CS cx.P 375 [.d (y.dd false)] h (dI' ((CA y:Nat):Int)) h) (h:HP):CS cx.P 375 [.d (x.dd false)] h (dI' ((CA x:Nat):Int)) h:=by
 have hz2:=x.sz_eq;unfold szs at hz2
 refine Ze func375 rfl 20 ?_
 refine Zw ?_
 refine Zw ?_
 refine W.seq ?_
 refine Zw ?_
 refine W.block ?_
 refine W.loopk [7,8] [] (fun k0=>[(9,dI' k0),(3,dI' ((GA x.AB k0:Nat):Int))]) (fun _=>[]) x.AB.length rfl (by simp[Km]) fun k0 hk0 T hT=> ?_
 simp at hT;subst hT
 refine Zw ?_
 refine Zv rfl ?_ ?_<;>intro hb0<;>try simp at hb0
 have hx:=B2 hb0 (by omega)
 have hd:=Hb x.AB[k0];have hs:=Ae A0.sz (gm hb0)
 have hv:=BH (n:=(CA x.AB[k0]:Int)+1) (by omega) (by omega)
 have hw:=di hb0
 refine W.skip ?_
 refine Zb ?_
 apply Zr;intros
 refine Zo ?_ (by simp[hb0,hx,hw,hv]<;>omega);simp[hb0,hx,hw,hv]
 refine Zm [12] ?_ (by simp[hb0,hx,hw,hv]<;>omega);simp[hb0,hx,hw,hv]
 iterate 2 (refine Zo ?_ (by simp[hb0,hx,hw,hv]<;>omega);simp[hb0,hx,hw,hv])
 exact Zx
 apply Zs;intros
 iterate 2 (refine Zo ?_ (by simp[hb0,hx,hw,hv]<;>omega);simp[hb0,hx,hw,hv])
 refine Zl [] rfl func375 (hc x.AB[k0] (gm hb0) _) ?_ (by simp[hb0,hx,hw,hv]);simp[hb0,hx,hw,hv]
 iterate 3 (refine Zo ?_ (by simp[hb0,hx,hw,hv]<;>omega);simp[hb0,hx,hw,hv])
 exact Zx
 apply Zs;intros
 iterate 2 (refine Zo ?_ (by simp[hb0,hx,hw,hv]<;>omega);simp[hb0,hx,hw,hv])
 exact Zx
 refine⟨hb0,Wz.to rfl rfl rfl ?_⟩
 simp
 have hkl:k0=x.AB.length:=by omega
 subst hkl
 refine W.exit ?_
 refine Zw ?_
 refine W.ret (Zq ?_)
 simp[f375,Ko]
theorem Uv (x:A0) (hz:x.sz≤134217728) (hc:∀y∈x.AB,∀h,CS cx.P 407 [.d (y.dd false)] h (dI' ((CA y:Nat):Int)) h) (h:HP):CS cx.P 407 [.d (x.dd false)] h (dI' ((CA x:Nat):Int)) h:=by
 have hz2:=x.sz_eq;unfold szs at hz2
 refine Ze func407 rfl 22 ?_
 refine Zw ?_
 refine Zw ?_
 refine W.seq ?_
 refine Zw ?_
 refine W.block ?_
 refine W.loopk [1] [1] (fun k0=>[(4,dI' k0),(3,dI' ((GA x.AB k0:Nat):Int))]) (fun _=>[]) x.AB.length rfl (by simp[Km]) fun k0 hk0 T hT=> ?_
 simp at hT;subst hT
 refine W.seq ?_
 refine Zw ?_
 refine Zc rfl ?_ ?_<;>intro hb0<;>try simp at hb0
 have hx:=B2 hb0 (by omega)
 have hd:=Hb x.AB[k0];have hs:=Ae A0.sz (gm hb0)
 have hv:=BH (n:=1+(CA x.AB[k0]:Int)) (by omega) (by omega)
 have hw:=dh hb0
 refine W.skip ?_
 refine Zb ?_
 apply Zs;intros
 iterate 6 (refine Zo ?_ (by simp[hb0,hx,hw,hv]<;>omega);simp[hb0,hx,hw,hv])
 refine Zl [] rfl func407 (hc x.AB[k0] (gm hb0) _) ?_ (by simp[hb0,hx,hw,hv]);simp[hb0,hx,hw,hv]
 refine Zo ?_ (by simp[hb0,hx,hw,hv]<;>omega);simp[hb0,hx,hw,hv]
 refine Zl [] rfl func439 (ZN (GA x.AB k0) (1+(CA x.AB[k0]:Int)) _) ?_ (by simp[hb0,hx,hw,hv]);simp[hb0,hx,hw,hv]
 refine Zo ?_ (by simp[hb0,hx,hw,hv]<;>omega);simp[hb0,hx,hw,hv]
 exact Zx
 apply Zs;intros
 iterate 3 (refine Zo ?_ (by simp[hb0,hx,hw,hv]<;>omega);simp[hb0,hx,hw,hv])
 exact Zx
 refine⟨hb0,Wz.to rfl rfl rfl ?_⟩
 simp
 have hkl:k0=x.AB.length:=by omega
 subst hkl
 refine W.exit ?_
 refine Zw ?_
 refine W.ret (Zq ?_)
 simp[f407,Ko]
def lft (n:Nat) (left:Int):Int:=if (n:Int)≤left then left - n else -1
theorem M1 {a b:Nat} {x:Int} (h:0≤lft a x):lft b (lft a x)=lft (a+b) x:=by
 unfold lft at h ⊢
 split at h
 ·rename_i h1;rw[if_pos h1];split<;>split<;>omega
 ·omega
theorem M0 {a b:Nat} {x:Int} (h:¬0≤lft a x) (hb:a≤b):lft b x=lft a x:=by
 unfold lft at h ⊢
 split at h
 ·omega
 ·rename_i h1;rw[if_neg h1,if_neg (by omega)]
theorem Le {l:List A0} {k:Nat} (h:k<l.length):DF l (k+1)=DF l k+AR l[k]:=by
 unfold DF
 rw[Y' h,Bk];simp[Ag];omega
theorem Ih (x:A0) (k:Nat):DF x.AB k≤AR x:=by
 rw[←DU]
 unfold DF
 have:=Bk (x.AB.take k) (x.AB.drop k)
 rw[List.take_append_drop] at this
 simp;omega
theorem VY {x:A0} {k:Nat} {left:Int} (hk:k≤x.AB.length) (h:k<x.AB.length→lft (DF x.AB k) left<0):lft (AR x) left=lft (DF x.AB k) left:=by
 rcases Nat.lt_or_ge k x.AB.length with q|q
 ·exact M0 (by have:=h q;omega) (Ih x k)
 ·have:k=x.AB.length:=by omega
  subst this;rw[DU]
theorem Ys (x:A0) (left:Int) (h0:0≤left) (h1:left≤134217728) (hz:x.sz≤134217728) (hc:∀y∈x.AB,∀left,0≤left→left≤134217728→∀h,CS cx.P 406 [.d (y.dd false),dI' left] h (dI' (lft (AR y) left)) h) (h:HP):CS cx.P 406 [.d (x.dd false),dI' left] h (dI' (lft (AR x) left)) h:=by
 have hz2:=x.sz_eq;unfold szs at hz2
 have hw0:=BH (n:=left - 1) (by omega) (by omega)
 have hl0:lft 1 left=left - 1:=by unfold lft;split<;>omega
 refine Ze func406 rfl 27 ?_
 refine Zw2 ?_
 refine Zw2 ?_
 refine W.seq ?_
 refine Zw2 ?_
 refine W.block ?_
 refine W.loopk [2] [2] (fun k0=>[(5,dI' k0),(1,dI' ((lft (DF x.AB k0) left)))]) (fun _=>[]) x.AB.length rfl (by simp[HZ,hl0]) fun k0 hk0 T hT=> ?_
 simp at hT;subst hT
 refine W.seq ?_
 refine W.seq ?_
 refine W.regJ (D:=_) [1,2,5] [2] [(16,.d (.lf (.bool (decide (k0<x.AB.length) && decide (0≤(lft (DF x.AB k0) left))))))] [] rfl (fun _ K hD hK=> ?_) fun T hT=> ?_
 iterate 6 (refine Zo ?_ (by simp[hw0]<;>omega);simp[hw0])
 refine WL.split 13 _ rfl (fun g13=> ?_) fun g13=> ?_<;>try simp at g13
 simp[hw0]
 iterate 2 (refine ZG' ?_ (by simp[hw0]<;>omega);simp[hw0])
 refine Zo ?_ (by simp[hw0]<;>omega);simp[hw0]
 refine WL.nil (hK _ (Wz.to rfl rfl rfl ?_))
 simp[g13]<;>first|omega|grind
 simp[hw0]
 iterate 2 (refine ZN' ?_;simp[hw0])
 refine Zo ?_ (by simp[hw0]<;>omega);simp[hw0]
 refine WL.nil (hK _ (Wz.to rfl rfl rfl ?_))
 simp[g13]<;>first|omega|grind
 simp at hT;subst hT
 refine Zc rfl ?_ ?_<;>intro hb0<;>try simp at hb0
 have hk1:=hb0.1
 have hx:=B2 hk1 (by omega)
 refine W.skip ?_
 refine Zb ?_
 apply Zs;intros
 iterate 6 (refine Zo ?_ (by simp[hw0,hk1,hx]<;>omega);simp[hw0,hk1,hx])
 refine Zl [] rfl func406 (hc x.AB[k0] (gm hk1) (lft (DF x.AB k0) left) hb0.2 (by unfold lft;split<;>omega) _) ?_ (by simp[hw0,hk1,hx]);simp[hw0,hk1,hx]
 refine Zo ?_ (by simp[hw0,hk1,hx]<;>omega);simp[hw0,hk1,hx]
 exact Zx
 apply Zs;intros
 iterate 3 (refine Zo ?_ (by simp[hw0,hk1,hx]<;>omega);simp[hw0,hk1,hx])
 exact Zx
 refine⟨hk1,Wz.to rfl rfl rfl ?_⟩
 have hs:=M1 (b:=AR x.AB[k0]) hb0.2
 rw[←Le hk1] at hs
 simp[hs]
 have hres:lft (AR x) left=(lft (DF x.AB k0) left):=VY hk0 hb0
 refine W.exit ?_
 refine Zw2 ?_
 refine W.ret (Zq ?_)
 simp[f406,hres]
def Cf (k:Int) (n:BA') (m:Nat):Bool:=if k=1∨k=4 then BV n && decide (m=0) else if k=3 then BV n && decide (m=1) else if k=2 then BV n && decide (m≤3)||Cq n && decide (m=0) else false
mutual
def CK:A0→Bool
 |⟨k,n,l⟩=>Cf k n l.length && DV l
def DV:List A0→Bool
 |[]=>true
 |x::l=>CK x && DV l
end
def FX (l:List A0) (k:Nat):Bool:=DV (l.take k)
theorem J8:∀a b:List A0,DV (a++b)=(DV a && DV b)
 |[],b=>by simp[DV]
 |x::a,b=>by simp only[List.cons_append,DV,J8 a b,Bool.and_assoc]
theorem N8 (l:List A0):FX l 0=true:=rfl
theorem I8 (x:A0):(Cf x.AH x.A5 x.AB.length && FX x.AB x.AB.length)=CK x:=by cases x;simp[FX,CK]
theorem I7 {l:List A0} {k:Nat} (h:k<l.length):FX l (k+1)=(FX l k && CK l[k]):=by
 unfold FX
 rw[Y' h,J8];simp[DV]
theorem Yu (x:A0) (hz:x.sz≤134217728) (hc:∀y∈x.AB,∀h,CS cx.P 408 [.d (y.dd false)] h (dB' (CK y)) h) (h:HP):CS cx.P 408 [.d (x.dd false)] h (dB' (CK x)) h:=by
 have hz2:=x.sz_eq;unfold szs at hz2
 refine Ze func408 rfl 66 ?_
 refine Zw ?_
 apply Zr;intros
 iterate 2 (refine Zo ?_;simp)
 refine Zl [] rfl func122 (Ft x.A5 (by omega) _) ?_;simp
 refine Zo ?_;simp
 exact Zx
 refine W.seq ?_
 refine Zw ?_
 refine W.join [1] [1] [(3,.d (.lf (.bool (Cf x.AH x.A5 x.AB.length))))] [] ?_ fun T hT=> ?_
 refine W.block ?_
 refine W.seq ?_
 refine Zw ?_
 refine Zc rfl ?_ ?_<;>intro hb0<;>try simp at hb0
 refine W.skip ?_
 refine W.condT (by simp[hb0]) trivial ?_
 refine W.regJ0 (D:=_) rfl fun _ K hD hK=> ?_
 iterate 2 (refine Zo ?_;simp)
 refine WL.split 14 _ rfl (fun g14=> ?_) fun g14=> ?_<;>try simp at g14
 simp
 iterate 4 (refine ZG' ?_;simp)
 iterate 2 (refine Zo ?_;simp)
 refine WL.nil (hK _ ?_)
 refine Wz.to rfl rfl rfl ?_
 simp[Cf,hb0,g14]<;>first|omega|grind
 simp
 iterate 4 (refine ZN' ?_;simp)
 iterate 2 (refine Zo ?_;simp)
 refine WL.nil (hK _ ?_)
 refine Wz.to rfl rfl rfl ?_
 simp[Cf,hb0,g14]<;>first|omega|grind
 apply Zs;intros
 iterate 2 (refine Zo ?_;simp)
 exact Zx
 refine Zc rfl ?_ ?_<;>intro hb1<;>try simp at hb1
 refine W.regJ0 (D:=_) rfl fun _ K hD hK=> ?_
 iterate 2 (refine Zo ?_;simp)
 refine WL.split 14 _ rfl (fun g14=> ?_) fun g14=> ?_<;>try simp at g14
 simp
 iterate 4 (refine ZG' ?_;simp)
 iterate 2 (refine Zo ?_;simp)
 refine WL.nil (hK _ ?_)
 refine Wz.to rfl rfl rfl ?_
 simp[Cf,hb0,hb1,g14]<;>first|omega|grind
 simp
 iterate 4 (refine ZN' ?_;simp)
 iterate 2 (refine Zo ?_;simp)
 refine WL.nil (hK _ ?_)
 refine Wz.to rfl rfl rfl ?_
 simp[Cf,hb0,hb1,g14]<;>first|omega|grind
 refine Zw ?_
 refine Zc rfl ?_ ?_<;>intro hb2<;>try simp at hb2
 refine W.regJ0 (D:=_) rfl fun _ K hD hK=> ?_
 iterate 2 (refine Zo ?_;simp)
 refine WL.split 23 _ rfl (fun g23=> ?_) fun g23=> ?_<;>try simp at g23
 simp
 iterate 4 (refine ZG' ?_;simp)
 iterate 2 (refine Zo ?_;simp)
 refine WL.nil (hK _ ?_)
 refine Wz.to rfl rfl rfl ?_
 simp[Cf,hb0,hb1,hb2,g23]<;>first|omega|grind
 simp
 iterate 4 (refine ZN' ?_;simp)
 iterate 2 (refine Zo ?_;simp)
 refine WL.nil (hK _ ?_)
 refine Wz.to rfl rfl rfl ?_
 simp[Cf,hb0,hb1,hb2,g23]<;>first|omega|grind
 refine Zw ?_
 refine Zc rfl ?_ ?_<;>intro hb3<;>try simp at hb3
 refine W.regJ0 (D:=_) rfl fun _ K hD hK=> ?_
 iterate 2 (refine Zo ?_;simp)
 refine WL.split 32 _ rfl (fun g32=> ?_) fun g32=> ?_<;>try simp at g32
 simp
 iterate 4 (refine ZG' ?_;simp)
 iterate 2 (refine Zo ?_;simp)
 refine WL.split 38 _ rfl (fun g38=> ?_) fun g38=> ?_<;>try simp at g38
 simp
 iterate 9 (refine ZN' ?_;simp)
 iterate 2 (refine Zo ?_;simp)
 refine WL.nil (hK _ ?_)
 refine Wz.to rfl rfl rfl ?_
 simp[Cf,hb0,hb1,hb2,hb3,g32,g38]<;>first|omega|grind
 simp
 iterate 2 (refine ZG' ?_;simp)
 refine Zk hD rfl rfl [] rfl func204 (Gx x.A5 _) ?_;simp
 refine ZG' ?_;simp
 refine WL.split 42 _ rfl (fun g42=> ?_) fun g42=> ?_<;>try simp at g42
 simp
 iterate 5 (refine ZG' ?_;simp)
 iterate 2 (refine Zo ?_;simp)
 refine WL.nil (hK _ ?_)
 refine Wz.to rfl rfl rfl ?_
 simp[Cf,hb0,hb1,hb2,hb3,g32,g38,g42]<;>first|omega|grind
 simp
 iterate 4 (refine ZN' ?_;simp)
 refine ZG' ?_;simp
 iterate 2 (refine Zo ?_;simp)
 refine WL.nil (hK _ ?_)
 refine Wz.to rfl rfl rfl ?_
 simp[Cf,hb0,hb1,hb2,hb3,g32,g38,g42]<;>first|omega|grind
 simp
 iterate 4 (refine ZN' ?_;simp)
 iterate 2 (refine Zo ?_;simp)
 iterate 2 (refine ZG' ?_;simp)
 refine Zk hD rfl rfl [] rfl func204 (Gx x.A5 _) ?_;simp
 refine ZG' ?_;simp
 refine WL.split 42 _ rfl (fun g42=> ?_) fun g42=> ?_<;>try simp at g42
 simp
 iterate 5 (refine ZG' ?_;simp)
 iterate 2 (refine Zo ?_;simp)
 refine WL.nil (hK _ ?_)
 refine Wz.to rfl rfl rfl ?_
 simp[Cf,hb0,hb1,hb2,hb3,g32,g42]<;>first|omega|grind
 simp
 iterate 4 (refine ZN' ?_;simp)
 refine ZG' ?_;simp
 iterate 2 (refine Zo ?_;simp)
 refine WL.nil (hK _ ?_)
 refine Wz.to rfl rfl rfl ?_
 simp[Cf,hb0,hb1,hb2,hb3,g32,g42]<;>first|omega|grind
 have hres:CK x=false:=by rw[←I8];simp[Cf,hb0,hb1,hb2,hb3]
 refine Zw ?_
 refine W.ret (Zq ?_)
 simp[f408,hres]
 simp at hT;subst hT
 refine W.seq ?_
 refine Zw ?_
 refine W.block ?_
 refine W.loopk [1] [1] (fun k0=>[(4,dI' k0),(3,dB' (Cf x.AH x.A5 x.AB.length && FX x.AB k0))]) (fun _=>[]) x.AB.length rfl (by simp[N8]) fun k0 hk0 T hT=> ?_
 simp at hT;subst hT
 refine W.seq ?_
 refine Zw ?_
 refine Zc rfl ?_ ?_<;>intro hb4<;>try simp at hb4
 have hx:=B2 hb4 (by omega)
 refine W.skip ?_
 refine Zb ?_
 refine W.regJ (D:=_) [1,4] [1] [(3,.d (.lf (.bool (Cf x.AH x.A5 x.AB.length && FX x.AB (k0+1)))))] [] rfl (fun _ K hD hK=> ?_) fun T hT=> ?_
 iterate 2 (refine Zo ?_ (by simp[hb4,hx]<;>omega);simp[hb4,hx])
 refine WL.split 57 _ rfl (fun g57=> ?_) fun g57=> ?_<;>try simp at g57
 simp[hb4,hx]
 iterate 5 (refine ZG' ?_ (by simp[hb4,hx]<;>omega);simp[hb4,hx])
 refine Zk hD rfl rfl [] rfl func408 (hc x.AB[k0] (gm hb4) _) ?_ (by simp[hb4,hx]);simp[hb4,hx]
 iterate 2 (refine Zo ?_ (by simp[hb4,hx]<;>omega);simp[hb4,hx])
 refine WL.nil (hK _ (Wz.to rfl rfl rfl ?_))
 simp[I7 hb4,g57]<;>grind
 simp[hb4,hx]
 iterate 6 (refine ZN' ?_;simp[hb4,hx])
 iterate 2 (refine Zo ?_ (by simp[hb4,hx]<;>omega);simp[hb4,hx])
 refine WL.nil (hK _ (Wz.to rfl rfl rfl ?_))
 simp[I7 hb4,g57]<;>grind
 simp at hT;subst hT
 apply Zs;intros
 iterate 3 (refine Zo ?_ (by simp[hb4,hx]<;>omega);simp[hb4,hx])
 exact Zx
 refine⟨hb4,Wz.to rfl rfl rfl ?_⟩
 simp
 have hkl:k0=x.AB.length:=by omega
 subst hkl
 have hres:=I8 x
 refine W.exit ?_
 refine Zw ?_
 refine W.ret (Zq ?_)
 simp[f408,hres]
theorem J9:∀l:List A0,DV l= !(l.any fun y=> !CK y)
 |[]=>rfl
 |x::l=>by simp only[DV,J9 l,List.any_cons,Bool.not_or,Bool.not_not]
theorem Kl (x:A0):CK x=(Cf x.AH x.A5 x.AB.length && !(x.AB.any fun y=> !CK y)):=by
 cases x;simp only[CK,J9]
theorem TL (y:A0) (hy:∀h,CS cx.P 374 [.d (y.dd false)] h (dB' (CK y)) h) (h:HP):CS cx.P 421 [.d (y.dd false)] h (dB' (!CK y)) h:=by
 refine Ze func421 rfl 6 ?_
 refine Zw ?_
 apply Zr;intros
 refine Zo ?_;simp
 refine Zl [] rfl func374 (hy _) ?_;simp
 iterate 2 (refine Zo ?_;simp)
 exact Zx
 refine W.ret (Zq ?_)
 simp[f421]
theorem Zd (x:A0) (hz:x.sz≤134217728) (hc:∀y∈x.AB,∀h,CS cx.P 374 [.d (y.dd false)] h (dB' (CK y)) h) (h:HP):CS cx.P 374 [.d (x.dd false)] h (dB' (CK x)) h:=by
 have hz2:=x.sz_eq;unfold szs at hz2
 refine Ze func374 rfl 58 ?_
 refine Zw ?_
 refine Zw ?_
 refine W.seq ?_
 refine Zw ?_
 refine W.join [1] [1] [(3,.d (.lf (.bool (Cf x.AH x.A5 x.AB.length))))] [] ?_ fun T hT=> ?_
 refine W.block ?_
 refine W.seq ?_
 refine Zw ?_
 refine Zc rfl ?_ ?_<;>intro hb0<;>try simp at hb0
 refine W.skip ?_
 refine W.condT (by simp[hb0]) trivial ?_
 refine W.regJ0 (D:=_) rfl fun _ K hD hK=> ?_
 iterate 2 (refine Zo ?_;simp)
 refine Zl [] rfl func145 (CW x.A5 (by omega) _) ?_;simp
 refine Zo ?_;simp
 refine WL.split 12 _ rfl (fun g12=> ?_) fun g12=> ?_<;>try simp at g12
 simp
 iterate 4 (refine ZG' ?_;simp)
 iterate 2 (refine Zo ?_;simp)
 refine WL.nil (hK _ ?_)
 refine Wz.to rfl rfl rfl ?_
 simp[Cf,hb0,g12]<;>first|omega|grind
 simp
 iterate 4 (refine ZN' ?_;simp)
 iterate 2 (refine Zo ?_;simp)
 refine WL.nil (hK _ ?_)
 refine Wz.to rfl rfl rfl ?_
 simp[Cf,hb0,g12]<;>first|omega|grind
 apply Zs;intros
 iterate 2 (refine Zo ?_;simp)
 exact Zx
 refine Zc rfl ?_ ?_<;>intro hb1<;>try simp at hb1
 refine W.regJ0 (D:=_) rfl fun _ K hD hK=> ?_
 iterate 2 (refine Zo ?_;simp)
 refine Zl [] rfl func145 (CW x.A5 (by omega) _) ?_;simp
 refine Zo ?_;simp
 refine WL.split 12 _ rfl (fun g12=> ?_) fun g12=> ?_<;>try simp at g12
 simp
 iterate 4 (refine ZG' ?_;simp)
 iterate 2 (refine Zo ?_;simp)
 refine WL.nil (hK _ ?_)
 refine Wz.to rfl rfl rfl ?_
 simp[Cf,hb0,hb1,g12]<;>first|omega|grind
 simp
 iterate 4 (refine ZN' ?_;simp)
 iterate 2 (refine Zo ?_;simp)
 refine WL.nil (hK _ ?_)
 refine Wz.to rfl rfl rfl ?_
 simp[Cf,hb0,hb1,g12]<;>first|omega|grind
 refine Zw ?_
 refine Zc rfl ?_ ?_<;>intro hb2<;>try simp at hb2
 refine W.regJ0 (D:=_) rfl fun _ K hD hK=> ?_
 iterate 2 (refine Zo ?_;simp)
 refine Zl [] rfl func145 (CW x.A5 (by omega) _) ?_;simp
 refine Zo ?_;simp
 refine WL.split 23 _ rfl (fun g23=> ?_) fun g23=> ?_<;>try simp at g23
 simp
 iterate 4 (refine ZG' ?_;simp)
 iterate 2 (refine Zo ?_;simp)
 refine WL.nil (hK _ ?_)
 refine Wz.to rfl rfl rfl ?_
 simp[Cf,hb0,hb1,hb2,g23]<;>first|omega|grind
 simp
 iterate 4 (refine ZN' ?_;simp)
 iterate 2 (refine Zo ?_;simp)
 refine WL.nil (hK _ ?_)
 refine Wz.to rfl rfl rfl ?_
 simp[Cf,hb0,hb1,hb2,g23]<;>first|omega|grind
 refine Zw ?_
 refine Zc rfl ?_ ?_<;>intro hb3<;>try simp at hb3
 refine W.regJ0 (D:=_) rfl fun _ K hD hK=> ?_
 iterate 2 (refine Zo ?_;simp)
 refine Zl [] rfl func145 (CW x.A5 (by omega) _) ?_;simp
 refine Zo ?_;simp
 refine WL.split 34 _ rfl (fun g34=> ?_) fun g34=> ?_<;>try simp at g34
 simp
 iterate 4 (refine ZG' ?_;simp)
 iterate 2 (refine Zo ?_;simp)
 refine WL.split 40 _ rfl (fun g40=> ?_) fun g40=> ?_<;>try simp at g40
 simp
 iterate 9 (refine ZN' ?_;simp)
 iterate 2 (refine Zo ?_;simp)
 refine WL.nil (hK _ ?_)
 refine Wz.to rfl rfl rfl ?_
 simp[Cf,hb0,hb1,hb2,hb3,g34,g40]<;>first|omega|grind
 simp
 iterate 2 (refine ZG' ?_;simp)
 refine Zk hD rfl rfl [] rfl func236 (EL x.A5 _) ?_;simp
 refine ZG' ?_;simp
 refine WL.split 44 _ rfl (fun g44=> ?_) fun g44=> ?_<;>try simp at g44
 simp
 iterate 5 (refine ZG' ?_;simp)
 iterate 2 (refine Zo ?_;simp)
 refine WL.nil (hK _ ?_)
 refine Wz.to rfl rfl rfl ?_
 simp[Cf,hb0,hb1,hb2,hb3,g34,g40,g44]<;>first|omega|grind
 simp
 iterate 4 (refine ZN' ?_;simp)
 refine ZG' ?_;simp
 iterate 2 (refine Zo ?_;simp)
 refine WL.nil (hK _ ?_)
 refine Wz.to rfl rfl rfl ?_
 simp[Cf,hb0,hb1,hb2,hb3,g34,g40,g44]<;>first|omega|grind
 simp
 iterate 4 (refine ZN' ?_;simp)
 iterate 2 (refine Zo ?_;simp)
 iterate 2 (refine ZG' ?_;simp)
 refine Zk hD rfl rfl [] rfl func236 (EL x.A5 _) ?_;simp
 refine ZG' ?_;simp
 refine WL.split 44 _ rfl (fun g44=> ?_) fun g44=> ?_<;>try simp at g44
 simp
 iterate 5 (refine ZG' ?_;simp)
 iterate 2 (refine Zo ?_;simp)
 refine WL.nil (hK _ ?_)
 refine Wz.to rfl rfl rfl ?_
 simp[Cf,hb0,hb1,hb2,hb3,g34,g44]<;>first|omega|grind
 simp
 iterate 4 (refine ZN' ?_;simp)
 refine ZG' ?_;simp
 iterate 2 (refine Zo ?_;simp)
 refine WL.nil (hK _ ?_)
 refine Wz.to rfl rfl rfl ?_
 simp[Cf,hb0,hb1,hb2,hb3,g34,g44]<;>first|omega|grind
 refine W.skip ?_
 refine Wz.to rfl rfl rfl ?_
 simp[Cf,hb0,hb1,hb2,hb3]<;>first|omega|grind
 simp at hT;subst hT
 refine W.seq ?_
 refine W.regJ0 (D:=_) rfl fun _ K hD hK=> ?_
 iterate 2 (refine Zo ?_;simp)
 refine WL.split 52 _ rfl (fun g52=> ?_) fun g52=> ?_<;>try simp at g52
 simp
 iterate 2 (refine ZG' ?_;simp)
 refine Zk hD rfl rfl [] rfl func313 (GM x.AB (by omega) 421 f421 _ ⟨func421,rfl,rfl⟩ (fun y=> !CK y) (fun y hy h=>TL y (hc y hy) h) _) ?_;simp
 refine ZG' ?_;simp
 iterate 2 (refine Zo ?_;simp)
 refine WL.nil (hK _ ?_)
 refine W.ret (Zq ?_)
 have hres:=Kl x
 simp[f374,hres,g52]
 simp
 iterate 4 (refine ZN' ?_;simp)
 iterate 2 (refine Zo ?_;simp)
 refine WL.nil (hK _ ?_)
 refine W.ret (Zq ?_)
 have hres:=Kl x
 simp[f374,hres,g52]
