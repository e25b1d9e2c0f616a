/- Part 17. No condition. -/
import Derived.Test.YtgihkamifpmfdaaGreatDoorM14
namespace Go.Proofs.YtgihkamifpmfdaaGreatDoor
open Go.RowKit Tryz
set_option linter.unusedVariables false
set_option maxRecDepth 10000
set_option linter.unusedSimpArgs false
set_option maxHeartbeats 4000000
theorem GK (x:A0) (hz:x.sz≤134217728) (h:HP):CS cx.P 249 [.d (x.dd false)] h (dI' ((AR x:Nat):Int)) h:=Ph x hz (fun y hy h=>GK y (by have h1:=Ae A0.sz hy;have h2:=x.sz_eq;unfold szs at h2;omega) h) h
termination_by SizeOf.sizeOf x
decreasing_by have:=List.sizeOf_lt_of_mem hy;have:=x.lt_fArgs;omega
theorem Nt (x:A0) (hz:x.sz≤134217728) (h:HP):CS cx.P 375 [.d (x.dd false)] h (dI' ((CA x:Nat):Int)) h:=Vu x hz (fun y hy h=>Nt y (by have h1:=Ae A0.sz hy;have h2:=x.sz_eq;unfold szs at h2;omega) h) h
termination_by SizeOf.sizeOf x
decreasing_by have:=List.sizeOf_lt_of_mem hy;have:=x.lt_fArgs;omega
theorem NL (x:A0) (hz:x.sz≤134217728) (h:HP):CS cx.P 407 [.d (x.dd false)] h (dI' ((CA x:Nat):Int)) h:=Uv x hz (fun y hy h=>NL y (by have h1:=Ae A0.sz hy;have h2:=x.sz_eq;unfold szs at h2;omega) h) h
termination_by SizeOf.sizeOf x
decreasing_by have:=List.sizeOf_lt_of_mem hy;have:=x.lt_fArgs;omega
theorem QV (x:A0) (hz:x.sz≤134217728) (h:HP):CS cx.P 408 [.d (x.dd false)] h (dB' (CK x)) h:=Yu x hz (fun y hy h=>QV y (by have h1:=Ae A0.sz hy;have h2:=x.sz_eq;unfold szs at h2;omega) h) h
termination_by SizeOf.sizeOf x
decreasing_by have:=List.sizeOf_lt_of_mem hy;have:=x.lt_fArgs;omega
theorem RH (x:A0) (hz:x.sz≤134217728) (h:HP):CS cx.P 374 [.d (x.dd false)] h (dB' (CK x)) h:=Zd x hz (fun y hy h=>RH y (by have h1:=Ae A0.sz hy;have h2:=x.sz_eq;unfold szs at h2;omega) h) h
termination_by SizeOf.sizeOf x
decreasing_by have:=List.sizeOf_lt_of_mem hy;have:=x.lt_fArgs;omega
theorem QU (x:A0) (left:Int) (h0:0≤left) (h1:left≤134217728) (hz:x.sz≤134217728) (h:HP):CS cx.P 406 [.d (x.dd false),dI' left] h (dI' (lft (AR x) left)) h:=Ys x left h0 h1 hz (fun y hy left h0 h1 h=>QU y left h0 h1 (by have h1:=Ae A0.sz hy;have h2:=x.sz_eq;unfold szs at h2;omega) h) h
termination_by SizeOf.sizeOf x
decreasing_by have:=List.sizeOf_lt_of_mem hy;have:=x.lt_fArgs;omega
def Bx (x:A0):Bool:=CK x && decide (CA x≤6) && decide (AR x≤60)
theorem VX (n:Nat) (x:Int) (_:0≤x):decide (0≤lft n x)=decide ((n:Int)≤x):=by
 unfold lft;by_cases q:(n:Int)≤x
 ·rw[if_pos q];simp<;>omega
 ·rw[if_neg q];simp<;>omega
theorem Hu (x:A0) (hz:x.sz≤134217728) (h:HP):CS cx.P 315 [.d (x.dd false)] h (dB' (Bx x)) h:=by
 refine Ze func315 rfl 15 ?_
 refine Zw ?_
 refine W.seq ?_
 refine W.regJ0 (D:=_) rfl fun _ K hD hK=> ?_
 refine Zo ?_;simp
 refine Zl [] rfl func374 (RH x hz _) ?_;simp
 refine Zo ?_;simp
 refine WL.split 5 _ rfl (fun g5=> ?_) fun g5=> ?_<;>try simp at g5
 simp
 refine ZG' ?_;simp
 refine Zk hD rfl rfl [] rfl func375 (Nt x hz _) ?_;simp
 refine ZG' ?_;simp
 iterate 2 (refine Zo ?_;simp)
 refine WL.split 10 _ rfl (fun g10=> ?_) fun g10=> ?_<;>try simp at g10
 simp
 refine ZG' ?_;simp
 refine Zk hD rfl rfl [] rfl func249 (GK x hz _) ?_;simp
 refine ZG' ?_;simp
 iterate 2 (refine Zo ?_;simp)
 refine WL.nil (hK _ ?_)
 refine W.ret (Zq ?_)
 simp[f315,Bx,g5,g10]<;>first|omega|grind
 simp
 iterate 3 (refine ZN' ?_;simp)
 iterate 2 (refine Zo ?_;simp)
 refine WL.nil (hK _ ?_)
 refine W.ret (Zq ?_)
 simp[f315,Bx,g5,g10]<;>first|omega|grind
 simp
 iterate 3 (refine ZN' ?_;simp)
 iterate 2 (refine Zo ?_;simp)
 iterate 3 (refine ZN' ?_;simp)
 iterate 2 (refine Zo ?_;simp)
 refine WL.nil (hK _ ?_)
 refine W.ret (Zq ?_)
 simp[f315,Bx,g5]<;>first|omega|grind
theorem Kt (x:A0) (hz:x.sz≤134217728) (h:HP):CS cx.P 356 [.d (x.dd false)] h (dB' (Bx x)) h:=by
 have hk:=VX (AR x) 60 (by omega)
 refine Ze func356 rfl 15 ?_
 refine Zw ?_
 refine W.seq ?_
 refine W.regJ0 (D:=_) rfl fun _ K hD hK=> ?_
 refine Zo ?_;simp
 refine Zl [] rfl func406 (QU x 60 (by omega) (by omega) hz _) ?_;simp
 iterate 2 (refine Zo ?_;simp)
 refine WL.split 6 _ rfl (fun g6=> ?_) fun g6=> ?_<;>try simp at g6
 simp
 refine ZG' ?_;simp
 refine Zk hD rfl rfl [] rfl func407 (NL x hz _) ?_;simp
 refine ZG' ?_;simp
 iterate 2 (refine Zo ?_;simp)
 refine WL.split 11 _ rfl (fun g11=> ?_) fun g11=> ?_<;>try simp at g11
 simp
 refine ZG' ?_;simp
 refine Zk hD rfl rfl [] rfl func408 (QV x hz _) ?_;simp
 iterate 2 (refine Zo ?_;simp)
 refine WL.nil (hK _ ?_)
 refine W.ret (Zq ?_)
 simp[f356,Bx,g6,g11]<;>simp at hk<;>first|omega|grind
 simp
 iterate 2 (refine ZN' ?_;simp)
 iterate 2 (refine Zo ?_;simp)
 refine WL.nil (hK _ ?_)
 refine W.ret (Zq ?_)
 simp[f356,Bx,g6,g11]<;>simp at hk<;>first|omega|grind
 simp
 iterate 3 (refine ZN' ?_;simp)
 iterate 2 (refine Zo ?_;simp)
 iterate 2 (refine ZN' ?_;simp)
 iterate 2 (refine Zo ?_;simp)
 refine WL.nil (hK _ ?_)
 refine W.ret (Zq ?_)
 simp[f356,Bx,g6]<;>simp at hk<;>first|omega|grind
theorem TC (x:A9) (hz:x.sz≤134217728) (h:HP):CS cx.P 319 [.d (x.dd false)] h (dB' (BV x.AK && Bx x.AM)) h:=by
 have hz2:=x.sz_eq
 refine Ze func319 rfl 11 ?_
 refine Zw ?_
 refine W.seq ?_
 refine W.regJ0 (D:=_) rfl fun _ K hD hK=> ?_
 iterate 2 (refine Zo ?_;simp)
 refine Zl [] rfl func145 (CW x.AK (by omega) _) ?_;simp
 refine Zo ?_;simp
 refine WL.split 6 _ rfl (fun g6=> ?_) fun g6=> ?_<;>try simp at g6
 simp
 iterate 2 (refine ZG' ?_;simp)
 refine Zk hD rfl rfl [] rfl func315 (Hu x.AM (by omega) _) ?_;simp
 iterate 2 (refine Zo ?_;simp)
 refine WL.nil (hK _ ?_)
 refine W.ret (Zq ?_)
 simp[f319,g6]
 simp
 iterate 3 (refine ZN' ?_;simp)
 iterate 2 (refine Zo ?_;simp)
 refine WL.nil (hK _ ?_)
 refine W.ret (Zq ?_)
 simp[f319,g6]
theorem HQ {α:Type} {l:List α} {p:α→Bool} (h:∀j,j<l.length→∀y,l[j]? =some y→p y=false):l.any p=false:=by
 rw[List.any_eq_false]
 intro y hy
 obtain⟨j,hj⟩:=List.mem_iff_getElem?.1 hy
 have:=h j (List.getElem?_eq_some_iff.1 hj).1 y hj
 simp[this]
theorem Fp {α:Type} {l:List α} {p:α→Bool} {k:Nat} (hk:k<l.length) (e:p l[k]=true):l.any p=true:=List.any_eq_true.2 ⟨l[k],gm hk,e⟩
def nms (l:List BA'):Bool:= !(l.any fun s=> !BV s)
def FG (l:List BA') (i:Nat):Bool:= !B7 (l.take i) (l.getD i ⟨#[]⟩)
def dst (l:List BA'):Bool:=Ka l.length (FG l)
def sub (l all:List BA'):Bool:= !(l.any fun s=> !B7 all s)
theorem HE {l:List BA'} {k:Nat} (h:k<l.length):FG l k= !B7 (l.take k) l[k]:=by unfold FG;simp[List.getD_eq_getElem?_getD,List.getElem?_eq_getElem h]
theorem We {l:List BA'} {k:Nat} (h:k<l.length) (e:B7 (l.take k) l[k]=true):dst l=false:=GJ h (by rw[HE h,e];rfl)
theorem SD (l:List BA') (k:Nat):DD.vws (List.take k (List.map dS l))=List.take k (List.map dS l):=by rw[←List.map_take,EU]
attribute [simp] SD
theorem Rd {l:List BA'} (h:∀j,j<l.length→FG l j=true):dst l=true:=I4 h
def tvS (out:List BA') (k:Int) (n:BA'):List BA':=if k=1∧¬B7 out n=true then out++[n] else out
mutual
def tvs:A0→List BA'→List BA'
 |⟨k,n,l⟩,out=>CC l (tvS out k n)
def CC:List A0→List BA'→List BA'
 |[],out=>out
 |x::l,out=>CC l (tvs x out)
end
theorem GZ:∀(a b:List A0) (o:List BA'),CC (a++b) o=CC b (CC a o)
 |[],b,o=>rfl
 |x::a,b,o=>by simp only[List.cons_append,CC,GZ a b]
theorem Lc (o:List BA') (k:Int) (n:BA'):(tvS o k n).length≤o.length+1:=by unfold tvS;split<;>simp
mutual
theorem Ga:∀(x:A0) (o:List BA'),(tvs x o).length≤o.length+AR x
 |⟨k,n,l⟩,o=>by
  have h1:=GY l (tvS o k n)
  have h2:=Lc o k n
  simp only[tvs,AR];omega
theorem GY:∀(l:List A0) (o:List BA'),(CC l o).length≤o.length+Ag l
 |[],o=>by simp[CC,Ag]
 |x::l,o=>by
  have h1:=GY l (tvs x o)
  have h2:=Ga x o
  simp only[CC,Ag];omega
end
def tvK (x:A0) (o:List BA') (k:Nat):List BA':=CC (x.AB.take k) (tvS o x.AH x.A5)
theorem UH (x:A0) (o:List BA'):tvK x o 0=tvS o x.AH x.A5:=rfl
theorem UL (x:A0) (o:List BA'):tvK x o x.AB.length=tvs x o:=by cases x;simp[tvK,tvs]
theorem UJ {x:A0} {o:List BA'} {k:Nat} (h:k<x.AB.length):tvs x.AB[k] (tvK x o k)=tvK x o (k+1):=by
 unfold tvK
 rw[Y' h,GZ];rfl
theorem YJ (x:A0) (o:List BA') (k:Nat):(tvK x o k).length≤o.length+DF x.AB k:=by
 have h1:=GY (x.AB.take k) (tvS o x.AH x.A5)
 have h2:=Lc o x.AH x.A5
 unfold tvK DF;omega
def tv (x:A0):List BA':=tvs x []
def Bl (x:A0) (vars:List BA'):Bool:=Bx x && sub (tv x) vars
mutual
def Bq:A0→Bool
 |⟨k,_,l⟩=>D2 l||decide (k=3)
def D2:List A0→Bool
 |[]=>false
 |x::l=>Bq x||D2 l
end
theorem Jn:∀l:List A0,D2 l=l.any Bq
 |[]=>rfl
 |x::l=>by simp only[D2,Jn l,List.any_cons]
theorem Jo (x:A0):Bq x=(x.AB.any Bq||decide (x.AH=3)):=by rw[←Jn];cases x;simp only[Bq]
mutual
def occ (v:BA'):A0→Nat
 |⟨k,n,l⟩=>(if k=1∧n=v then 1 else 0)+DW v l
def DW (v:BA'):List A0→Nat
 |[]=>0
 |x::l=>occ v x+DW v l
end
theorem dZ (s:BA'):s.toList.length=s.size:=by rw[Go.ByteArray.toList_eq];simp
theorem Su (l:List BA') (hs:∀s∈l,s.size≤134217728) (hm:l.length≤134217728) (h:HP):CS cx.P 190 [.d (.sl false .one (l.map dS))] h (dB' (nms l)) h:=by
 refine Ze func190 rfl 16 ?_
 refine Zw ?_
 refine W.seq ?_
 refine Zw ?_
 refine W.block ?_
 refine W.loopI [0] [] (fun k0=>[(3,dI' k0)]) (fun _=>[]) l.length (fun k0=>∀j,j<k0→∀y,l[j]? =some y→(fun s=> !BV s) y=false) rfl (by simp) (by simp) fun k0 hk0 hi0 T hT=> ?_
 simp at hT;subst hT
 refine W.seq ?_
 refine Zw ?_
 refine Zc rfl ?_ ?_<;>intro hb0<;>try simp at hb0
 have hx:=B2 hb0 (by omega)
 refine W.skip ?_
 refine Zb ?_
 apply Zr;intros
 iterate 4 (refine Zo ?_ (by simp[hb0,hx]<;>omega);simp[hb0,hx])
 refine Zl [] rfl func122 (Ft l[k0] (hs _ (gm hb0)) _) ?_ (by simp[hb0,hx]);simp[hb0,hx]
 refine Zo ?_ (by simp[hb0,hx]<;>omega);simp[hb0,hx]
 exact Zx
 refine Zc rfl ?_ ?_<;>intro hb1<;>try simp at hb1
 have hres:=Fp (p:=fun s=> !BV s) hb0 (by simpa using hb1)
 refine Zw2 ?_
 refine W.ret (Zq ?_)
 simp[f190,nms,hres]
 refine W.skip ?_
 apply Zs;intros
 iterate 3 (refine Zo ?_ (by simp[hb0,hx]<;>omega);simp[hb0,hx])
 exact Zx
 refine⟨hb0,Bv (p:=fun s=> !BV s) hi0 hb0 (by simpa using hb1),Wz.to rfl rfl rfl ?_⟩
 simp
 have hkl:k0=l.length:=by omega
 subst hkl
 have hres:=HQ (p:=fun s=> !BV s) hi0
 refine W.exit ?_
 refine Zw ?_
 refine W.ret (Zq ?_)
 simp[f190,nms,hres]
theorem eR (l:List BA') (hm:l.length≤134217728) (h:HP):CS cx.P 60 [.d (.sl false .one (l.map dS))] h (dB' (dst l)) h:=by
 refine Ze func60 rfl 18 ?_
 refine Zw ?_
 refine W.seq ?_
 refine Zw ?_
 refine W.block ?_
 refine W.loopI [0] [] (fun k0=>[(3,dI' k0)]) (fun _=>[]) l.length (fun k0=>∀j,j<k0→FG l j=true) rfl (by simp) (by simp) fun k0 hk0 hi0 T hT=> ?_
 simp at hT;subst hT
 refine W.seq ?_
 refine Zw ?_
 refine Zc rfl ?_ ?_<;>intro hb0<;>try simp at hb0
 have hx:=B2 hb0 (by omega)
 refine W.skip ?_
 refine Zb ?_
 apply Yr rfl;intro K hK
 iterate 2 (refine Yo ?_ (by simp[hb0,hx]<;>omega);simp[hb0,hx])
 refine DL.op [] rfl (P8 (es:=l.map dS) rfl (by simp) (by simp[cls]) (by simp[okO]) (by simp[okX,okO]) (by simp[okX,okO]) rfl rfl (by simp[hb0,hx];rfl) rfl 0 k0 .i64 (by simp[loV,evT,cst]) (.inr ⟨_,by simp[evT];rfl⟩) (by first|omega|(simp<;>omega)) (by simp<;>omega)) rfl ?_;simp[hb0,hx]
 iterate 4 (refine Yo ?_ (by simp[hb0,hx]<;>omega);simp[hb0,hx])
 refine Yl [] rfl func61 (F8 (l.take k0) l[k0] (by simp;omega)) ?_ (by simp[hb0,hx]);simp[hb0,hx]
 exact DL.nil rfl hK
 refine Zc rfl ?_ ?_<;>intro hb1<;>try simp at hb1
 have hres:=We hb0 hb1
 refine Zw2 ?_
 refine W.ret (Zq ?_)
 simp[f60,hres]
 refine W.skip ?_
 apply Zs;intros
 iterate 3 (refine Zo ?_ (by simp[hb0,hx]<;>omega);simp[hb0,hx])
 exact Zx
 refine⟨hb0,FZ hi0 (by simpa[HE hb0] using hb1),Wz.to rfl rfl rfl ?_⟩
 simp
 have hkl:k0=l.length:=by omega
 subst hkl
 have hres:=Rd hi0
 refine W.exit ?_
 refine Zw ?_
 refine W.ret (Zq ?_)
 simp[f60,hres]
def CV (l:List BA') (most:Int):Bool:=decide ((l.length:Int)≤most) && nms l && dst l
theorem UK (x:A0) (o:List BA') {k:Nat} (h:k<x.AB.length):(tvK x o k).length+AR x.AB[k]≤o.length+AR x:=by
 have h1:=YJ x o k
 have h2:=Le h
 have h3:=Ih x (k+1)
 omega
theorem Vc (x:A0) (out:List BA') (hz:x.sz≤134217728) (ho:out.length+AR x≤1073741824) (hc:∀y∈x.AB,∀out:List BA',out.length+AR y≤1073741824→∀h,CS cx.P 295 [.d (y.dd false),.d (.sl true .one (out.map dS))] h (.d (.sl true .one ((tvs y out).map dS))) h) (h:HP):CS cx.P 295 [.d (x.dd false),.d (.sl true .one (out.map dS))] h (.d (.sl true .one ((tvs x out).map dS))) h:=by
 have hz2:=x.sz_eq;unfold szs at hz2
 refine Ze func295 rfl 36 ?_
 refine Zw ?_
 refine W.seq ?_
 refine W.seq ?_
 refine W.regJ (D:=_) [1,2] [2] [(15,.d (.lf (.bool (decide (x.AH=1) && !B7 out x.A5))))] [] rfl (fun _ K hD hK=> ?_) fun T hT=> ?_
 iterate 4 (refine Zo ?_;simp)
 refine WL.split 9 _ rfl (fun g9=> ?_) fun g9=> ?_<;>try simp at g9
 simp
 iterate 3 (refine ZG' ?_;simp)
 refine Zk hD rfl rfl [] rfl func61 (F8 out x.A5 (by omega) _) ?_;simp
 refine ZG' ?_;simp
 refine Zo ?_;simp
 refine WL.nil (hK _ (Wz.to rfl rfl rfl ?_))
 simp[g9]
 simp
 iterate 5 (refine ZN' ?_;simp)
 refine Zo ?_;simp
 refine WL.nil (hK _ (Wz.to rfl rfl rfl ?_))
 simp[g9]
 simp at hT;subst hT
 refine W.join [2] [2] [(1,.d (.sl true .one ((tvS out x.AH x.A5).map dS)))] [] ?_ fun T hT=> ?_
 refine Zc rfl ?_ ?_<;>intro hb0<;>try simp at hb0
 have ht:tvS out x.AH x.A5=out++[x.A5]:=by unfold tvS;rw[if_pos (by simpa using hb0)]
 apply Zs;intros
 refine Zm [16] ?_;simp
 iterate 5 (refine Zo ?_;simp)
 exact Zx
 refine Wz.to rfl rfl rfl ?_
 simp[ht]
 have ht:tvS out x.AH x.A5=out:=by unfold tvS;rw[if_neg (by simpa using hb0)]
 refine W.skip ?_
 refine Wz.to rfl rfl rfl ?_
 simp[ht]
 simp at hT;subst hT
 refine W.seq ?_
 refine Zw ?_
 refine W.block ?_
 refine W.loopk [2] [2] (fun k0=>[(5,dI' k0),(1,.d (.sl true .one ((tvK x out k0).map dS)))]) (fun _=>[]) x.AB.length rfl (by simp[UH]) fun k0 hk0 T hT=> ?_
 simp at hT;subst hT
 refine W.seq ?_
 refine Zw ?_
 refine Zc rfl ?_ ?_<;>intro hb1<;>try simp at hb1
 have hx:=B2 hb1 (by omega)
 have hl:=UK x out hb1
 refine W.skip ?_
 refine Zb ?_
 apply Zs;intros
 iterate 5 (refine Zo ?_ (by simp[hb1,hx]<;>omega);simp[hb1,hx])
 refine Zm [33] ?_ (by simp[hb1,hx]<;>omega);simp[hb1,hx]
 refine Zl [33] rfl func295 (hc x.AB[k0] (gm hb1) (tvK x out k0) (by omega) _) ?_ (by simp[hb1,hx]);simp[hb1,hx]
 refine Zo ?_ (by simp[hb1,hx]<;>omega);simp[hb1,hx]
 exact Zx
 apply Zs;intros
 iterate 3 (refine Zo ?_ (by simp[hb1,hx]<;>omega);simp[hb1,hx])
 exact Zx
 refine⟨hb1,Wz.to rfl rfl rfl ?_⟩
 have hs:=UJ (o:=out) hb1
 simp[hs]
 have hkl:k0=x.AB.length:=by omega
 subst hkl
 have hres:=UL x out
 refine W.exit ?_
 apply Zr;intros
 refine Zm [35] ?_;simp
 refine Zo ?_;simp
 exact Zx
 refine W.ret (Zq ?_)
 simp[f295,hres]
theorem Nl (x:A0) (out:List BA') (hz:x.sz≤134217728) (ho:out.length+AR x≤1073741824) (h:HP):CS cx.P 295 [.d (x.dd false),.d (.sl true .one (out.map dS))] h (.d (.sl true .one ((tvs x out).map dS))) h:=Vc x out hz ho (fun y hy out ho h=>Nl y out (by have h1:=Ae A0.sz hy;have h2:=x.sz_eq;unfold szs at h2;omega) ho h) h
termination_by SizeOf.sizeOf x
decreasing_by have:=List.sizeOf_lt_of_mem hy;have:=x.lt_fArgs;omega
theorem c8 (x:A0) (hz:x.sz≤134217728) (h:HP):CS cx.P 202 [.d (x.dd false)] h (.d (.sl true .one ((tv x).map dS))) h:=by
 refine Ze func202 rfl 6 ?_
 refine Zw ?_
 apply Zr;intros
 iterate 2 (refine Zo ?_;simp)
 refine Zl [4] rfl func295 (Nl x [] hz (by simp;have:=DG x;omega) _) ?_;simp
 refine Zo ?_;simp
 exact Zx
 refine W.ret (Zq ?_)
 simp[f202,tv]
theorem jo (x:A0) (hz:x.sz≤134217728) (hc:∀y∈x.AB,∀h,CS cx.P 279 [.d (y.dd false)] h (dB' (Bq y)) h) (h:HP):CS cx.P 279 [.d (x.dd false)] h (dB' (Bq x)) h:=by
 have hz2:=x.sz_eq;unfold szs at hz2
 refine Ze func279 rfl 20 ?_
 refine Zw ?_
 refine W.seq ?_
 refine Zw ?_
 refine W.block ?_
 refine W.loopI [1] [1] (fun k0=>[(3,dI' k0)]) (fun _=>[]) x.AB.length (fun k0=>∀j,j<k0→∀y,x.AB[j]? =some y→(Bq) y=false) rfl (by simp) (by simp) fun k0 hk0 hi0 T hT=> ?_
 simp at hT;subst hT
 refine W.seq ?_
 refine Zw ?_
 refine Zc rfl ?_ ?_<;>intro hb0<;>try simp at hb0
 have hx:=B2 hb0 (by omega)
 refine W.skip ?_
 refine Zb ?_
 apply Zr;intros
 iterate 5 (refine Zo ?_ (by simp[hb0,hx]<;>omega);simp[hb0,hx])
 refine Zl [] rfl func279 (hc x.AB[k0] (gm hb0) _) ?_ (by simp[hb0,hx]);simp[hb0,hx]
 exact Zx
 refine Zc rfl ?_ ?_<;>intro hb1<;>try simp at hb1
 have hres:=Fp (p:=Bq) hb0 (by simpa using hb1)
 refine Zw2 ?_
 refine W.ret (Zq ?_)
 simp[f279,Jo x,hres]
 refine W.skip ?_
 apply Zs;intros
 iterate 3 (refine Zo ?_ (by simp[hb0,hx]<;>omega);simp[hb0,hx])
 exact Zx
 refine⟨hb0,Bv (p:=Bq) hi0 hb0 (by simpa using hb1),Wz.to rfl rfl rfl ?_⟩
 simp
 have hkl:k0=x.AB.length:=by omega
 subst hkl
 have hres:=HQ (p:=Bq) hi0
 refine W.exit ?_
 refine Zw ?_
 refine W.ret (Zq ?_)
 simp[f279,Jo x,hres]
theorem c9 (x:A0) (hz:x.sz≤134217728) (h:HP):CS cx.P 279 [.d (x.dd false)] h (dB' (Bq x)) h:=jo x hz (fun y hy h=>c9 y (by have h1:=Ae A0.sz hy;have h2:=x.sz_eq;unfold szs at h2;omega) h) h
termination_by SizeOf.sizeOf x
decreasing_by have:=List.sizeOf_lt_of_mem hy;have:=x.lt_fArgs;omega
def En (l:List A0) (vars:List BA'):Bool:= !(l.any fun y=> !Bl y vars)
def CI (x:A0):Bool:=decide (x.AH=0) && decide (x.A5.toList=[]) && decide (x.AB=[])
def D5:List BA':=[⟨#[43]⟩,⟨#[45]⟩,⟨#[42]⟩,⟨#[60]⟩,⟨#[61]⟩]
theorem L4 (x:A0) (h:HP):CS cx.P 282 [.d (x.dd false)] h (dB' (CI x)) h:=by
 refine Ze func282 rfl 17 ?_
 refine Zw ?_
 refine W.seq ?_
 refine W.regJ0 (D:=_) rfl fun _ K hD hK=> ?_
 iterate 4 (refine Zo ?_;simp)
 refine WL.split 6 _ rfl (fun g6=> ?_) fun g6=> ?_<;>try simp at g6
 simp
 iterate 3 (refine ZG' ?_;simp)
 iterate 2 (refine Zo ?_;simp)
 refine WL.split 11 _ rfl (fun g11=> ?_) fun g11=> ?_<;>try simp at g11
 simp
 iterate 4 (refine ZG' ?_;simp)
 iterate 2 (refine Zo ?_;simp)
 refine WL.nil (hK _ ?_)
 refine W.ret (Zq ?_)
 simp[f282,CI,g6,g11]
 simp
 iterate 4 (refine ZN' ?_;simp)
 iterate 2 (refine Zo ?_;simp)
 refine WL.nil (hK _ ?_)
 refine W.ret (Zq ?_)
 simp[f282,CI,g6,g11]
 simp
 iterate 3 (refine ZN' ?_;simp)
 iterate 2 (refine Zo ?_;simp)
 iterate 4 (refine ZN' ?_;simp)
 iterate 2 (refine Zo ?_;simp)
 refine WL.nil (hK _ ?_)
 refine W.ret (Zq ?_)
 simp[f282,CI,g6]
theorem Nq (x:A0) (h:HP):CS cx.P 229 [.d (x.dd false)] h (dB' (CI x)) h:=by
 refine Ze func229 rfl 17 ?_
 refine Zw ?_
 refine W.seq ?_
 refine W.regJ0 (D:=_) rfl fun _ K hD hK=> ?_
 iterate 4 (refine Zo ?_;simp)
 refine WL.split 6 _ rfl (fun g6=> ?_) fun g6=> ?_<;>try simp at g6
 simp
 iterate 3 (refine ZG' ?_;simp)
 iterate 2 (refine Zo ?_;simp)
 refine WL.split 11 _ rfl (fun g11=> ?_) fun g11=> ?_<;>try simp at g11
 simp
 iterate 4 (refine ZG' ?_;simp)
 iterate 2 (refine Zo ?_;simp)
 refine WL.nil (hK _ ?_)
 refine W.ret (Zq ?_)
 simp[f229,CI,g6,g11]
 simp
 iterate 4 (refine ZN' ?_;simp)
 iterate 2 (refine Zo ?_;simp)
 refine WL.nil (hK _ ?_)
 refine W.ret (Zq ?_)
 simp[f229,CI,g6,g11]
 simp
 iterate 3 (refine ZN' ?_;simp)
 iterate 2 (refine Zo ?_;simp)
 iterate 4 (refine ZN' ?_;simp)
 iterate 2 (refine Zo ?_;simp)
 refine WL.nil (hK _ ?_)
 refine W.ret (Zq ?_)
 simp[f229,CI,g6]
theorem Sw (s:BA') (h:HP):CS cx.P 441 [dS' s] h (dB' (B7 D5 s)) h:=by
 refine Ze func441 rfl 6 ?_
 apply Zr;intros
 refine Zo ?_ (by simp[D5]<;>omega);simp[D5]
 exact Zx
 apply Zr;intros
 iterate 2 (refine Zo ?_ (by simp[D5]<;>omega);simp[D5])
 refine Zl [] rfl func61 (F8 D5 s (by decide) _) ?_ (by simp[D5]);simp[D5]
 refine Zo ?_ (by simp[D5]<;>omega);simp[D5]
 exact Zx
 refine W.ret (Zq ?_)
 simp[f441,D5]
