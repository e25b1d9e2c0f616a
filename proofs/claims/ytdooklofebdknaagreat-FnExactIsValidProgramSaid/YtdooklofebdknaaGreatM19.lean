/- Part 19. No condition. -/
import Derived.Test.YtdooklofebdknaaGreatM18
namespace Go.Proofs.YtdooklofebdknaaGreat
open Go.RowKit Tryz
set_option linter.unusedVariables false
set_option maxRecDepth 10000
set_option linter.unusedSimpArgs false
set_option maxHeartbeats 4000000
mutual
def szX:AG→Nat
 |⟨_,_,_,_,_,al,rl⟩=>1+EF al+EU rl
def EF:List AG→Nat
 |[]=>0
 |x::l=>szX x+EF l
def K8:Ab→Nat
 |⟨_,_,b⟩=>szX b
def EU:List Ab→Nat
 |[]=>0
 |x::l=>K8 x+EU l
end
theorem Iv:∀a b:List AG,EF (a++b)=EF a+EF b
 |[],b=>by simp[EF]
 |x::a,b=>by simp only[List.cons_append,EF,Iv a b];omega
theorem Iw:∀a b:List Ab,EU (a++b)=EU a+EU b
 |[],b=>by simp[EU]
 |x::a,b=>by simp only[List.cons_append,EU,Iw a b];omega
mutual
theorem HW:∀x:AG,szX x≤1+x.sz
 |⟨_,_,_,_,_,al,rl⟩=>by simp only[szX,AG.sz];have:=Pf al;have:=Pg rl;omega
theorem Pf:∀l:List AG,EF l≤l.length+AG.szLs l
 |[]=>by simp[EF,AG.szLs]
 |x::l=>by simp only[EF,AG.szLs,List.length_cons];have:=HW x;have:=Pf l;omega
theorem XO:∀x:Ab,K8 x≤1+x.sz
 |⟨_,_,b⟩=>by simp only[K8,Ab.sz];have:=HW b;omega
theorem Pg:∀l:List Ab,EU l≤l.length+Ab.szLs l
 |[]=>by simp[EU,Ab.szLs]
 |x::l=>by simp only[EU,Ab.szLs,List.length_cons];have:=XO x;have:=Pg l;omega
end
theorem XQ (x:Ab):K8 x=szX x.Aa:=by cases x;simp only[K8]
def xk (x:AG) (k:Nat):Nat:=1+EF (x.AB.take k)
def xr (x:AG) (k:Nat):Nat:=xk x x.AB.length+EU (x.Ad.take k)
theorem PM (x:AG):xk x 0=1:=rfl
theorem T9 {x:AG} {k:Nat} (h:k<x.AB.length):xk x (k+1)=xk x k+szX x.AB[k]:=by
 unfold xk
 rw[Y' h,Iv];simp[EF];omega
theorem T8 {x:AG} {k:Nat} (h:k<x.Ad.length):xr x (k+1)=xr x k+szX x.Ad[k].Aa:=by
 unfold xr
 rw[Y' h,Iw];simp[EU,XQ];omega
theorem L3 (x:AG):xr x x.Ad.length=szX x:=by cases x;simp[xr,xk,szX]
theorem L1 (x:AG):xr x 0=xk x x.AB.length:=by simp[xr,EU]
theorem TA (x:AG) (k:Nat):xk x k≤xr x 0:=by
 have:=Iv (x.AB.take k) (x.AB.drop k)
 rw[List.take_append_drop] at this
 rw[L1];unfold xk;simp;omega
theorem MM (x:AG) (k:Nat):xr x k≤szX x:=by
 have:=Iw (x.Ad.take k) (x.Ad.drop k)
 rw[List.take_append_drop] at this
 rw[←L3];unfold xr;simp;omega
theorem dR {x:AG} {k:Nat} {left:Int} (hk:k≤x.AB.length) (h:k<x.AB.length→lft (xk x k) left<0):lft (xr x 0) left=lft (xk x k) left:=by
 rcases Nat.lt_or_ge k x.AB.length with q|q
 ·exact Ld (by have:=h q;omega) (TA x k)
 ·have:k=x.AB.length:=by omega
  subst this;rw[L1]
theorem dQ {x:AG} {k:Nat} {left:Int} (hk:k≤x.Ad.length) (h:k<x.Ad.length→lft (xr x k) left<0):lft (szX x) left=lft (xr x k) left:=by
 rcases Nat.lt_or_ge k x.Ad.length with q|q
 ·exact Ld (by have:=h q;omega) (MM x k)
 ·have:k=x.Ad.length:=by omega
  subst this;rw[L3]
theorem SN (x:AG) (left:Int) (h0:0≤left) (h1:left≤134217728) (hz:x.sz≤134217728) (hc:∀y∈x.AB,∀left,0≤left→left≤134217728→∀h,CS cx.P 373 [.d (y.dd false),.d (.lf (.int .i64 (left)))] h (.d (.lf (.int .i64 (lft (szX y) left)))) h) (hc2:∀a∈x.Ad,∀left,0≤left→left≤134217728→∀h,CS cx.P 373 [.d (a.Aa.dd false),.d (.lf (.int .i64 (left)))] h (.d (.lf (.int .i64 (lft (szX a.Aa) left)))) h) (h:HP):CS cx.P 373 [.d (x.dd false),.d (.lf (.int .i64 (left)))] h (.d (.lf (.int .i64 (lft (szX x) left)))) h:=by
 have hz2:=x.sz_eq;unfold szs at hz2
 have hw0:=BF (n:=left - 1) (by omega) (by omega)
 have hl0:lft 1 left=left - 1:=by unfold lft;split<;>omega
 refine Ze func373 rfl 47 ?_
 apply Zr;intros
 iterate 2 (refine Zo ?_ (by simp[hw0]<;>omega);simp[hw0])
 exact Zx
 apply Zr;intros
 iterate 3 (refine Zo ?_ (by simp[hw0]<;>omega);simp[hw0])
 exact Zx
 refine W.seq ?_
 apply Zr;intros
 refine Zo ?_ (by simp[hw0]<;>omega);simp[hw0]
 exact Zx
 refine W.block ?_
 refine W.loopk [2] [2] (fun k0=>[(5,.d (.lf (.int .i64 (k0:Int)))),(1,.d (.lf (.int .i64 ((lft (xk x k0) left)))))]) (fun _=>[]) x.AB.length rfl (by simp[PM,hl0]) fun k0 hk0 T hT=> ?_
 simp at hT;subst hT
 refine W.seq ?_
 refine W.seq ?_
 refine W.regJ (D:=_) [1,2,5] [2] [(17,.d (.lf (.bool (decide (k0<x.AB.length) && decide (0≤(lft (xk x k0) left))))))] [] rfl (fun _ K hD hK=> ?_) fun T hT=> ?_
 iterate 6 (refine Zo ?_ (by simp[hw0]<;>omega);simp[hw0])
 refine WL.split 14 _ rfl (fun g14=> ?_) fun g14=> ?_<;>try simp at g14
 simp[hw0]
 iterate 2 (refine Zg hD rfl rfl ?_ (by simp[hw0]<;>omega);simp[hw0])
 refine Zo ?_ (by simp[hw0]<;>omega);simp[hw0]
 refine WL.nil (hK _ (Wz.to rfl rfl rfl ?_))
 simp[g14]<;>first|omega|grind
 simp[hw0]
 iterate 2 (refine Zn hD rfl rfl ?_;simp[hw0])
 refine Zo ?_ (by simp[hw0]<;>omega);simp[hw0]
 refine WL.nil (hK _ (Wz.to rfl rfl rfl ?_))
 simp[g14]<;>first|omega|grind
 simp at hT;subst hT
 refine Zc rfl ?_ ?_<;>intro hb0<;>try simp at hb0
 have hk2:=hb0.1
 have hx:=B1 hk2 (by omega)
 refine W.skip ?_
 refine Zb ?_
 apply Zs;intros
 iterate 6 (refine Zo ?_ (by simp[hw0,hk2,hx]<;>omega);simp[hw0,hk2,hx])
 refine Zl [] rfl func373 (hc x.AB[k0] (gm hk2) (lft (xk x k0) left) hb0.2 (by unfold lft;split<;>omega) _) ?_ (by simp[hw0,hk2,hx]);simp[hw0,hk2,hx]
 refine Zo ?_ (by simp[hw0,hk2,hx]<;>omega);simp[hw0,hk2,hx]
 exact Zx
 apply Zs;intros
 iterate 3 (refine Zo ?_ (by simp[hw0,hk2,hx]<;>omega);simp[hw0,hk2,hx])
 exact Zx
 refine⟨hk2,Wz.to rfl rfl rfl ?_⟩
 have hs:=Le (b:=szX x.AB[k0]) hb0.2
 rw[←T9 hk2] at hs
 simp[hs]
 have h2:lft (xr x 0) left=(lft (xk x k0) left):=dR hk0 hb0
 refine W.exit ?_
 refine W.seq ?_
 apply Zr;intros
 refine Zo ?_ (by simp[hw0]<;>omega);simp[hw0]
 exact Zx
 refine W.block ?_
 refine W.loopk [2] [2] (fun k1=>[(6,.d (.lf (.int .i64 (k1:Int)))),(1,.d (.lf (.int .i64 ((lft (xr x k1) left)))))]) (fun _=>[]) x.Ad.length rfl (by simp[h2]) fun k1 hk1 T hT=> ?_
 simp at hT;subst hT
 refine W.seq ?_
 refine W.seq ?_
 refine W.regJ (D:=_) [1,2,6] [2] [(35,.d (.lf (.bool (decide (k1<x.Ad.length) && decide (0≤(lft (xr x k1) left))))))] [] rfl (fun _ K hD hK=> ?_) fun T hT=> ?_
 iterate 6 (refine Zo ?_ (by simp[hw0]<;>omega);simp[hw0])
 refine WL.split 32 _ rfl (fun g32=> ?_) fun g32=> ?_<;>try simp at g32
 simp[hw0]
 iterate 2 (refine Zg hD rfl rfl ?_ (by simp[hw0]<;>omega);simp[hw0])
 refine Zo ?_ (by simp[hw0]<;>omega);simp[hw0]
 refine WL.nil (hK _ (Wz.to rfl rfl rfl ?_))
 simp[g32]<;>first|omega|grind
 simp[hw0]
 iterate 2 (refine Zn hD rfl rfl ?_;simp[hw0])
 refine Zo ?_ (by simp[hw0]<;>omega);simp[hw0]
 refine WL.nil (hK _ (Wz.to rfl rfl rfl ?_))
 simp[g32]<;>first|omega|grind
 simp at hT;subst hT
 refine Zc rfl ?_ ?_<;>intro hb1<;>try simp at hb1
 have hk3:=hb1.1
 have hx:=B1 hk3 (by omega)
 refine W.skip ?_
 refine Zb ?_
 apply Zs;intros
 iterate 7 (refine Zo ?_ (by simp[hw0,hk3,hx]<;>omega);simp[hw0,hk3,hx])
 refine Zl [] rfl func373 (hc2 x.Ad[k1] (gm hk3) (lft (xr x k1) left) hb1.2 (by unfold lft;split<;>omega) _) ?_ (by simp[hw0,hk3,hx]);simp[hw0,hk3,hx]
 refine Zo ?_ (by simp[hw0,hk3,hx]<;>omega);simp[hw0,hk3,hx]
 exact Zx
 apply Zs;intros
 iterate 3 (refine Zo ?_ (by simp[hw0,hk3,hx]<;>omega);simp[hw0,hk3,hx])
 exact Zx
 refine⟨hk3,Wz.to rfl rfl rfl ?_⟩
 have hs:=Le (b:=szX x.Ad[k1].Aa) hb1.2
 rw[←T8 hk3] at hs
 simp[hs]
 have hres:lft (szX x) left=(lft (xr x k1) left):=dQ hk1 hb1
 refine W.exit ?_
 apply Zr;intros
 iterate 2 (refine Zo ?_ (by simp[hw0]<;>omega);simp[hw0])
 exact Zx
 refine W.ret (Zq ?_)
 simp[f373,hres]
theorem He (x:AG) (left:Int) (h0:0≤left) (h1:left≤134217728) (hz:x.sz≤134217728) (h:HP):CS cx.P 373 [.d (x.dd false),.d (.lf (.int .i64 (left)))] h (.d (.lf (.int .i64 (lft (szX x) left)))) h:=SN x left h0 h1 hz (fun y hy left h0 h1 h=>He y left h0 h1 (by have h1:=Ah AG.sz hy;have h2:=x.sz_eq;unfold szs at h2;omega) h) (fun a ha left h0 h1 h=>He a.Aa left h0 h1 (by have h1:=Ah Ab.sz ha;have h2:=x.sz_eq;have h3:=a.sz_eq;unfold szs at h2;omega) h) h
termination_by SizeOf.sizeOf x
decreasing_by
 ·have:=List.sizeOf_lt_of_mem hy;have:=x.lt_fArgs;omega
 ·have:=List.sizeOf_lt_of_mem ha;have:=x.lt_fArms;have:=a.lt_fBody;omega
theorem Hg (x:AG) (hz:x.sz≤134217728) (h:HP):CS cx.P 374 [.d (x.dd false)] h (.d (.lf (.bool (exF x)))) h:=SQ x hz (fun y hy h=>Hg y (by have h1:=Ah AG.sz hy;have h2:=x.sz_eq;unfold szs at h2;omega) h) (fun a ha h=>Hg a.Aa (by have h1:=Ah Ab.sz ha;have h2:=x.sz_eq;have h3:=a.sz_eq;unfold szs at h2;omega) h) h
termination_by SizeOf.sizeOf x
decreasing_by
 ·have:=List.sizeOf_lt_of_mem hy;have:=x.lt_fArgs;omega
 ·have:=List.sizeOf_lt_of_mem ha;have:=x.lt_fArms;have:=a.lt_fBody;omega
def exV (x:AG):Bool:=decide (szX x≤300) && exF x
theorem S4 (x:AG) (hz:x.sz≤134217728) (h:HP):CS cx.P 309 [.d (x.dd false)] h (.d (.lf (.bool (exV x)))) h:=by
 have hk:=Uy (szX x) 300 (by omega)
 refine Ze func309 rfl 10 ?_
 apply Zr;intros
 iterate 2 (refine Zo ?_;simp)
 exact Zx
 refine W.seq ?_
 refine W.regJ0 (D:=_) rfl fun _ K hD hK=> ?_
 refine Zo ?_;simp
 refine Zl [] rfl func373 (He x 300 (by omega) (by omega) hz _) ?_;simp
 iterate 2 (refine Zo ?_;simp)
 refine WL.split 6 _ rfl (fun g6=> ?_) fun g6=> ?_<;>try simp at g6
 simp
 refine Zg hD rfl rfl ?_;simp
 refine Zk hD rfl rfl [] rfl func374 (Hg x hz _) ?_;simp
 iterate 2 (refine Zo ?_;simp)
 refine WL.nil (hK _ ?_)
 refine W.ret (Zq ?_)
 simp[f309,exV,g6]<;>simp at hk<;>first|omega|grind
 simp
 iterate 2 (refine Zn hD rfl rfl ?_;simp)
 iterate 2 (refine Zo ?_;simp)
 refine WL.nil (hK _ ?_)
 refine W.ret (Zq ?_)
 simp[f309,exV,g6]<;>simp at hk<;>first|omega|grind
def fv0 (b o:List ByteArray) (k:Int) (n:ByteArray):List ByteArray:=if k=3∧B6 b n=false∧B6 o n=false then o++[n] else o
mutual
def fvE:AG→List ByteArray→List ByteArray→List ByteArray
 |⟨k,_,n,_,_,al,rl⟩,b,o=>fvR rl b (fvA al (decide (k=8)) n 0 b (fv0 b o k n))
def fvA:List AG→Bool→ByteArray→Nat→List ByteArray→List ByteArray→List ByteArray
 |[],_,_,_,_,o=>o
 |x::l,t,n,i,b,o=>fvA l t n (i+1) b (fvE x (if (t && decide (i=1))=true then b++[n] else b) o)
def fvM:Ab→List ByteArray→List ByteArray→List ByteArray
 |⟨_,vs,e⟩,b,o=>fvE e (b++vs) o
def fvR:List Ab→List ByteArray→List ByteArray→List ByteArray
 |[],_,o=>o
 |x::l,b,o=>fvR l b (fvM x b o)
end
theorem Qu:∀(a c:List AG) (t:Bool) (n:ByteArray) (i:Nat) (b o:List ByteArray),fvA (a++c) t n i b o=fvA c t n (i+a.length) b (fvA a t n i b o)
 |[],c,t,n,i,b,o=>rfl
 |x::a,c,t,n,i,b,o=>by simp only[List.cons_append,fvA,Qu a c,List.length_cons];congr 1;omega
theorem Qt:∀(a c:List Ab) (b o:List ByteArray),fvR (a++c) b o=fvR c b (fvR a b o)
 |[],c,b,o=>rfl
 |x::a,c,b,o=>by simp only[List.cons_append,fvR,Qt a c]
theorem eI (x:Ab) (b o:List ByteArray):fvM x b o=fvE x.Aa (b++x.AZ) o:=by cases x;simp only[fvM]
theorem Lq (b o:List ByteArray) (k:Int) (n:ByteArray):(fv0 b o k n).length≤o.length+1:=by unfold fv0;split<;>simp
mutual
theorem Lp:∀(x:AG) (b o:List ByteArray),(fvE x b o).length≤o.length+szX x
 |⟨k,_,n,_,_,al,rl⟩,b,o=>by
  have h1:=Lo rl b (fvA al (decide (k=8)) n 0 b (fv0 b o k n))
  have h2:=Ib al (decide (k=8)) n 0 b (fv0 b o k n)
  have h3:=Lq b o k n
  simp only[fvE,szX];omega
theorem Ib:∀(l:List AG) (t:Bool) (n:ByteArray) (i:Nat) (b o:List ByteArray),(fvA l t n i b o).length≤o.length+EF l
 |[],_,_,_,_,o=>by simp[fvA,EF]
 |x::l,t,n,i,b,o=>by
  have h1:=Ib l t n (i+1) b (fvE x (if (t && decide (i=1))=true then b++[n] else b) o)
  have h2:=Lp x (if (t && decide (i=1))=true then b++[n] else b) o
  simp only[fvA,EF];omega
theorem Yx:∀(x:Ab) (b o:List ByteArray),(fvM x b o).length≤o.length+K8 x
 |⟨_,vs,e⟩,b,o=>by
  have:=Lp e (b++vs) o
  simp only[fvM,K8];omega
theorem Lo:∀(l:List Ab) (b o:List ByteArray),(fvR l b o).length≤o.length+EU l
 |[],_,o=>by simp[fvR,EU]
 |x::l,b,o=>by
  have h1:=Lo l b (fvM x b o)
  have h2:=Yx x b o
  simp only[fvR,EU];omega
end
def bIn (x:AG) (b:List ByteArray) (k:Nat):List ByteArray:=if (decide (x.AH=8) && decide (k=1))=true then b++[x.A6] else b
def faK (x:AG) (b o:List ByteArray) (k:Nat):List ByteArray:=fvA (x.AB.take k) (decide (x.AH=8)) x.A6 0 b (fv0 b o x.AH x.A6)
def frK (x:AG) (b o:List ByteArray) (k:Nat):List ByteArray:=fvR (x.Ad.take k) b (faK x b o x.AB.length)
theorem Nh (x:AG) (b o:List ByteArray):faK x b o 0=fv0 b o x.AH x.A6:=rfl
theorem H5 {x:AG} {b o:List ByteArray} {k:Nat} (h:k<x.AB.length):fvE x.AB[k] (bIn x b k) (faK x b o k)=faK x b o (k+1):=by
 unfold faK bIn
 rw[Y' h,Qu]
 have:(x.AB.take k).length=k:=by simp;omega
 rw[this,Nat.zero_add];rfl
theorem NU (x:AG) (b o:List ByteArray):frK x b o 0=faK x b o x.AB.length:=rfl
theorem NV {x:AG} {b o:List ByteArray} {k:Nat} (h:k<x.Ad.length):fvE x.Ad[k].Aa (b++x.Ad[k].AZ) (frK x b o k)=frK x b o (k+1):=by
 unfold frK
 rw[Y' h,Qt, ←eI];rfl
theorem NW (x:AG) (b o:List ByteArray):frK x b o x.Ad.length=fvE x b o:=by cases x;simp[frK,faK,fvE]
theorem Qx {x:AG} {b o:List ByteArray} {k:Nat} (h:k<x.AB.length):(faK x b o k).length+szX x.AB[k]≤o.length+szX x:=by
 have h1:=Ib (x.AB.take k) (decide (x.AH=8)) x.A6 0 b (fv0 b o x.AH x.A6)
 have h2:=Lq b o x.AH x.A6
 have h3:=T9 h
 have h4:=TA x (k+1)
 have h5:=MM x 0
 unfold xk at h3 h4
 unfold faK;omega
theorem Qv {x:AG} {b o:List ByteArray} {k:Nat} (h:k<x.Ad.length):(frK x b o k).length+szX x.Ad[k].Aa≤o.length+szX x:=by
 have h1:=Lo (x.Ad.take k) b (faK x b o x.AB.length)
 have h2:=Ib (x.AB.take x.AB.length) (decide (x.AH=8)) x.A6 0 b (fv0 b o x.AH x.A6)
 have h3:=Lq b o x.AH x.A6
 have h4:=T8 h
 have h5:=MM x (k+1)
 unfold xr xk at h4 h5
 unfold faK at h1
 unfold frK faK
 omega
def fv (x:AG):List ByteArray:=fvE x [] []
theorem SO (x:AG) (b o:List ByteArray) (hz:x.sz≤134217728) (hb:b.length+x.sz≤1073741824) (ho:o.length+szX x≤1073741824) (hc:∀y∈x.AB,∀b o:List ByteArray,b.length+y.sz≤1073741824→o.length+szX y≤1073741824→∀h,CS cx.P 372 [.d (y.dd false),.d (.sl false .one (b.map dS)),.d (.sl true .one (o.map dS))] h (.d (.sl true .one ((fvE y b o).map dS))) h) (hc2:∀a∈x.Ad,∀b o:List ByteArray,b.length+a.Aa.sz≤1073741824→o.length+szX a.Aa≤1073741824→∀h,CS cx.P 372 [.d (a.Aa.dd false),.d (.sl false .one (b.map dS)),.d (.sl true .one (o.map dS))] h (.d (.sl true .one ((fvE a.Aa b o).map dS))) h) (h:HP):CS cx.P 372 [.d (x.dd false),.d (.sl false .one (b.map dS)),.d (.sl true .one (o.map dS))] h (.d (.sl true .one ((fvE x b o).map dS))) h:=by
 have hz2:=x.sz_eq;unfold szs at hz2
 refine Ze func372 rfl 88 ?_
 apply Zr;intros
 iterate 2 (refine Zo ?_;simp)
 exact Zx
 refine W.seq ?_
 refine W.seq ?_
 refine W.regJ (D:=_) [1,2,3] [3] [(26,.d (.lf (.bool (decide (x.AH=3) && (!B6 b x.A6 && !B6 o x.A6)))))] [] rfl (fun _ K hD hK=> ?_) fun T hT=> ?_
 iterate 4 (refine Zo ?_;simp)
 refine WL.split 13 _ rfl (fun g13=> ?_) fun g13=> ?_<;>try simp at g13
 simp
 iterate 3 (refine Zg hD rfl rfl ?_;simp)
 refine Zk hD rfl rfl [] rfl func92 (F6 b x.A6 (by omega) _) ?_;simp
 refine Zg hD rfl rfl ?_;simp
 iterate 2 (refine Zo ?_;simp)
 refine WL.split 20 _ rfl (fun g20=> ?_) fun g20=> ?_<;>try simp at g20
 simp
 iterate 3 (refine Zg hD rfl rfl ?_;simp)
 refine Zk hD rfl rfl [] rfl func92 (F6 o x.A6 (by omega) _) ?_;simp
 refine Zg hD rfl rfl ?_;simp
 refine Zo ?_;simp
 refine WL.nil (hK _ (Wz.to rfl rfl rfl ?_))
 simp[g13,g20]
 simp
 iterate 5 (refine Zn hD rfl rfl ?_;simp)
 refine Zo ?_;simp
 refine WL.nil (hK _ (Wz.to rfl rfl rfl ?_))
 simp[g13,g20]
 simp
 iterate 5 (refine Zn hD rfl rfl ?_;simp)
 iterate 2 (refine Zo ?_;simp)
 iterate 5 (refine Zn hD rfl rfl ?_;simp)
 refine Zo ?_;simp
 refine WL.nil (hK _ (Wz.to rfl rfl rfl ?_))
 simp[g13]
 simp at hT;subst hT
 refine W.join [1,3] [3] [(2,.d (.sl true .one ((fv0 b o x.AH x.A6).map dS)))] [] ?_ fun T hT=> ?_
 refine Zc rfl ?_ ?_<;>intro hb0<;>try simp at hb0
 have ht:fv0 b o x.AH x.A6=o++[x.A6]:=by unfold fv0;rw[if_pos (by simpa using hb0)]
 apply Zs;intros
 refine Zm [27] ?_;simp
 iterate 5 (refine Zo ?_;simp)
 exact Zx
 refine Wz.to rfl rfl rfl ?_
 simp[ht]
 have ht:fv0 b o x.AH x.A6=o:=by unfold fv0;rw[if_neg (by simpa using hb0)]
 refine W.skip ?_
 refine Wz.to rfl rfl rfl ?_
 simp[ht]
 simp at hT;subst hT
 refine W.seq ?_
 apply Zr;intros
 refine Zo ?_;simp
 exact Zx
 refine W.block ?_
 refine W.loopk [1,3] [3] (fun k0=>[(7,.d (.lf (.int .i64 (k0:Int)))),(2,.d (.sl true .one ((faK x b o k0).map dS)))]) (fun _=>[]) x.AB.length rfl (by simp[Nh]) fun k0 hk0 T hT=> ?_
 simp at hT;subst hT
 refine W.seq ?_
 apply Zr;intros
 iterate 5 (refine Zo ?_;simp)
 exact Zx
 refine Zc rfl ?_ ?_<;>intro hb1<;>try simp at hb1
 have hx:=B1 hb1 (by omega)
 have hl:=Qx (b:=b) (o:=o) hb1
 have hy:=Ah AG.sz (gm hb1)
 have hbl:(bIn x b k0).length≤b.length+1:=by unfold bIn;split<;>simp
 refine W.skip ?_
 refine Zb ?_
 apply Zr;intros
 iterate 2 (refine Zo ?_ (by simp[hb1,hx]<;>omega);simp[hb1,hx])
 exact Zx
 refine W.seq ?_
 refine W.seq ?_
 refine W.regJ (D:=_) [1,2,3,7,8] [3] [(46,.d (.lf (.bool (decide (x.AH=8) && decide (k0=1)))))] [] rfl (fun _ K hD hK=> ?_) fun T hT=> ?_
 iterate 4 (refine Zo ?_ (by simp[hb1,hx]<;>omega);simp[hb1,hx])
 refine WL.split 43 _ rfl (fun g43=> ?_) fun g43=> ?_<;>try simp at g43
 simp[hb1,hx]
 iterate 2 (refine Zg hD rfl rfl ?_ (by simp[hb1,hx]<;>omega);simp[hb1,hx])
 refine Zo ?_ (by simp[hb1,hx]<;>omega);simp[hb1,hx]
 refine WL.nil (hK _ (Wz.to rfl rfl rfl ?_))
 simp[g43]<;>omega
 simp[hb1,hx]
 iterate 2 (refine Zn hD rfl rfl ?_;simp[hb1,hx])
 refine Zo ?_ (by simp[hb1,hx]<;>omega);simp[hb1,hx]
 refine WL.nil (hK _ (Wz.to rfl rfl rfl ?_))
 simp[g43]<;>omega
 simp at hT;subst hT
 refine Zc rfl ?_ ?_<;>intro hb2<;>try simp at hb2
 have hbi:bIn x b k0=b++[x.A6]:=by unfold bIn;rw[if_pos (by simpa using hb2)]
 apply W.regSD rfl;intro K hK
 refine Yo ?_ (by simp[hb1,hx,hbi]<;>omega);simp[hb1,hx,hbi]
 refine Ym [48] ?_ (by simp[hb1,hx,hbi]<;>omega);simp[hb1,hx,hbi]
 iterate 6 (refine Yo ?_ (by simp[hb1,hx,hbi]<;>omega);simp[hb1,hx,hbi])
 exact DL.nil rfl hK
 apply Zs;intros
 iterate 6 (refine Zo ?_ (by simp[hb1,hx,hbi]<;>omega);simp[hb1,hx,hbi])
 refine Zm [60] ?_ (by simp[hb1,hx,hbi]<;>omega);simp[hb1,hx,hbi]
 refine Zl [60] rfl func372 (hc x.AB[k0] (gm hb1) (bIn x b k0) (faK x b o k0) (by omega) (by omega) _) ?_ (by simp[hb1,hx,hbi]);simp[hb1,hx,hbi]
 refine Zo ?_ (by simp[hb1,hx,hbi]<;>omega);simp[hb1,hx,hbi]
 exact Zx
 apply Zs;intros
 iterate 3 (refine Zo ?_ (by simp[hb1,hx,hbi]<;>omega);simp[hb1,hx,hbi])
 exact Zx
 refine⟨hb1,Wz.to rfl rfl rfl ?_⟩
 have hs:=H5 (b:=b) (o:=o) hb1
 rw[hbi] at hs
 simp[hs]
 have hbi:bIn x b k0=b:=by unfold bIn;rw[if_neg (by simpa using hb2)]
 refine W.skip ?_
 apply Zs;intros
 iterate 6 (refine Zo ?_ (by simp[hb1,hx,hbi]<;>omega);simp[hb1,hx,hbi])
 refine Zm [60] ?_ (by simp[hb1,hx,hbi]<;>omega);simp[hb1,hx,hbi]
 refine Zl [60] rfl func372 (hc x.AB[k0] (gm hb1) (bIn x b k0) (faK x b o k0) (by omega) (by omega) _) ?_ (by simp[hb1,hx,hbi]);simp[hb1,hx,hbi]
 refine Zo ?_ (by simp[hb1,hx,hbi]<;>omega);simp[hb1,hx,hbi]
 exact Zx
 apply Zs;intros
 iterate 3 (refine Zo ?_ (by simp[hb1,hx,hbi]<;>omega);simp[hb1,hx,hbi])
 exact Zx
 refine⟨hb1,Wz.to rfl rfl rfl ?_⟩
 have hs:=H5 (b:=b) (o:=o) hb1
 rw[hbi] at hs
 simp[hs]
 have hkl:k0=x.AB.length:=by omega
 subst hkl
 refine W.exit ?_
 refine W.seq ?_
 apply Zr;intros
 refine Zo ?_;simp
 exact Zx
 refine W.block ?_
 refine W.loopk [1,3] [3] (fun k1=>[(9,.d (.lf (.int .i64 (k1:Int)))),(2,.d (.sl true .one ((frK x b o k1).map dS)))]) (fun _=>[]) x.Ad.length rfl (by simp[NU]) fun k1 hk1 T hT=> ?_
 simp at hT;subst hT
 refine W.seq ?_
 apply Zr;intros
 iterate 5 (refine Zo ?_;simp)
 exact Zx
 refine Zc rfl ?_ ?_<;>intro hb3<;>try simp at hb3
 have hx:=B1 hb3 (by omega)
 have hl:=Qv (b:=b) (o:=o) hb3
 have hy:=Ah Ab.sz (gm hb3)
 have hy2:=x.Ad[k1].sz_eq;unfold szs at hy2
 refine W.skip ?_
 refine Zb ?_
 apply W.regSD rfl;intro K hK
 iterate 7 (refine Yo ?_ (by simp[hb3,hx]<;>omega);simp[hb3,hx])
 refine Ym [76] ?_ (by simp[hb3,hx]<;>omega);simp[hb3,hx]
 iterate 6 (refine Yo ?_ (by simp[hb3,hx]<;>omega);simp[hb3,hx])
 refine Ym [83] ?_ (by simp[hb3,hx]<;>omega);simp[hb3,hx]
 refine Yo ?_ (by simp[hb3,hx]<;>omega);simp[hb3,hx]
 refine Ym [85] ?_ (by simp[hb3,hx]<;>omega);simp[hb3,hx]
 refine Yl [85] rfl func372 (hc2 x.Ad[k1] (gm hb3) (b++x.Ad[k1].AZ) (frK x b o k1) (by simp;omega) (by omega)) ?_ (by simp[hb3,hx]);simp[hb3,hx]
 refine Yo ?_ (by simp[hb3,hx]<;>omega);simp[hb3,hx]
 exact DL.nil rfl hK
 apply Zs;intros
 iterate 3 (refine Zo ?_ (by simp[hb3,hx]<;>omega);simp[hb3,hx])
 exact Zx
 refine⟨hb3,Wz.to rfl rfl rfl ?_⟩
 have hs:=NV (b:=b) (o:=o) hb3
 simp[hs]
 have hkl:k1=x.Ad.length:=by omega
 subst hkl
 have hres:=NW x b o
 refine W.exit ?_
 apply Zr;intros
 refine Zm [87] ?_;simp
 refine Zo ?_;simp
 exact Zx
 refine W.ret (Zq ?_)
 simp[f372,hres]
theorem Hf (x:AG) (b o:List ByteArray) (hz:x.sz≤134217728) (hb:b.length+x.sz≤1073741824) (ho:o.length+szX x≤1073741824) (h:HP):CS cx.P 372 [.d (x.dd false),.d (.sl false .one (b.map dS)),.d (.sl true .one (o.map dS))] h (.d (.sl true .one ((fvE x b o).map dS))) h:=SO x b o hz hb ho (fun y hy b o hb ho h=>Hf y b o (by have h1:=Ah AG.sz hy;have h2:=x.sz_eq;unfold szs at h2;omega) hb ho h) (fun a ha b o hb ho h=>Hf a.Aa b o (by have h1:=Ah Ab.sz ha;have h2:=x.sz_eq;have h3:=a.sz_eq;unfold szs at h2;omega) hb ho h) h
termination_by SizeOf.sizeOf x
decreasing_by
 ·have:=List.sizeOf_lt_of_mem hy;have:=x.lt_fArgs;omega
 ·have:=List.sizeOf_lt_of_mem ha;have:=x.lt_fArms;have:=a.lt_fBody;omega
theorem iQ (x:AG) (hz:x.sz≤134217728) (h:HP):CS cx.P 308 [.d (x.dd false)] h (.d (.sl true .one ((fv x).map dS))) h:=by
 have hsx:=HW x
 refine Ze func308 rfl 7 ?_
 apply Zr;intros
 iterate 2 (refine Zo ?_;simp)
 exact Zx
 apply Zr;intros
 iterate 3 (refine Zo ?_;simp)
 refine Zl [5] rfl func372 (Hf x [] [] hz (by simp;omega) (by simp;omega) _) ?_;simp
 refine Zo ?_;simp
 exact Zx
 refine W.ret (Zq ?_)
 simp[f308,fv]
def body (x:AG) (vars:List ByteArray):Bool:=exV x && sub (fv x) vars
def zT:A0:=⟨0,⟨#[]⟩,[]⟩
def zX:AG:=⟨0,⟨#[]⟩,⟨#[]⟩,0,zT,[],[]⟩
def Dj (x:AG):Bool:=decide (x.AH=0) && noS x.AK && noS x.A6 && decide (x.fN=0) && CJ x.AM && decide (x.AB=[]) && decide (x.Ad=[])
theorem Xv (l:List A0) (h:HP):CS cx.P 347 [.d (.sl false Ag (l.map (A0.dd false))),.d (.sl false Ag [])] h (.d (.lf (.bool (decide (l=[]))))) h:=by
 refine Ze func347 rfl 27 ?_
 apply Zr;intros
 refine Zo ?_;simp
 exact Zx
 refine W.seq ?_
 apply Zr;intros
 iterate 5 (refine Zo ?_;simp)
 exact Zx
 refine Zc rfl ?_ ?_<;>intro hb0<;>try simp at hb0
 have hres:¬l=[]:=hb0
 apply Zr;intros
 refine Zo ?_;simp
 exact Zx
 refine W.ret (Zq ?_)
 simp[f347,hres]
 have hres:l=[]:=hb0
 refine W.skip ?_
 refine W.seq ?_
 apply Zr;intros
 refine Zo ?_;simp
 exact Zx
 refine W.block ?_
 refine W.loopk [0,1] [] (fun k0=>[(5,.d (.lf (.int .i64 (k0:Int))))]) (fun _=>[]) 0 rfl (by simp) fun k0 hk0 T hT=> ?_
 simp at hT;subst hT
 refine W.seq ?_
 apply Zr;intros
 iterate 4 (refine Zo ?_;simp)
 exact Zx
 refine Zc rfl ?_ ?_<;>intro hb1<;>try simp at hb1
 exfalso;rw[hres] at hb1;simp at hb1
 refine W.exit ?_
 apply Zr;intros
 refine Zo ?_;simp
 exact Zx
 refine W.ret (Zq ?_)
 simp[f347,hres]
theorem eS (x:A0) (h:HP):CS cx.P 283 [.d (x.dd false),.d (zT.dd false)] h (.d (.lf (.bool (CJ x)))) h:=by
 refine Ze func283 rfl 24 ?_
 apply Zr;intros
 iterate 3 (refine Zo ?_ (by simp[zT]<;>omega);simp[zT])
 exact Zx
 refine W.seq ?_
 refine W.regJ0 (D:=_) rfl fun _ K hD hK=> ?_
 iterate 6 (refine Zo ?_ (by simp[zT]<;>omega);simp[zT])
 refine WL.split 10 _ rfl (fun g10=> ?_) fun g10=> ?_<;>try simp at g10
 simp[zT]
 iterate 5 (refine Zg hD rfl rfl ?_ (by simp[zT]<;>omega);simp[zT])
 iterate 2 (refine Zo ?_ (by simp[zT]<;>omega);simp[zT])
 refine WL.split 17 _ rfl (fun g17=> ?_) fun g17=> ?_<;>try simp at g17
 simp[zT]
 iterate 4 (refine Zg hD rfl rfl ?_ (by simp[zT]<;>omega);simp[zT])
 refine Zk hD rfl rfl [] rfl func347 (Xv x.AB _) ?_ (by simp[zT]);simp[zT]
 iterate 2 (refine Zo ?_ (by simp[zT]<;>omega);simp[zT])
 refine WL.nil (hK _ ?_)
 refine W.ret (Zq ?_)
 simp[f283,CJ,g10,g17]
 simp[zT]
 iterate 5 (refine Zn hD rfl rfl ?_;simp[zT])
 iterate 2 (refine Zo ?_ (by simp[zT]<;>omega);simp[zT])
 refine WL.nil (hK _ ?_)
 refine W.ret (Zq ?_)
 simp[f283,CJ,g10,g17]
 simp[zT]
 iterate 5 (refine Zn hD rfl rfl ?_;simp[zT])
 iterate 2 (refine Zo ?_ (by simp[zT]<;>omega);simp[zT])
 iterate 5 (refine Zn hD rfl rfl ?_;simp[zT])
 iterate 2 (refine Zo ?_ (by simp[zT]<;>omega);simp[zT])
 refine WL.nil (hK _ ?_)
 refine W.ret (Zq ?_)
 simp[f283,CJ,g10]
theorem eR (x:AG) (h:HP):CS cx.P 368 [.d (x.dd false),.d (zX.dd false)] h (.d (.lf (.bool (Dj x)))) h:=by
 refine Ze func368 rfl 130 ?_
 apply Zr;intros
 iterate 3 (refine Zo ?_ (by simp[zX]<;>omega);simp[zX])
 exact Zx
 refine W.seq ?_
 refine W.seq ?_
 refine W.regJ (D:=_) [2,3] [2,3] [(58,.d (.lf (.bool (!Dj x))))] [] rfl (fun _ K hD hK=> ?_) fun T hT=> ?_
 iterate 6 (refine Zo ?_ (by simp[zX]<;>omega);simp[zX])
 refine WL.split 12 _ rfl (fun g12=> ?_) fun g12=> ?_<;>try simp at g12
 simp[zX]
 iterate 5 (refine Zn hD rfl rfl ?_;simp[zX])
 iterate 2 (refine Zo ?_ (by simp[zX]<;>omega);simp[zX])
 iterate 5 (refine Zn hD rfl rfl ?_;simp[zX])
 iterate 2 (refine Zo ?_ (by simp[zX]<;>omega);simp[zX])
 iterate 5 (refine Zn hD rfl rfl ?_;simp[zX])
 iterate 2 (refine Zo ?_ (by simp[zX]<;>omega);simp[zX])
 iterate 6 (refine Zn hD rfl rfl ?_;simp[zX])
 iterate 2 (refine Zo ?_ (by simp[zX]<;>omega);simp[zX])
 iterate 7 (refine Zn hD rfl rfl ?_;simp[zX])
 iterate 2 (refine Zo ?_ (by simp[zX]<;>omega);simp[zX])
 iterate 7 (refine Zn hD rfl rfl ?_;simp[zX])
 refine Zo ?_ (by simp[zX]<;>omega);simp[zX]
 refine WL.nil (hK _ (Wz.to rfl rfl rfl ?_))
 simp[Dj,noS,g12]<;>first|grind|(cases x.Ad<;>simp<;>omega)|omega
 simp[zX]
 iterate 5 (refine Zg hD rfl rfl ?_ (by simp[zX]<;>omega);simp[zX])
 iterate 2 (refine Zo ?_ (by simp[zX]<;>omega);simp[zX])
 refine WL.split 19 _ rfl (fun g19=> ?_) fun g19=> ?_<;>try simp at g19
 simp[zX]
 iterate 5 (refine Zn hD rfl rfl ?_;simp[zX])
 iterate 2 (refine Zo ?_ (by simp[zX]<;>omega);simp[zX])
 iterate 5 (refine Zn hD rfl rfl ?_;simp[zX])
 iterate 2 (refine Zo ?_ (by simp[zX]<;>omega);simp[zX])
 iterate 6 (refine Zn hD rfl rfl ?_;simp[zX])
 iterate 2 (refine Zo ?_ (by simp[zX]<;>omega);simp[zX])
 iterate 7 (refine Zn hD rfl rfl ?_;simp[zX])
 iterate 2 (refine Zo ?_ (by simp[zX]<;>omega);simp[zX])
 iterate 7 (refine Zn hD rfl rfl ?_;simp[zX])
 refine Zo ?_ (by simp[zX]<;>omega);simp[zX]
 refine WL.nil (hK _ (Wz.to rfl rfl rfl ?_))
 simp[Dj,noS,g12,g19]<;>first|grind|(cases x.Ad<;>simp<;>omega)|omega
 simp[zX]
 iterate 5 (refine Zg hD rfl rfl ?_ (by simp[zX]<;>omega);simp[zX])
 iterate 2 (refine Zo ?_ (by simp[zX]<;>omega);simp[zX])
 refine WL.split 26 _ rfl (fun g26=> ?_) fun g26=> ?_<;>try simp at g26
 simp[zX]
 iterate 5 (refine Zn hD rfl rfl ?_;simp[zX])
 iterate 2 (refine Zo ?_ (by simp[zX]<;>omega);simp[zX])
 iterate 6 (refine Zn hD rfl rfl ?_;simp[zX])
 iterate 2 (refine Zo ?_ (by simp[zX]<;>omega);simp[zX])
 iterate 7 (refine Zn hD rfl rfl ?_;simp[zX])
 iterate 2 (refine Zo ?_ (by simp[zX]<;>omega);simp[zX])
 iterate 7 (refine Zn hD rfl rfl ?_;simp[zX])
 refine Zo ?_ (by simp[zX]<;>omega);simp[zX]
 refine WL.nil (hK _ (Wz.to rfl rfl rfl ?_))
 simp[Dj,noS,g12,g19,g26]<;>first|grind|(cases x.Ad<;>simp<;>omega)|omega
 simp[zX]
 iterate 5 (refine Zg hD rfl rfl ?_ (by simp[zX]<;>omega);simp[zX])
 iterate 2 (refine Zo ?_ (by simp[zX]<;>omega);simp[zX])
 refine WL.split 33 _ rfl (fun g33=> ?_) fun g33=> ?_<;>try simp at g33
 simp[zX]
 iterate 6 (refine Zn hD rfl rfl ?_;simp[zX])
 iterate 2 (refine Zo ?_ (by simp[zX]<;>omega);simp[zX])
 iterate 7 (refine Zn hD rfl rfl ?_;simp[zX])
 iterate 2 (refine Zo ?_ (by simp[zX]<;>omega);simp[zX])
 iterate 7 (refine Zn hD rfl rfl ?_;simp[zX])
 refine Zo ?_ (by simp[zX]<;>omega);simp[zX]
 refine WL.nil (hK _ (Wz.to rfl rfl rfl ?_))
 simp[Dj,noS,g12,g19,g26,g33]<;>first|grind|(cases x.Ad<;>simp<;>omega)|omega
 simp[zX]
 iterate 4 (refine Zg hD rfl rfl ?_ (by simp[zX]<;>omega);simp[zX])
 refine Zk hD rfl rfl [] rfl func283 (eS x.AM _) ?_ (by simp[zX]);simp[zX]
 refine Zg hD rfl rfl ?_ (by simp[zX]<;>omega);simp[zX]
 iterate 2 (refine Zo ?_ (by simp[zX]<;>omega);simp[zX])
 refine WL.split 41 _ rfl (fun g41=> ?_) fun g41=> ?_<;>try simp at g41
 simp[zX]
 iterate 7 (refine Zn hD rfl rfl ?_;simp[zX])
 iterate 2 (refine Zo ?_ (by simp[zX]<;>omega);simp[zX])
 iterate 7 (refine Zn hD rfl rfl ?_;simp[zX])
 refine Zo ?_ (by simp[zX]<;>omega);simp[zX]
 refine WL.nil (hK _ (Wz.to rfl rfl rfl ?_))
 simp[Dj,noS,g12,g19,g26,g33,g41]<;>first|grind|(cases x.Ad<;>simp<;>omega)|omega
 simp[zX]
 iterate 7 (refine Zg hD rfl rfl ?_ (by simp[zX]<;>omega);simp[zX])
 iterate 2 (refine Zo ?_ (by simp[zX]<;>omega);simp[zX])
 refine WL.split 50 _ rfl (fun g50=> ?_) fun g50=> ?_<;>try simp at g50
 simp[zX]
 iterate 7 (refine Zn hD rfl rfl ?_;simp[zX])
 refine Zo ?_ (by simp[zX]<;>omega);simp[zX]
 refine WL.nil (hK _ (Wz.to rfl rfl rfl ?_))
 simp[Dj,noS,g12,g19,g26,g33,g41,g50]<;>first|grind|(cases x.Ad<;>simp<;>omega)|omega
 simp[zX]
 iterate 7 (refine Zg hD rfl rfl ?_ (by simp[zX]<;>omega);simp[zX])
 refine Zo ?_ (by simp[zX]<;>omega);simp[zX]
 refine WL.nil (hK _ (Wz.to rfl rfl rfl ?_))
 simp[Dj,noS,g12,g19,g26,g33,g41,g50]<;>first|grind|(cases x.Ad<;>simp<;>omega)|omega
 simp at hT;subst hT
 refine Zc rfl ?_ ?_<;>intro hb0<;>try simp at hb0
 have hres:Dj x=false:=by simpa using hb0
 apply Zr;intros
 refine Zo ?_ (by simp[zX]<;>omega);simp[zX]
 exact Zx
 refine W.ret (Zq ?_)
 simp[f368,hres]
 have hres:Dj x=true:=by simpa using hb0
 have ha:x.AB=[]∧x.Ad=[]:=by have:=hres;unfold Dj at this;simp at this;exact⟨this.1.2,this.2⟩
 have ha1:=ha.1
 have ha2:=ha.2
 refine W.skip ?_
 refine W.seq ?_
 apply Zr;intros
 refine Zo ?_ (by simp[zX]<;>omega);simp[zX]
 exact Zx
 refine W.block ?_
 refine W.loopk [2,3] [2,3] (fun k0=>[(5,.d (.lf (.int .i64 (k0:Int))))]) (fun _=>[]) 0 rfl (by simp) fun k0 hk0 T hT=> ?_
 simp at hT;subst hT
 refine W.seq ?_
 apply Zr;intros
 iterate 5 (refine Zo ?_ (by simp[zX]<;>omega);simp[zX])
 exact Zx
 refine Zc rfl ?_ ?_<;>intro hb1<;>try simp[ha1] at hb1
 refine W.exit ?_
 refine W.seq ?_
 apply Zr;intros
 refine Zo ?_ (by simp[zX]<;>omega);simp[zX]
 exact Zx
 refine W.block ?_
 refine W.loopk [2,3] [2,3] (fun k1=>[(6,.d (.lf (.int .i64 (k1:Int))))]) (fun _=>[]) 0 rfl (by simp) fun k1 hk1 T hT=> ?_
 simp at hT;subst hT
 refine W.seq ?_
 apply Zr;intros
 iterate 5 (refine Zo ?_ (by simp[zX]<;>omega);simp[zX])
 exact Zx
 refine Zc rfl ?_ ?_<;>intro hb3<;>try simp[ha2] at hb3
 refine W.exit ?_
 apply Zr;intros
 refine Zo ?_ (by simp[zX]<;>omega);simp[zX]
 exact Zx
 refine W.ret (Zq ?_)
 simp[f368,hres]
theorem SL (x:AG) (h:HP):CS cx.P 305 [.d (x.dd false)] h (.d (.lf (.bool (Dj x)))) h:=by
 refine Ze func305 rfl 6 ?_
 apply Zr;intros
 iterate 2 (refine Zo ?_ (by simp[zX,zT]<;>omega);simp[zX,zT])
 exact Zx
 apply Zr;intros
 iterate 2 (refine Zo ?_ (by simp[zX,zT]<;>omega);simp[zX,zT])
 refine Zl [] rfl func368 (eR x _) ?_ (by simp[zX,zT]);simp[zX,zT]
 refine Zo ?_ (by simp[zX,zT]<;>omega);simp[zX,zT]
 exact Zx
 refine W.ret (Zq ?_)
 simp[f305]
def En {α:Type} (l:List α) (f:α→ByteArray) (k:Nat):List ByteArray:=(l.take k).map f
theorem Ha {α:Type} (l:List α) (f:α→ByteArray):En l f 0=[]:=rfl
theorem Em {α:Type} (l:List α) (f:α→ByteArray):En l f l.length=l.map f:=by unfold En;rw[List.take_length]
theorem Hb {α:Type} {l:List α} (f:α→ByteArray) {k:Nat} (h:k<l.length):(En l f k).map dS++[.lf (.string (f l[k]))]=(En l f (k+1)).map dS:=by
 unfold En
 rw[Y' h,List.map_append,List.map_append];rfl
theorem Fc {α:Type} {l:List α} (f:α→ByteArray) {k:Nat} (h:k≤l.length):(En l f k).length=k:=by unfold En;simp;omega
def Q1:List ByteArray:=[⟨#[115,101,108,102]⟩]
def EZ (b:A9) (vars:List ByteArray):Bool:= !(BU b.AK && Bx b.AM)|| !Bl b.AM vars||Bq b.AM
def An (l:List A9) (vars:List ByteArray):Bool:= !(l.any fun b=>EZ b vars) && decide (l.length≤4)
def FB (g:AC):Bool:=BU g.A6 && decide (g.Al.length≤4) && El g.Al Q1 && Bl g.B8 Q1 && (if g.BR=true then CU g.AZ 5 && decide (g.AZ.length=g.Al.length+1) && body g.Aa g.AZ else decide (g.AZ=[]) && Dj g.Aa)
def DB (t:AS):Bool:= !(t.AU.any fun g=> !FB g) && !(t.CP && (t.B3|| !decide (t.AU=[])|| !decide (t.Ao=[]))) && BU t.A6 && CU t.Ao 4 && CU (t.AU.map AC.A6) 6
def I8 (c:AA) (vars:List ByteArray):Bool:=decide (4<c.At.length)|| !El c.At vars
def D2 (d:AF):Bool:= !(d.A4.any fun c=>I8 c d.AZ) && BU d.A6 && CU d.AZ 3 && decide (0<d.A4.length) && CU (d.A4.map AA.A6) 5
def F4 (m:AX):Bool:=decide (m.AZ=[])|| !CU m.AZ 5|| !body m.Aa m.AZ
def inst1 (x:AJ):Bool:=BU x.AK && CU x.AZ 3 && Bl x.Ar x.AZ && !Bq x.Ar && !decide (x.Ar.AH=4) && An x.Af x.AZ
def inst2 (x:AJ):Bool:=if x.BS=true then Bl x.B3 x.AZ else CJ x.B3
def instOk (x:AJ):Bool:=inst1 x && !(x.AZ.any fun v=> !decide (0<occ v x.Ar)) && inst2 x && !(x.Ap.any F4) && CU (x.Ap.map AX.A6) 6
def NY (x:AL):Bool:= !(x.Al.any fun p=> !Bl p.AM x.AZ) && BU x.A6 && CU x.AZ 3 && An x.Af x.AZ && CU (x.Al.map AW.A6) 5 && Bl x.B8 x.AZ && body x.Aa (x.Al.map AW.A6)
