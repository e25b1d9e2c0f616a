/- Part 21. No condition. -/
import Derived.Test.YtgihkamifpmfdaaGreatDoorM18
namespace Go.Proofs.YtgihkamifpmfdaaGreatDoor
open Go.RowKit Tryz
set_option linter.unusedVariables false
set_option maxRecDepth 10000
set_option linter.unusedSimpArgs false
set_option maxHeartbeats 4000000
mutual
def szX:AG→Nat
 |⟨_,_,_,_,_,al,rl⟩=>1+EH al+EW rl
def EH:List AG→Nat
 |[]=>0
 |x::l=>szX x+EH l
def KT:Ac→Nat
 |⟨_,_,b⟩=>szX b
def EW:List Ac→Nat
 |[]=>0
 |x::l=>KT x+EW l
end
theorem JC:∀a b:List AG,EH (a++b)=EH a+EH b
 |[],b=>by simp[EH]
 |x::a,b=>by simp only[List.cons_append,EH,JC a b];omega
theorem JD:∀a b:List Ac,EW (a++b)=EW a+EW b
 |[],b=>by simp[EW]
 |x::a,b=>by simp only[List.cons_append,EW,JD a b];omega
mutual
theorem Hc:∀x:AG,szX x≤1+x.sz
 |⟨_,_,_,_,_,al,rl⟩=>by simp only[szX,AG.sz];have:=Q4 al;have:=Q5 rl;omega
theorem Q4:∀l:List AG,EH l≤l.length+AG.szLs l
 |[]=>by simp[EH,AG.szLs]
 |x::l=>by simp only[EH,AG.szLs,List.length_cons];have:=Hc x;have:=Q4 l;omega
theorem YS:∀x:Ac,KT x≤1+x.sz
 |⟨_,_,b⟩=>by simp only[KT,Ac.sz];have:=Hc b;omega
theorem Q5:∀l:List Ac,EW l≤l.length+Ac.szLs l
 |[]=>by simp[EW,Ac.szLs]
 |x::l=>by simp only[EW,Ac.szLs,List.length_cons];have:=YS x;have:=Q5 l;omega
end
theorem YT (x:Ac):KT x=szX x.Ab:=by cases x;simp only[KT]
def xk (x:AG) (k:Nat):Nat:=1+EH (x.AB.take k)
def xr (x:AG) (k:Nat):Nat:=xk x x.AB.length+EW (x.Af.take k)
theorem Pl (x:AG):xk x 0=1:=rfl
theorem Tj {x:AG} {k:Nat} (h:k<x.AB.length):xk x (k+1)=xk x k+szX x.AB[k]:=by
 unfold xk
 rw[Y' h,JC];simp[EH];omega
theorem Ti {x:AG} {k:Nat} (h:k<x.Af.length):xr x (k+1)=xr x k+szX x.Af[k].Ab:=by
 unfold xr
 rw[Y' h,JD];simp[EW,YT];omega
theorem LP (x:AG):xr x x.Af.length=szX x:=by cases x;simp[xr,xk,szX]
theorem LO (x:AG):xr x 0=xk x x.AB.length:=by simp[xr,EW]
theorem Tk (x:AG) (k:Nat):xk x k≤xr x 0:=by
 have:=JC (x.AB.take k) (x.AB.drop k)
 rw[List.take_append_drop] at this
 rw[LO];unfold xk;simp;omega
theorem Mj (x:AG) (k:Nat):xr x k≤szX x:=by
 have:=JD (x.Af.take k) (x.Af.drop k)
 rw[List.take_append_drop] at this
 rw[←LP];unfold xr;simp;omega
theorem f8 {x:AG} {k:Nat} {left:Int} (hk:k≤x.AB.length) (h:k<x.AB.length→lft (xk x k) left<0):lft (xr x 0) left=lft (xk x k) left:=by
 rcases Nat.lt_or_ge k x.AB.length with q|q
 ·exact M0 (by have:=h q;omega) (Tk x k)
 ·have:k=x.AB.length:=by omega
  subst this;rw[LO]
theorem f7 {x:AG} {k:Nat} {left:Int} (hk:k≤x.Af.length) (h:k<x.Af.length→lft (xr x k) left<0):lft (szX x) left=lft (xr x k) left:=by
 rcases Nat.lt_or_ge k x.Af.length with q|q
 ·exact M0 (by have:=h q;omega) (Mj x k)
 ·have:k=x.Af.length:=by omega
  subst this;rw[LP]
theorem Sx (x:AG) (left:Int) (h0:0≤left) (h1:left≤134217728) (hz:x.sz≤134217728) (hc:∀y∈x.AB,∀left,0≤left→left≤134217728→∀h,CS cx.P 410 [.d (y.dd false),dI' left] h (dI' (lft (szX y) left)) h) (hc2:∀a∈x.Af,∀left,0≤left→left≤134217728→∀h,CS cx.P 410 [.d (a.Ab.dd false),dI' left] h (dI' (lft (szX a.Ab) left)) h) (h:HP):CS cx.P 410 [.d (x.dd false),dI' left] h (dI' (lft (szX x) left)) h:=by
 have hz2:=x.sz_eq;unfold szs at hz2
 have hw0:=BH (n:=left - 1) (by omega) (by omega)
 have hl0:lft 1 left=left - 1:=by unfold lft;split<;>omega
 refine Ze func410 rfl 47 ?_
 refine Zw2 ?_
 refine Zw2 ?_
 refine W.seq ?_
 refine Zw2 ?_
 refine W.block ?_
 refine W.loopk [2] [2] (fun k0=>[(5,dI' k0),(1,dI' ((lft (xk x k0) left)))]) (fun _=>[]) x.AB.length rfl (by simp[Pl,hl0]) fun k0 hk0 T hT=> ?_
 simp at hT;subst hT
 refine W.seq ?_
 refine W.seq ?_
 refine W.regJ (D:=_) [1,2,5] [2] [(17,.d (.lf (.bool (decide (k0<x.AB.length) && decide (0≤(lft (xk x k0) left))))))] [] rfl (fun _ K hD hK=> ?_) fun T hT=> ?_
 iterate 6 (refine Zo ?_ (by simp[hw0]<;>omega);simp[hw0])
 refine WL.split 14 _ rfl (fun g14=> ?_) fun g14=> ?_<;>try simp at g14
 simp[hw0]
 iterate 2 (refine ZG' ?_ (by simp[hw0]<;>omega);simp[hw0])
 refine Zo ?_ (by simp[hw0]<;>omega);simp[hw0]
 refine WL.nil (hK _ (Wz.to rfl rfl rfl ?_))
 simp[g14]<;>first|omega|grind
 simp[hw0]
 iterate 2 (refine ZN' ?_;simp[hw0])
 refine Zo ?_ (by simp[hw0]<;>omega);simp[hw0]
 refine WL.nil (hK _ (Wz.to rfl rfl rfl ?_))
 simp[g14]<;>first|omega|grind
 simp at hT;subst hT
 refine Zc rfl ?_ ?_<;>intro hb0<;>try simp at hb0
 have hk2:=hb0.1
 have hx:=B2 hk2 (by omega)
 refine W.skip ?_
 refine Zb ?_
 apply Zs;intros
 iterate 6 (refine Zo ?_ (by simp[hw0,hk2,hx]<;>omega);simp[hw0,hk2,hx])
 refine Zl [] rfl func410 (hc x.AB[k0] (gm hk2) (lft (xk x k0) left) hb0.2 (by unfold lft;split<;>omega) _) ?_ (by simp[hw0,hk2,hx]);simp[hw0,hk2,hx]
 refine Zo ?_ (by simp[hw0,hk2,hx]<;>omega);simp[hw0,hk2,hx]
 exact Zx
 apply Zs;intros
 iterate 3 (refine Zo ?_ (by simp[hw0,hk2,hx]<;>omega);simp[hw0,hk2,hx])
 exact Zx
 refine⟨hk2,Wz.to rfl rfl rfl ?_⟩
 have hs:=M1 (b:=szX x.AB[k0]) hb0.2
 rw[←Tj hk2] at hs
 simp[hs]
 have h2:lft (xr x 0) left=(lft (xk x k0) left):=f8 hk0 hb0
 refine W.exit ?_
 refine W.seq ?_
 refine Zw2 ?_
 refine W.block ?_
 refine W.loopk [2] [2] (fun k1=>[(6,dI' k1),(1,dI' ((lft (xr x k1) left)))]) (fun _=>[]) x.Af.length rfl (by simp[h2]) fun k1 hk1 T hT=> ?_
 simp at hT;subst hT
 refine W.seq ?_
 refine W.seq ?_
 refine W.regJ (D:=_) [1,2,6] [2] [(35,.d (.lf (.bool (decide (k1<x.Af.length) && decide (0≤(lft (xr x k1) left))))))] [] rfl (fun _ K hD hK=> ?_) fun T hT=> ?_
 iterate 6 (refine Zo ?_ (by simp[hw0]<;>omega);simp[hw0])
 refine WL.split 32 _ rfl (fun g32=> ?_) fun g32=> ?_<;>try simp at g32
 simp[hw0]
 iterate 2 (refine ZG' ?_ (by simp[hw0]<;>omega);simp[hw0])
 refine Zo ?_ (by simp[hw0]<;>omega);simp[hw0]
 refine WL.nil (hK _ (Wz.to rfl rfl rfl ?_))
 simp[g32]<;>first|omega|grind
 simp[hw0]
 iterate 2 (refine ZN' ?_;simp[hw0])
 refine Zo ?_ (by simp[hw0]<;>omega);simp[hw0]
 refine WL.nil (hK _ (Wz.to rfl rfl rfl ?_))
 simp[g32]<;>first|omega|grind
 simp at hT;subst hT
 refine Zc rfl ?_ ?_<;>intro hb1<;>try simp at hb1
 have hk3:=hb1.1
 have hx:=B2 hk3 (by omega)
 refine W.skip ?_
 refine Zb ?_
 apply Zs;intros
 iterate 7 (refine Zo ?_ (by simp[hw0,hk3,hx]<;>omega);simp[hw0,hk3,hx])
 refine Zl [] rfl func410 (hc2 x.Af[k1] (gm hk3) (lft (xr x k1) left) hb1.2 (by unfold lft;split<;>omega) _) ?_ (by simp[hw0,hk3,hx]);simp[hw0,hk3,hx]
 refine Zo ?_ (by simp[hw0,hk3,hx]<;>omega);simp[hw0,hk3,hx]
 exact Zx
 apply Zs;intros
 iterate 3 (refine Zo ?_ (by simp[hw0,hk3,hx]<;>omega);simp[hw0,hk3,hx])
 exact Zx
 refine⟨hk3,Wz.to rfl rfl rfl ?_⟩
 have hs:=M1 (b:=szX x.Af[k1].Ab) hb1.2
 rw[←Ti hk3] at hs
 simp[hs]
 have hres:lft (szX x) left=(lft (xr x k1) left):=f7 hk1 hb1
 refine W.exit ?_
 refine Zw2 ?_
 refine W.ret (Zq ?_)
 simp[f410,hres]
theorem Hl (x:AG) (left:Int) (h0:0≤left) (h1:left≤134217728) (hz:x.sz≤134217728) (h:HP):CS cx.P 410 [.d (x.dd false),dI' left] h (dI' (lft (szX x) left)) h:=Sx x left h0 h1 hz (fun y hy left h0 h1 h=>Hl y left h0 h1 (by have h1:=Ae AG.sz hy;have h2:=x.sz_eq;unfold szs at h2;omega) h) (fun a ha left h0 h1 h=>Hl a.Ab left h0 h1 (by have h1:=Ae Ac.sz ha;have h2:=x.sz_eq;have h3:=a.sz_eq;unfold szs at h2;omega) h) h
termination_by SizeOf.sizeOf x
decreasing_by
 ·have:=List.sizeOf_lt_of_mem hy;have:=x.lt_fArgs;omega
 ·have:=List.sizeOf_lt_of_mem ha;have:=x.lt_fArms;have:=a.lt_fBody;omega
theorem Hn (x:AG) (hz:x.sz≤134217728) (h:HP):CS cx.P 411 [.d (x.dd false)] h (dB' (exF x)) h:=Sz x hz (fun y hy h=>Hn y (by have h1:=Ae AG.sz hy;have h2:=x.sz_eq;unfold szs at h2;omega) h) (fun a ha h=>Hn a.Ab (by have h1:=Ae Ac.sz ha;have h2:=x.sz_eq;have h3:=a.sz_eq;unfold szs at h2;omega) h) h
termination_by SizeOf.sizeOf x
decreasing_by
 ·have:=List.sizeOf_lt_of_mem hy;have:=x.lt_fArgs;omega
 ·have:=List.sizeOf_lt_of_mem ha;have:=x.lt_fArms;have:=a.lt_fBody;omega
def exV (x:AG):Bool:=decide (szX x≤300) && exF x
theorem Sb (x:AG) (hz:x.sz≤134217728) (h:HP):CS cx.P 359 [.d (x.dd false)] h (dB' (exV x)) h:=by
 have hk:=VX (szX x) 300 (by omega)
 refine Ze func359 rfl 10 ?_
 refine Zw ?_
 refine W.seq ?_
 refine W.regJ0 (D:=_) rfl fun _ K hD hK=> ?_
 refine Zo ?_;simp
 refine Zl [] rfl func410 (Hl x 300 (by omega) (by omega) hz _) ?_;simp
 iterate 2 (refine Zo ?_;simp)
 refine WL.split 6 _ rfl (fun g6=> ?_) fun g6=> ?_<;>try simp at g6
 simp
 refine ZG' ?_;simp
 refine Zk hD rfl rfl [] rfl func411 (Hn x hz _) ?_;simp
 iterate 2 (refine Zo ?_;simp)
 refine WL.nil (hK _ ?_)
 refine W.ret (Zq ?_)
 simp[f359,exV,g6]<;>simp at hk<;>first|omega|grind
 simp
 iterate 2 (refine ZN' ?_;simp)
 iterate 2 (refine Zo ?_;simp)
 refine WL.nil (hK _ ?_)
 refine W.ret (Zq ?_)
 simp[f359,exV,g6]<;>simp at hk<;>first|omega|grind
def fv0 (b o:List BA') (k:Int) (n:BA'):List BA':=if k=3∧B7 b n=false∧B7 o n=false then o++[n] else o
mutual
def fvE:AG→List BA'→List BA'→List BA'
 |⟨k,_,n,_,_,al,rl⟩,b,o=>fvR rl b (fvA al (decide (k=8)) n 0 b (fv0 b o k n))
def fvA:List AG→Bool→BA'→Nat→List BA'→List BA'→List BA'
 |[],_,_,_,_,o=>o
 |x::l,t,n,i,b,o=>fvA l t n (i+1) b (fvE x (if (t && decide (i=1))=true then b++[n] else b) o)
def fvM:Ac→List BA'→List BA'→List BA'
 |⟨_,vs,e⟩,b,o=>fvE e (b++vs) o
def fvR:List Ac→List BA'→List BA'→List BA'
 |[],_,o=>o
 |x::l,b,o=>fvR l b (fvM x b o)
end
theorem RS:∀(a c:List AG) (t:Bool) (n:BA') (i:Nat) (b o:List BA'),fvA (a++c) t n i b o=fvA c t n (i+a.length) b (fvA a t n i b o)
 |[],c,t,n,i,b,o=>rfl
 |x::a,c,t,n,i,b,o=>by simp only[List.cons_append,fvA,RS a c,List.length_cons];congr 1;omega
theorem RR:∀(a c:List Ac) (b o:List BA'),fvR (a++c) b o=fvR c b (fvR a b o)
 |[],c,b,o=>rfl
 |x::a,c,b,o=>by simp only[List.cons_append,fvR,RR a c]
theorem fq (x:Ac) (b o:List BA'):fvM x b o=fvE x.Ab (b++x.Aa) o:=by cases x;simp only[fvM]
theorem MD (b o:List BA') (k:Int) (n:BA'):(fv0 b o k n).length≤o.length+1:=by unfold fv0;split<;>simp
mutual
theorem MC:∀(x:AG) (b o:List BA'),(fvE x b o).length≤o.length+szX x
 |⟨k,_,n,_,_,al,rl⟩,b,o=>by
  have h1:=MB rl b (fvA al (decide (k=8)) n 0 b (fv0 b o k n))
  have h2:=Is al (decide (k=8)) n 0 b (fv0 b o k n)
  have h3:=MD b o k n
  simp only[fvE,szX];omega
theorem Is:∀(l:List AG) (t:Bool) (n:BA') (i:Nat) (b o:List BA'),(fvA l t n i b o).length≤o.length+EH l
 |[],_,_,_,_,o=>by simp[fvA,EH]
 |x::l,t,n,i,b,o=>by
  have h1:=Is l t n (i+1) b (fvE x (if (t && decide (i=1))=true then b++[n] else b) o)
  have h2:=MC x (if (t && decide (i=1))=true then b++[n] else b) o
  simp only[fvA,EH];omega
theorem aC:∀(x:Ac) (b o:List BA'),(fvM x b o).length≤o.length+KT x
 |⟨_,vs,e⟩,b,o=>by
  have:=MC e (b++vs) o
  simp only[fvM,KT];omega
theorem MB:∀(l:List Ac) (b o:List BA'),(fvR l b o).length≤o.length+EW l
 |[],_,o=>by simp[fvR,EW]
 |x::l,b,o=>by
  have h1:=MB l b (fvM x b o)
  have h2:=aC x b o
  simp only[fvR,EW];omega
end
def bIn (x:AG) (b:List BA') (k:Nat):List BA':=if (decide (x.AH=8) && decide (k=1))=true then b++[x.A5] else b
def faK (x:AG) (b o:List BA') (k:Nat):List BA':=fvA (x.AB.take k) (decide (x.AH=8)) x.A5 0 b (fv0 b o x.AH x.A5)
def frK (x:AG) (b o:List BA') (k:Nat):List BA':=fvR (x.Af.take k) b (faK x b o x.AB.length)
theorem O9 (x:AG) (b o:List BA'):faK x b o 0=fv0 b o x.AH x.A5:=rfl
theorem HB {x:AG} {b o:List BA'} {k:Nat} (h:k<x.AB.length):fvE x.AB[k] (bIn x b k) (faK x b o k)=faK x b o (k+1):=by
 unfold faK bIn
 rw[Y' h,RS]
 have:(x.AB.take k).length=k:=by simp;omega
 rw[this,Nat.zero_add];rfl
theorem O0 (x:AG) (b o:List BA'):frK x b o 0=faK x b o x.AB.length:=rfl
theorem O1 {x:AG} {b o:List BA'} {k:Nat} (h:k<x.Af.length):fvE x.Af[k].Ab (b++x.Af[k].Aa) (frK x b o k)=frK x b o (k+1):=by
 unfold frK
 rw[Y' h,RR, ←fq];rfl
theorem O2 (x:AG) (b o:List BA'):frK x b o x.Af.length=fvE x b o:=by cases x;simp[frK,faK,fvE]
theorem RX {x:AG} {b o:List BA'} {k:Nat} (h:k<x.AB.length):(faK x b o k).length+szX x.AB[k]≤o.length+szX x:=by
 have h1:=Is (x.AB.take k) (decide (x.AH=8)) x.A5 0 b (fv0 b o x.AH x.A5)
 have h2:=MD b o x.AH x.A5
 have h3:=Tj h
 have h4:=Tk x (k+1)
 have h5:=Mj x 0
 unfold xk at h3 h4
 unfold faK;omega
theorem RT {x:AG} {b o:List BA'} {k:Nat} (h:k<x.Af.length):(frK x b o k).length+szX x.Af[k].Ab≤o.length+szX x:=by
 have h1:=MB (x.Af.take k) b (faK x b o x.AB.length)
 have h2:=Is (x.AB.take x.AB.length) (decide (x.AH=8)) x.A5 0 b (fv0 b o x.AH x.A5)
 have h3:=MD b o x.AH x.A5
 have h4:=Ti h
 have h5:=Mj x (k+1)
 unfold xr xk at h4 h5
 unfold faK at h1
 unfold frK faK
 omega
def fv (x:AG):List BA':=fvE x [] []
theorem Sy (x:AG) (b o:List BA') (hz:x.sz≤134217728) (hb:b.length+x.sz≤1073741824) (ho:o.length+szX x≤1073741824) (hc:∀y∈x.AB,∀b o:List BA',b.length+y.sz≤1073741824→o.length+szX y≤1073741824→∀h,CS cx.P 409 [.d (y.dd false),.d (.sl false .one (b.map dS)),.d (.sl true .one (o.map dS))] h (.d (.sl true .one ((fvE y b o).map dS))) h) (hc2:∀a∈x.Af,∀b o:List BA',b.length+a.Ab.sz≤1073741824→o.length+szX a.Ab≤1073741824→∀h,CS cx.P 409 [.d (a.Ab.dd false),.d (.sl false .one (b.map dS)),.d (.sl true .one (o.map dS))] h (.d (.sl true .one ((fvE a.Ab b o).map dS))) h) (h:HP):CS cx.P 409 [.d (x.dd false),.d (.sl false .one (b.map dS)),.d (.sl true .one (o.map dS))] h (.d (.sl true .one ((fvE x b o).map dS))) h:=by
 have hz2:=x.sz_eq;unfold szs at hz2
 refine Ze func409 rfl 88 ?_
 refine Zw ?_
 refine W.seq ?_
 refine W.seq ?_
 refine W.regJ (D:=_) [1,2,3] [3] [(26,.d (.lf (.bool (decide (x.AH=3) && (!B7 b x.A5 && !B7 o x.A5)))))] [] rfl (fun _ K hD hK=> ?_) fun T hT=> ?_
 iterate 4 (refine Zo ?_;simp)
 refine WL.split 13 _ rfl (fun g13=> ?_) fun g13=> ?_<;>try simp at g13
 simp
 iterate 3 (refine ZG' ?_;simp)
 refine Zk hD rfl rfl [] rfl func61 (F8 b x.A5 (by omega) _) ?_;simp
 refine ZG' ?_;simp
 iterate 2 (refine Zo ?_;simp)
 refine WL.split 20 _ rfl (fun g20=> ?_) fun g20=> ?_<;>try simp at g20
 simp
 iterate 3 (refine ZG' ?_;simp)
 refine Zk hD rfl rfl [] rfl func61 (F8 o x.A5 (by omega) _) ?_;simp
 refine ZG' ?_;simp
 refine Zo ?_;simp
 refine WL.nil (hK _ (Wz.to rfl rfl rfl ?_))
 simp[g13,g20]
 simp
 iterate 5 (refine ZN' ?_;simp)
 refine Zo ?_;simp
 refine WL.nil (hK _ (Wz.to rfl rfl rfl ?_))
 simp[g13,g20]
 simp
 iterate 5 (refine ZN' ?_;simp)
 iterate 2 (refine Zo ?_;simp)
 iterate 5 (refine ZN' ?_;simp)
 refine Zo ?_;simp
 refine WL.nil (hK _ (Wz.to rfl rfl rfl ?_))
 simp[g13]
 simp at hT;subst hT
 refine W.join [1,3] [3] [(2,.d (.sl true .one ((fv0 b o x.AH x.A5).map dS)))] [] ?_ fun T hT=> ?_
 refine Zc rfl ?_ ?_<;>intro hb0<;>try simp at hb0
 have ht:fv0 b o x.AH x.A5=o++[x.A5]:=by unfold fv0;rw[if_pos (by simpa using hb0)]
 apply Zs;intros
 refine Zm [27] ?_;simp
 iterate 5 (refine Zo ?_;simp)
 exact Zx
 refine Wz.to rfl rfl rfl ?_
 simp[ht]
 have ht:fv0 b o x.AH x.A5=o:=by unfold fv0;rw[if_neg (by simpa using hb0)]
 refine W.skip ?_
 refine Wz.to rfl rfl rfl ?_
 simp[ht]
 simp at hT;subst hT
 refine W.seq ?_
 refine Zw ?_
 refine W.block ?_
 refine W.loopk [1,3] [3] (fun k0=>[(7,dI' k0),(2,.d (.sl true .one ((faK x b o k0).map dS)))]) (fun _=>[]) x.AB.length rfl (by simp[O9]) fun k0 hk0 T hT=> ?_
 simp at hT;subst hT
 refine W.seq ?_
 refine Zw ?_
 refine Zc rfl ?_ ?_<;>intro hb1<;>try simp at hb1
 have hx:=B2 hb1 (by omega)
 have hl:=RX (b:=b) (o:=o) hb1
 have hy:=Ae AG.sz (gm hb1)
 have hbl:(bIn x b k0).length≤b.length+1:=by unfold bIn;split<;>simp
 refine W.skip ?_
 refine Zb ?_
 refine Zw2 ?_
 refine W.seq ?_
 refine W.seq ?_
 refine W.regJ (D:=_) [1,2,3,7,8] [3] [(46,.d (.lf (.bool (decide (x.AH=8) && decide (k0=1)))))] [] rfl (fun _ K hD hK=> ?_) fun T hT=> ?_
 iterate 4 (refine Zo ?_ (by simp[hb1,hx]<;>omega);simp[hb1,hx])
 refine WL.split 43 _ rfl (fun g43=> ?_) fun g43=> ?_<;>try simp at g43
 simp[hb1,hx]
 iterate 2 (refine ZG' ?_ (by simp[hb1,hx]<;>omega);simp[hb1,hx])
 refine Zo ?_ (by simp[hb1,hx]<;>omega);simp[hb1,hx]
 refine WL.nil (hK _ (Wz.to rfl rfl rfl ?_))
 simp[g43]<;>omega
 simp[hb1,hx]
 iterate 2 (refine ZN' ?_;simp[hb1,hx])
 refine Zo ?_ (by simp[hb1,hx]<;>omega);simp[hb1,hx]
 refine WL.nil (hK _ (Wz.to rfl rfl rfl ?_))
 simp[g43]<;>omega
 simp at hT;subst hT
 refine Zc rfl ?_ ?_<;>intro hb2<;>try simp at hb2
 have hbi:bIn x b k0=b++[x.A5]:=by unfold bIn;rw[if_pos (by simpa using hb2)]
 apply W.regSD rfl;intro K hK
 refine Yo ?_ (by simp[hb1,hx,hbi]<;>omega);simp[hb1,hx,hbi]
 refine Ym [48] ?_ (by simp[hb1,hx,hbi]<;>omega);simp[hb1,hx,hbi]
 iterate 6 (refine Yo ?_ (by simp[hb1,hx,hbi]<;>omega);simp[hb1,hx,hbi])
 exact DL.nil rfl hK
 apply Zs;intros
 iterate 6 (refine Zo ?_ (by simp[hb1,hx,hbi]<;>omega);simp[hb1,hx,hbi])
 refine Zm [60] ?_ (by simp[hb1,hx,hbi]<;>omega);simp[hb1,hx,hbi]
 refine Zl [60] rfl func409 (hc x.AB[k0] (gm hb1) (bIn x b k0) (faK x b o k0) (by omega) (by omega) _) ?_ (by simp[hb1,hx,hbi]);simp[hb1,hx,hbi]
 refine Zo ?_ (by simp[hb1,hx,hbi]<;>omega);simp[hb1,hx,hbi]
 exact Zx
 apply Zs;intros
 iterate 3 (refine Zo ?_ (by simp[hb1,hx,hbi]<;>omega);simp[hb1,hx,hbi])
 exact Zx
 refine⟨hb1,Wz.to rfl rfl rfl ?_⟩
 have hs:=HB (b:=b) (o:=o) hb1
 rw[hbi] at hs
 simp[hs]
 have hbi:bIn x b k0=b:=by unfold bIn;rw[if_neg (by simpa using hb2)]
 refine W.skip ?_
 apply Zs;intros
 iterate 6 (refine Zo ?_ (by simp[hb1,hx,hbi]<;>omega);simp[hb1,hx,hbi])
 refine Zm [60] ?_ (by simp[hb1,hx,hbi]<;>omega);simp[hb1,hx,hbi]
 refine Zl [60] rfl func409 (hc x.AB[k0] (gm hb1) (bIn x b k0) (faK x b o k0) (by omega) (by omega) _) ?_ (by simp[hb1,hx,hbi]);simp[hb1,hx,hbi]
 refine Zo ?_ (by simp[hb1,hx,hbi]<;>omega);simp[hb1,hx,hbi]
 exact Zx
 apply Zs;intros
 iterate 3 (refine Zo ?_ (by simp[hb1,hx,hbi]<;>omega);simp[hb1,hx,hbi])
 exact Zx
 refine⟨hb1,Wz.to rfl rfl rfl ?_⟩
 have hs:=HB (b:=b) (o:=o) hb1
 rw[hbi] at hs
 simp[hs]
 have hkl:k0=x.AB.length:=by omega
 subst hkl
 refine W.exit ?_
 refine W.seq ?_
 refine Zw ?_
 refine W.block ?_
 refine W.loopk [1,3] [3] (fun k1=>[(9,dI' k1),(2,.d (.sl true .one ((frK x b o k1).map dS)))]) (fun _=>[]) x.Af.length rfl (by simp[O0]) fun k1 hk1 T hT=> ?_
 simp at hT;subst hT
 refine W.seq ?_
 refine Zw ?_
 refine Zc rfl ?_ ?_<;>intro hb3<;>try simp at hb3
 have hx:=B2 hb3 (by omega)
 have hl:=RT (b:=b) (o:=o) hb3
 have hy:=Ae Ac.sz (gm hb3)
 have hy2:=x.Af[k1].sz_eq;unfold szs at hy2
 refine W.skip ?_
 refine Zb ?_
 apply W.regSD rfl;intro K hK
 iterate 7 (refine Yo ?_ (by simp[hb3,hx]<;>omega);simp[hb3,hx])
 refine Ym [76] ?_ (by simp[hb3,hx]<;>omega);simp[hb3,hx]
 iterate 6 (refine Yo ?_ (by simp[hb3,hx]<;>omega);simp[hb3,hx])
 refine Ym [83] ?_ (by simp[hb3,hx]<;>omega);simp[hb3,hx]
 refine Yo ?_ (by simp[hb3,hx]<;>omega);simp[hb3,hx]
 refine Ym [85] ?_ (by simp[hb3,hx]<;>omega);simp[hb3,hx]
 refine Yl [85] rfl func409 (hc2 x.Af[k1] (gm hb3) (b++x.Af[k1].Aa) (frK x b o k1) (by simp;omega) (by omega)) ?_ (by simp[hb3,hx]);simp[hb3,hx]
 refine Yo ?_ (by simp[hb3,hx]<;>omega);simp[hb3,hx]
 exact DL.nil rfl hK
 apply Zs;intros
 iterate 3 (refine Zo ?_ (by simp[hb3,hx]<;>omega);simp[hb3,hx])
 exact Zx
 refine⟨hb3,Wz.to rfl rfl rfl ?_⟩
 have hs:=O1 (b:=b) (o:=o) hb3
 simp[hs]
 have hkl:k1=x.Af.length:=by omega
 subst hkl
 have hres:=O2 x b o
 refine W.exit ?_
 apply Zr;intros
 refine Zm [87] ?_;simp
 refine Zo ?_;simp
 exact Zx
 refine W.ret (Zq ?_)
 simp[f409,hres]
theorem Hm (x:AG) (b o:List BA') (hz:x.sz≤134217728) (hb:b.length+x.sz≤1073741824) (ho:o.length+szX x≤1073741824) (h:HP):CS cx.P 409 [.d (x.dd false),.d (.sl false .one (b.map dS)),.d (.sl true .one (o.map dS))] h (.d (.sl true .one ((fvE x b o).map dS))) h:=Sy x b o hz hb ho (fun y hy b o hb ho h=>Hm y b o (by have h1:=Ae AG.sz hy;have h2:=x.sz_eq;unfold szs at h2;omega) hb ho h) (fun a ha b o hb ho h=>Hm a.Ab b o (by have h1:=Ae Ac.sz ha;have h2:=x.sz_eq;have h3:=a.sz_eq;unfold szs at h2;omega) hb ho h) h
termination_by SizeOf.sizeOf x
decreasing_by
 ·have:=List.sizeOf_lt_of_mem hy;have:=x.lt_fArgs;omega
 ·have:=List.sizeOf_lt_of_mem ha;have:=x.lt_fArms;have:=a.lt_fBody;omega
theorem js (x:AG) (hz:x.sz≤134217728) (h:HP):CS cx.P 358 [.d (x.dd false)] h (.d (.sl true .one ((fv x).map dS))) h:=by
 have hsx:=Hc x
 refine Ze func358 rfl 7 ?_
 refine Zw ?_
 apply Zr;intros
 iterate 3 (refine Zo ?_;simp)
 refine Zl [5] rfl func409 (Hm x [] [] hz (by simp;omega) (by simp;omega) _) ?_;simp
 refine Zo ?_;simp
 exact Zx
 refine W.ret (Zq ?_)
 simp[f358,fv]
def body (x:AG) (vars:List BA'):Bool:=exV x && sub (fv x) vars
def zT:A0:=⟨0,⟨#[]⟩,[]⟩
def zX:AG:=⟨0,⟨#[]⟩,⟨#[]⟩,0,zT,[],[]⟩
def Dl (x:AG):Bool:=decide (x.AH=0) && noS x.AK && noS x.A5 && decide (x.fN=0) && CI x.AM && decide (x.AB=[]) && decide (x.Af=[])
theorem Yp (l:List A0) (h:HP):CS cx.P 298 [.d (.sl false Ai (l.map (A0.dd false))),.d (.sl false Ai [])] h (dB' (decide (l=[]))) h:=by
 refine Ze func298 rfl 27 ?_
 refine Zw ?_
 refine W.seq ?_
 refine Zw ?_
 refine Zc rfl ?_ ?_<;>intro hb0<;>try simp at hb0
 have hres:¬l=[]:=hb0
 refine Zw ?_
 refine W.ret (Zq ?_)
 simp[f298,hres]
 have hres:l=[]:=hb0
 refine W.skip ?_
 refine W.seq ?_
 refine Zw ?_
 refine W.block ?_
 refine W.loopk [0,1] [] (fun k0=>[(5,dI' k0)]) (fun _=>[]) 0 rfl (by simp) fun k0 hk0 T hT=> ?_
 simp at hT;subst hT
 refine W.seq ?_
 refine Zw ?_
 refine Zc rfl ?_ ?_<;>intro hb1<;>try simp at hb1
 exfalso;rw[hres] at hb1;simp at hb1
 refine W.exit ?_
 refine Zw ?_
 refine W.ret (Zq ?_)
 simp[f298,hres]
theorem gF (x:A0) (h:HP):CS cx.P 209 [.d (x.dd false),.d (zT.dd false)] h (dB' (CI x)) h:=by
 refine Ze func209 rfl 24 ?_
 apply Zr;intros
 iterate 3 (refine Zo ?_ (by simp[zT]<;>omega);simp[zT])
 exact Zx
 refine W.seq ?_
 refine W.regJ0 (D:=_) rfl fun _ K hD hK=> ?_
 iterate 6 (refine Zo ?_ (by simp[zT]<;>omega);simp[zT])
 refine WL.split 10 _ rfl (fun g10=> ?_) fun g10=> ?_<;>try simp at g10
 simp[zT]
 iterate 5 (refine ZG' ?_ (by simp[zT]<;>omega);simp[zT])
 iterate 2 (refine Zo ?_ (by simp[zT]<;>omega);simp[zT])
 refine WL.split 17 _ rfl (fun g17=> ?_) fun g17=> ?_<;>try simp at g17
 simp[zT]
 iterate 4 (refine ZG' ?_ (by simp[zT]<;>omega);simp[zT])
 refine Zk hD rfl rfl [] rfl func298 (Yp x.AB _) ?_ (by simp[zT]);simp[zT]
 iterate 2 (refine Zo ?_ (by simp[zT]<;>omega);simp[zT])
 refine WL.nil (hK _ ?_)
 refine W.ret (Zq ?_)
 simp[f209,CI,g10,g17]
 simp[zT]
 iterate 5 (refine ZN' ?_;simp[zT])
 iterate 2 (refine Zo ?_ (by simp[zT]<;>omega);simp[zT])
 refine WL.nil (hK _ ?_)
 refine W.ret (Zq ?_)
 simp[f209,CI,g10,g17]
 simp[zT]
 iterate 5 (refine ZN' ?_;simp[zT])
 iterate 2 (refine Zo ?_ (by simp[zT]<;>omega);simp[zT])
 iterate 5 (refine ZN' ?_;simp[zT])
 iterate 2 (refine Zo ?_ (by simp[zT]<;>omega);simp[zT])
 refine WL.nil (hK _ ?_)
 refine W.ret (Zq ?_)
 simp[f209,CI,g10]
theorem gE (x:AG) (h:HP):CS cx.P 405 [.d (x.dd false),.d (zX.dd false)] h (dB' (Dl x)) h:=by
 refine Ze func405 rfl 130 ?_
 apply Zr;intros
 iterate 3 (refine Zo ?_ (by simp[zX]<;>omega);simp[zX])
 exact Zx
 refine W.seq ?_
 refine W.seq ?_
 refine W.regJ (D:=_) [2,3] [2,3] [(58,.d (.lf (.bool (!Dl x))))] [] rfl (fun _ K hD hK=> ?_) fun T hT=> ?_
 iterate 6 (refine Zo ?_ (by simp[zX]<;>omega);simp[zX])
 refine WL.split 12 _ rfl (fun g12=> ?_) fun g12=> ?_<;>try simp at g12
 simp[zX]
 iterate 5 (refine ZN' ?_;simp[zX])
 iterate 2 (refine Zo ?_ (by simp[zX]<;>omega);simp[zX])
 iterate 5 (refine ZN' ?_;simp[zX])
 iterate 2 (refine Zo ?_ (by simp[zX]<;>omega);simp[zX])
 iterate 5 (refine ZN' ?_;simp[zX])
 iterate 2 (refine Zo ?_ (by simp[zX]<;>omega);simp[zX])
 iterate 6 (refine ZN' ?_;simp[zX])
 iterate 2 (refine Zo ?_ (by simp[zX]<;>omega);simp[zX])
 iterate 7 (refine ZN' ?_;simp[zX])
 iterate 2 (refine Zo ?_ (by simp[zX]<;>omega);simp[zX])
 iterate 7 (refine ZN' ?_;simp[zX])
 refine Zo ?_ (by simp[zX]<;>omega);simp[zX]
 refine WL.nil (hK _ (Wz.to rfl rfl rfl ?_))
 simp[Dl,noS,g12]<;>first|grind|(cases x.Af<;>simp<;>omega)|omega
 simp[zX]
 iterate 5 (refine ZG' ?_ (by simp[zX]<;>omega);simp[zX])
 iterate 2 (refine Zo ?_ (by simp[zX]<;>omega);simp[zX])
 refine WL.split 19 _ rfl (fun g19=> ?_) fun g19=> ?_<;>try simp at g19
 simp[zX]
 iterate 5 (refine ZN' ?_;simp[zX])
 iterate 2 (refine Zo ?_ (by simp[zX]<;>omega);simp[zX])
 iterate 5 (refine ZN' ?_;simp[zX])
 iterate 2 (refine Zo ?_ (by simp[zX]<;>omega);simp[zX])
 iterate 6 (refine ZN' ?_;simp[zX])
 iterate 2 (refine Zo ?_ (by simp[zX]<;>omega);simp[zX])
 iterate 7 (refine ZN' ?_;simp[zX])
 iterate 2 (refine Zo ?_ (by simp[zX]<;>omega);simp[zX])
 iterate 7 (refine ZN' ?_;simp[zX])
 refine Zo ?_ (by simp[zX]<;>omega);simp[zX]
 refine WL.nil (hK _ (Wz.to rfl rfl rfl ?_))
 simp[Dl,noS,g12,g19]<;>first|grind|(cases x.Af<;>simp<;>omega)|omega
 simp[zX]
 iterate 5 (refine ZG' ?_ (by simp[zX]<;>omega);simp[zX])
 iterate 2 (refine Zo ?_ (by simp[zX]<;>omega);simp[zX])
 refine WL.split 26 _ rfl (fun g26=> ?_) fun g26=> ?_<;>try simp at g26
 simp[zX]
 iterate 5 (refine ZN' ?_;simp[zX])
 iterate 2 (refine Zo ?_ (by simp[zX]<;>omega);simp[zX])
 iterate 6 (refine ZN' ?_;simp[zX])
 iterate 2 (refine Zo ?_ (by simp[zX]<;>omega);simp[zX])
 iterate 7 (refine ZN' ?_;simp[zX])
 iterate 2 (refine Zo ?_ (by simp[zX]<;>omega);simp[zX])
 iterate 7 (refine ZN' ?_;simp[zX])
 refine Zo ?_ (by simp[zX]<;>omega);simp[zX]
 refine WL.nil (hK _ (Wz.to rfl rfl rfl ?_))
 simp[Dl,noS,g12,g19,g26]<;>first|grind|(cases x.Af<;>simp<;>omega)|omega
 simp[zX]
 iterate 5 (refine ZG' ?_ (by simp[zX]<;>omega);simp[zX])
 iterate 2 (refine Zo ?_ (by simp[zX]<;>omega);simp[zX])
 refine WL.split 33 _ rfl (fun g33=> ?_) fun g33=> ?_<;>try simp at g33
 simp[zX]
 iterate 6 (refine ZN' ?_;simp[zX])
 iterate 2 (refine Zo ?_ (by simp[zX]<;>omega);simp[zX])
 iterate 7 (refine ZN' ?_;simp[zX])
 iterate 2 (refine Zo ?_ (by simp[zX]<;>omega);simp[zX])
 iterate 7 (refine ZN' ?_;simp[zX])
 refine Zo ?_ (by simp[zX]<;>omega);simp[zX]
 refine WL.nil (hK _ (Wz.to rfl rfl rfl ?_))
 simp[Dl,noS,g12,g19,g26,g33]<;>first|grind|(cases x.Af<;>simp<;>omega)|omega
 simp[zX]
 iterate 4 (refine ZG' ?_ (by simp[zX]<;>omega);simp[zX])
 refine Zk hD rfl rfl [] rfl func209 (gF x.AM _) ?_ (by simp[zX]);simp[zX]
 refine ZG' ?_ (by simp[zX]<;>omega);simp[zX]
 iterate 2 (refine Zo ?_ (by simp[zX]<;>omega);simp[zX])
 refine WL.split 41 _ rfl (fun g41=> ?_) fun g41=> ?_<;>try simp at g41
 simp[zX]
 iterate 7 (refine ZN' ?_;simp[zX])
 iterate 2 (refine Zo ?_ (by simp[zX]<;>omega);simp[zX])
 iterate 7 (refine ZN' ?_;simp[zX])
 refine Zo ?_ (by simp[zX]<;>omega);simp[zX]
 refine WL.nil (hK _ (Wz.to rfl rfl rfl ?_))
 simp[Dl,noS,g12,g19,g26,g33,g41]<;>first|grind|(cases x.Af<;>simp<;>omega)|omega
 simp[zX]
 iterate 7 (refine ZG' ?_ (by simp[zX]<;>omega);simp[zX])
 iterate 2 (refine Zo ?_ (by simp[zX]<;>omega);simp[zX])
 refine WL.split 50 _ rfl (fun g50=> ?_) fun g50=> ?_<;>try simp at g50
 simp[zX]
 iterate 7 (refine ZN' ?_;simp[zX])
 refine Zo ?_ (by simp[zX]<;>omega);simp[zX]
 refine WL.nil (hK _ (Wz.to rfl rfl rfl ?_))
 simp[Dl,noS,g12,g19,g26,g33,g41,g50]<;>first|grind|(cases x.Af<;>simp<;>omega)|omega
 simp[zX]
 iterate 7 (refine ZG' ?_ (by simp[zX]<;>omega);simp[zX])
 refine Zo ?_ (by simp[zX]<;>omega);simp[zX]
 refine WL.nil (hK _ (Wz.to rfl rfl rfl ?_))
 simp[Dl,noS,g12,g19,g26,g33,g41,g50]<;>first|grind|(cases x.Af<;>simp<;>omega)|omega
 simp at hT;subst hT
 refine Zc rfl ?_ ?_<;>intro hb0<;>try simp at hb0
 have hres:Dl x=false:=by simpa using hb0
 apply Zr;intros
 refine Zo ?_ (by simp[zX]<;>omega);simp[zX]
 exact Zx
 refine W.ret (Zq ?_)
 simp[f405,hres]
 have hres:Dl x=true:=by simpa using hb0
 have ha:x.AB=[]∧x.Af=[]:=by have:=hres;unfold Dl at this;simp at this;exact⟨this.1.2,this.2⟩
 have ha1:=ha.1
 have ha2:=ha.2
 refine W.skip ?_
 refine W.seq ?_
 apply Zr;intros
 refine Zo ?_ (by simp[zX]<;>omega);simp[zX]
 exact Zx
 refine W.block ?_
 refine W.loopk [2,3] [2,3] (fun k0=>[(5,dI' k0)]) (fun _=>[]) 0 rfl (by simp) fun k0 hk0 T hT=> ?_
 simp at hT;subst hT
 refine W.seq ?_
 apply Zr;intros
 iterate 5 (refine Zo ?_ (by simp[zX]<;>omega);simp[zX])
 exact Zx
 refine Zc rfl ?_ ?_<;>intro hb1<;>try simp[ha1] at hb1
 refine W.exit ?_
 refine W.seq ?_
 apply Zr;intros
 refine Zo ?_ (by simp[zX]<;>omega);simp[zX]
 exact Zx
 refine W.block ?_
 refine W.loopk [2,3] [2,3] (fun k1=>[(6,dI' k1)]) (fun _=>[]) 0 rfl (by simp) fun k1 hk1 T hT=> ?_
 simp at hT;subst hT
 refine W.seq ?_
 apply Zr;intros
 iterate 5 (refine Zo ?_ (by simp[zX]<;>omega);simp[zX])
 exact Zx
 refine Zc rfl ?_ ?_<;>intro hb3<;>try simp[ha2] at hb3
 refine W.exit ?_
 apply Zr;intros
 refine Zo ?_ (by simp[zX]<;>omega);simp[zX]
 exact Zx
 refine W.ret (Zq ?_)
 simp[f405,hres]
theorem Sv (x:AG) (h:HP):CS cx.P 355 [.d (x.dd false)] h (dB' (Dl x)) h:=by
 refine Ze func355 rfl 6 ?_
 apply Zr;intros
 iterate 2 (refine Zo ?_ (by simp[zX,zT]<;>omega);simp[zX,zT])
 exact Zx
 apply Zr;intros
 iterate 2 (refine Zo ?_ (by simp[zX,zT]<;>omega);simp[zX,zT])
 refine Zl [] rfl func405 (gE x _) ?_ (by simp[zX,zT]);simp[zX,zT]
 refine Zo ?_ (by simp[zX,zT]<;>omega);simp[zX,zT]
 exact Zx
 refine W.ret (Zq ?_)
 simp[f355]
def Ep {α:Type} (l:List α) (f:α→BA') (k:Nat):List BA':=(l.take k).map f
theorem Hi {α:Type} (l:List α) (f:α→BA'):Ep l f 0=[]:=rfl
theorem Eo {α:Type} (l:List α) (f:α→BA'):Ep l f l.length=l.map f:=by unfold Ep;rw[List.take_length]
theorem Hj {α:Type} {l:List α} (f:α→BA') {k:Nat} (h:k<l.length):(Ep l f k).map dS++[.lf (.string (f l[k]))]=(Ep l f (k+1)).map dS:=by
 unfold Ep
 rw[Y' h,List.map_append,List.map_append];rfl
theorem Ff {α:Type} {l:List α} (f:α→BA') {k:Nat} (h:k≤l.length):(Ep l f k).length=k:=by unfold Ep;simp;omega
def QQ:List BA':=[⟨#[115,101,108,102]⟩]
def Eb (b:A9) (vars:List BA'):Bool:= !(BV b.AK && Bx b.AM)|| !Bl b.AM vars||Bq b.AM
def KO (l:List A9) (vars:List BA'):Bool:= !(l.any fun b=>Eb b vars) && decide (l.length≤4)
def FD (g:AC):Bool:=BV g.A5 && decide (g.Am.length≤4) && En g.Am QQ && Bl g.B9 QQ && (if g.BS=true then CV g.Aa 5 && decide (g.Aa.length=g.Am.length+1) && body g.Ab g.Aa else decide (g.Aa=[]) && Dl g.Ab)
def DC (t:AU):Bool:= !(t.AW.any fun g=> !FD g) && !(t.CP && (t.B4|| !decide (t.AW=[])|| !decide (t.Aq=[]))) && BV t.A5 && CV t.Aq 4 && CV (t.AW.map AC.A5) 6
def IK (c:AA) (vars:List BA'):Bool:=decide (4<c.Av.length)|| !En c.Av vars
def D3 (d:AF):Bool:= !(d.A4.any fun c=>IK c d.Aa) && BV d.A5 && CV d.Aa 3 && decide (0<d.A4.length) && CV (d.A4.map AA.A5) 5
def F6 (m:AY):Bool:=decide (m.Aa=[])|| !CV m.Aa 5|| !body m.Ab m.Aa
def inst1 (x:AJ):Bool:=BV x.AK && CV x.Aa 3 && Bl x.At x.Aa && !Bq x.At && !decide (x.At.AH=4) && KO x.Ah x.Aa
def inst2 (x:AJ):Bool:=if x.BT=true then Bl x.B4 x.Aa else CI x.B4
def instOk (x:AJ):Bool:=inst1 x && !(x.Aa.any fun v=> !decide (0<occ v x.At)) && inst2 x && !(x.Ar.any F6) && CV (x.Ar.map AY.A5) 6
def O4 (x:AL):Bool:= !(x.Am.any fun p=> !Bl p.AM x.Aa) && BV x.A5 && CV x.Aa 3 && KO x.Ah x.Aa && CV (x.Am.map AX.A5) 5 && Bl x.B9 x.Aa && body x.Ab (x.Am.map AX.A5)
def Lx (v:BA') (k:Int) (n:BA'):Nat:=if k=1∧n=v then 1 else 0
def IV (v:BA') (x:A0) (k:Nat):Nat:=Lx v x.AH x.A5+DW v (x.AB.take k)
theorem NV (v:BA'):∀a b:List A0,DW v (a++b)=DW v a+DW v b
 |[],b=>by simp[DW]
 |x::a,b=>by simp only[List.cons_append,DW,NV v a b];omega
mutual
theorem VL (v:BA'):∀x:A0,occ v x≤AR x
 |⟨k,n,l⟩=>by
  have:=Lw v l
  simp only[occ,AR];split<;>omega
theorem Lw (v:BA'):∀l:List A0,DW v l≤Ag l
 |[]=>by simp[DW,Ag]
 |x::l=>by simp only[DW,Ag];have:=VL v x;have:=Lw v l;omega
end
theorem Sp (v:BA') (x:A0):IV v x 0=Lx v x.AH x.A5:=by simp[IV,DW]
theorem Sq (v:BA') (x:A0):IV v x x.AB.length=occ v x:=by cases x;simp[IV,occ,Lx]
theorem ZB {v:BA'} {x:A0} {k:Nat} (h:k<x.AB.length):IV v x (k+1)=IV v x k+occ v x.AB[k]:=by
 unfold IV
 rw[Y' h,NV];simp[DW];omega
theorem ZC (v:BA') (x:A0) (k:Nat):IV v x k≤DF x.AB k:=by
 have:=Lw v (x.AB.take k)
 unfold IV Lx DF;split<;>omega
theorem eM (x:A0) (v:BA') (hz:x.sz≤134217728) (hc:∀y∈x.AB,∀h,CS cx.P 206 [.d (y.dd false),dS' v] h (dI' ((occ v y:Nat):Int)) h) (h:HP):CS cx.P 206 [.d (x.dd false),dS' v] h (dI' ((occ v x:Nat):Int)) h:=by
 have hz2:=x.sz_eq;unfold szs at hz2
 have hts:=DG x
 refine Ze func206 rfl 33 ?_
 refine Zw ?_
 refine Zw ?_
 refine W.seq ?_
 refine W.seq ?_
 refine W.regJ (D:=_) [1,2,5] [2] [(15,.d (.lf (.bool (decide (x.AH=1) && decide (x.A5=v)))))] [] rfl (fun _ K hD hK=> ?_) fun T hT=> ?_
 iterate 4 (refine Zo ?_;simp)
 refine WL.split 10 _ rfl (fun g10=> ?_) fun g10=> ?_<;>try simp at g10
 simp
 iterate 4 (refine ZG' ?_;simp)
 refine Zo ?_;simp
 refine WL.nil (hK _ (Wz.to rfl rfl rfl ?_))
 simp[g10]
 simp
 iterate 4 (refine ZN' ?_;simp)
 refine Zo ?_;simp
 refine WL.nil (hK _ (Wz.to rfl rfl rfl ?_))
 simp[g10]
 simp at hT;subst hT
 refine W.join [1,2] [2] [(5,.d (.lf (.int .i64 ((Lx v x.AH x.A5:Nat):Int))))] [] ?_ fun T hT=> ?_
 refine Zc rfl ?_ ?_<;>intro hb0<;>try simp at hb0
 have ht:Lx v x.AH x.A5=1:=by unfold Lx;exact if_pos hb0
 apply Zs;intros
 refine Zo ?_;simp
 exact Zx
 refine Wz.to rfl rfl rfl ?_
 simp[ht]
 have ht:Lx v x.AH x.A5=0:=by unfold Lx;exact if_neg (by simpa using hb0)
 refine W.skip ?_
 refine Wz.to rfl rfl rfl ?_
 simp[ht]
 simp at hT;subst hT
 refine W.seq ?_
 refine Zw ?_
 refine W.block ?_
 refine W.loopk [1,2] [2] (fun k0=>[(6,dI' k0),(5,dI' ((IV v x k0:Nat):Int))]) (fun _=>[]) x.AB.length rfl (by simp[Sp]) fun k0 hk0 T hT=> ?_
 simp at hT;subst hT
 refine W.seq ?_
 refine Zw ?_
 refine Zc rfl ?_ ?_<;>intro hb1<;>try simp at hb1
 have hx:=B2 hb1 (by omega)
 have hw:IntKind.i64.wrap ((IV v x k0:Int)+(occ v x.AB[k0]:Int))=(IV v x (k0+1):Int):=by have h1:=ZB (v:=v) hb1;have h2:=ZC v x (k0+1);have h3:=Ih x (k0+1);rw[BH (by omega) (by omega)];omega
 refine W.skip ?_
 refine Zb ?_
 apply Zs;intros
 iterate 7 (refine Zo ?_ (by simp[hb1,hx,hw]<;>omega);simp[hb1,hx,hw])
 refine Zl [] rfl func206 (hc x.AB[k0] (gm hb1) _) ?_ (by simp[hb1,hx,hw]);simp[hb1,hx,hw]
 iterate 2 (refine Zo ?_ (by simp[hb1,hx,hw]<;>omega);simp[hb1,hx,hw])
 exact Zx
 apply Zs;intros
 iterate 3 (refine Zo ?_ (by simp[hb1,hx,hw]<;>omega);simp[hb1,hx,hw])
 exact Zx
 refine⟨hb1,Wz.to rfl rfl rfl ?_⟩
 simp
 have hkl:k0=x.AB.length:=by omega
 subst hkl
 have hres:=Sq v x
 refine W.exit ?_
 refine Zw ?_
 refine W.ret (Zq ?_)
 simp[f206,hres]
theorem P1 (x:A0) (v:BA') (hz:x.sz≤134217728) (h:HP):CS cx.P 206 [.d (x.dd false),dS' v] h (dI' ((occ v x:Nat):Int)) h:=eM x v hz (fun y hy h=>P1 y v (by have h1:=Ae A0.sz hy;have h2:=x.sz_eq;unfold szs at h2;omega) h) h
termination_by SizeOf.sizeOf x
decreasing_by have:=List.sizeOf_lt_of_mem hy;have:=x.lt_fArgs;omega
theorem Ku (v:BA') (x:A0) (hz:x.sz≤134217728) (h:HP):CS cx.P 281 [dS' v,.d (x.dd false)] h (dB' (decide (0<occ v x))) h:=by
 refine Ze func281 rfl 9 ?_
 refine Zw ?_
 apply Zr;intros
 iterate 2 (refine Zo ?_;simp)
 refine Zl [] rfl func206 (P1 x v hz _) ?_;simp
 iterate 2 (refine Zo ?_;simp)
 exact Zx
 refine W.ret (Zq ?_)
 simp[f281]
