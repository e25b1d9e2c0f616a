/- Part 15. No condition. -/
import Derived.Test.YtdooklofebdknaaGreatM14
namespace Go.Proofs.YtdooklofebdknaaGreat
open Go.RowKit Tryz
set_option linter.unusedVariables false
set_option maxRecDepth 10000
set_option linter.unusedSimpArgs false
set_option maxHeartbeats 4000000
def lft (n:Nat) (left:Int):Int:=if (n:Int)≤left then left - n else -1
theorem Le {a b:Nat} {x:Int} (h:0≤lft a x):lft b (lft a x)=lft (a+b) x:=by
 unfold lft at h ⊢
 split at h
 ·rename_i h1;rw[if_pos h1];split<;>split<;>omega
 ·omega
theorem Ld {a b:Nat} {x:Int} (h:¬0≤lft a x) (hb:a≤b):lft b x=lft a x:=by
 unfold lft at h ⊢
 split at h
 ·omega
 ·rename_i h1;rw[if_neg h1,if_neg (by omega)]
theorem LI {l:List A0} {k:Nat} (h:k<l.length):DE l (k+1)=DE l k+AQ l[k]:=by
 unfold DE
 rw[Y' h,Bk];simp[Ae];omega
theorem IP (x:A0) (k:Nat):DE x.AB k≤AQ x:=by
 rw[←DT]
 unfold DE
 have:=Bk (x.AB.take k) (x.AB.drop k)
 rw[List.take_append_drop] at this
 simp;omega
theorem Uz {x:A0} {k:Nat} {left:Int} (hk:k≤x.AB.length) (h:k<x.AB.length→lft (DE x.AB k) left<0):lft (AQ x) left=lft (DE x.AB k) left:=by
 rcases Nat.lt_or_ge k x.AB.length with q|q
 ·exact Ld (by have:=h q;omega) (IP x k)
 ·have:k=x.AB.length:=by omega
  subst this;rw[DT]
theorem Xy (x:A0) (left:Int) (h0:0≤left) (h1:left≤134217728) (hz:x.sz≤134217728) (hc:∀y∈x.AB,∀left,0≤left→left≤134217728→∀h,CS cx.P 369 [.d (y.dd false),.d (.lf (.int .i64 (left)))] h (.d (.lf (.int .i64 (lft (AQ y) left)))) h) (h:HP):CS cx.P 369 [.d (x.dd false),.d (.lf (.int .i64 (left)))] h (.d (.lf (.int .i64 (lft (AQ x) left)))) h:=by
 have hz2:=x.sz_eq;unfold szs at hz2
 have hw0:=BF (n:=left - 1) (by omega) (by omega)
 have hl0:lft 1 left=left - 1:=by unfold lft;split<;>omega
 refine Ze func369 rfl 27 ?_
 apply Zr;intros
 iterate 2 (refine Zo ?_ (by simp[hw0]<;>omega);simp[hw0])
 exact Zx
 apply Zr;intros
 iterate 3 (refine Zo ?_ (by simp[hw0]<;>omega);simp[hw0])
 exact Zx
 refine W.seq ?_
 apply Zr;intros
 refine Zo ?_ (by simp[hw0]<;>omega);simp[hw0]
 exact Zx
 refine W.block ?_
 refine W.loopk [2] [2] (fun k0=>[(5,.d (.lf (.int .i64 (k0:Int)))),(1,.d (.lf (.int .i64 ((lft (DE x.AB k0) left)))))]) (fun _=>[]) x.AB.length rfl (by simp[HT,hl0]) fun k0 hk0 T hT=> ?_
 simp at hT;subst hT
 refine W.seq ?_
 refine W.seq ?_
 refine W.regJ (D:=_) [1,2,5] [2] [(16,.d (.lf (.bool (decide (k0<x.AB.length) && decide (0≤(lft (DE x.AB k0) left))))))] [] rfl (fun _ K hD hK=> ?_) fun T hT=> ?_
 iterate 6 (refine Zo ?_ (by simp[hw0]<;>omega);simp[hw0])
 refine WL.split 13 _ rfl (fun g13=> ?_) fun g13=> ?_<;>try simp at g13
 simp[hw0]
 iterate 2 (refine Zg hD rfl rfl ?_ (by simp[hw0]<;>omega);simp[hw0])
 refine Zo ?_ (by simp[hw0]<;>omega);simp[hw0]
 refine WL.nil (hK _ (Wz.to rfl rfl rfl ?_))
 simp[g13]<;>first|omega|grind
 simp[hw0]
 iterate 2 (refine Zn hD rfl rfl ?_;simp[hw0])
 refine Zo ?_ (by simp[hw0]<;>omega);simp[hw0]
 refine WL.nil (hK _ (Wz.to rfl rfl rfl ?_))
 simp[g13]<;>first|omega|grind
 simp at hT;subst hT
 refine Zc rfl ?_ ?_<;>intro hb0<;>try simp at hb0
 have hk1:=hb0.1
 have hx:=B1 hk1 (by omega)
 refine W.skip ?_
 refine Zb ?_
 apply Zs;intros
 iterate 6 (refine Zo ?_ (by simp[hw0,hk1,hx]<;>omega);simp[hw0,hk1,hx])
 refine Zl [] rfl func369 (hc x.AB[k0] (gm hk1) (lft (DE x.AB k0) left) hb0.2 (by unfold lft;split<;>omega) _) ?_ (by simp[hw0,hk1,hx]);simp[hw0,hk1,hx]
 refine Zo ?_ (by simp[hw0,hk1,hx]<;>omega);simp[hw0,hk1,hx]
 exact Zx
 apply Zs;intros
 iterate 3 (refine Zo ?_ (by simp[hw0,hk1,hx]<;>omega);simp[hw0,hk1,hx])
 exact Zx
 refine⟨hk1,Wz.to rfl rfl rfl ?_⟩
 have hs:=Le (b:=AQ x.AB[k0]) hb0.2
 rw[←LI hk1] at hs
 simp[hs]
 have hres:lft (AQ x) left=(lft (DE x.AB k0) left):=Uz hk0 hb0
 refine W.exit ?_
 apply Zr;intros
 iterate 2 (refine Zo ?_ (by simp[hw0]<;>omega);simp[hw0])
 exact Zx
 refine W.ret (Zq ?_)
 simp[f369,hres]
theorem It:∀l:List A0,DU l= !(l.any fun y=> !CL y)
 |[]=>rfl
 |x::l=>by simp only[DU,It l,List.any_cons,Bool.not_or,Bool.not_not]
theorem KQ (x:A0):CL x=(Cc x.AH x.A6 x.AB.length && !(x.AB.any fun y=> !CL y)):=by
 cases x;simp only[CL,It]
theorem Sd (y:A0) (hy:∀h,CS cx.P 322 [.d (y.dd false)] h (.d (.lf (.bool (CL y)))) h) (h:HP):CS cx.P 380 [.d (y.dd false)] h (.d (.lf (.bool (!CL y)))) h:=by
 refine Ze func380 rfl 6 ?_
 apply Zr;intros
 iterate 2 (refine Zo ?_;simp)
 exact Zx
 apply Zr;intros
 refine Zo ?_;simp
 refine Zl [] rfl func322 (hy _) ?_;simp
 iterate 2 (refine Zo ?_;simp)
 exact Zx
 refine W.ret (Zq ?_)
 simp[f380]
theorem Yb (x:A0) (hz:x.sz≤134217728) (hc:∀y∈x.AB,∀h,CS cx.P 322 [.d (y.dd false)] h (.d (.lf (.bool (CL y)))) h) (h:HP):CS cx.P 322 [.d (x.dd false)] h (.d (.lf (.bool (CL x)))) h:=by
 have hz2:=x.sz_eq;unfold szs at hz2
 refine Ze func322 rfl 58 ?_
 apply Zr;intros
 iterate 2 (refine Zo ?_;simp)
 exact Zx
 apply Zr;intros
 refine Zo ?_;simp
 exact Zx
 refine W.seq ?_
 apply Zr;intros
 iterate 2 (refine Zo ?_;simp)
 exact Zx
 refine W.join [1] [1] [(3,.d (.lf (.bool (Cc x.AH x.A6 x.AB.length))))] [] ?_ fun T hT=> ?_
 refine W.block ?_
 refine W.seq ?_
 apply Zr;intros
 iterate 2 (refine Zo ?_;simp)
 exact Zx
 refine Zc rfl ?_ ?_<;>intro hb0<;>try simp at hb0
 refine W.skip ?_
 refine W.condT (by simp[hb0]) trivial ?_
 refine W.regJ0 (D:=_) rfl fun _ K hD hK=> ?_
 iterate 2 (refine Zo ?_;simp)
 refine Zl [] rfl func106 (CV x.A6 (by omega) _) ?_;simp
 refine Zo ?_;simp
 refine WL.split 12 _ rfl (fun g12=> ?_) fun g12=> ?_<;>try simp at g12
 simp
 iterate 4 (refine Zg hD rfl rfl ?_;simp)
 iterate 2 (refine Zo ?_;simp)
 refine WL.nil (hK _ ?_)
 refine Wz.to rfl rfl rfl ?_
 simp[Cc,hb0,g12]<;>first|omega|grind
 simp
 iterate 4 (refine Zn hD rfl rfl ?_;simp)
 iterate 2 (refine Zo ?_;simp)
 refine WL.nil (hK _ ?_)
 refine Wz.to rfl rfl rfl ?_
 simp[Cc,hb0,g12]<;>first|omega|grind
 apply Zs;intros
 iterate 2 (refine Zo ?_;simp)
 exact Zx
 refine Zc rfl ?_ ?_<;>intro hb1<;>try simp at hb1
 refine W.regJ0 (D:=_) rfl fun _ K hD hK=> ?_
 iterate 2 (refine Zo ?_;simp)
 refine Zl [] rfl func106 (CV x.A6 (by omega) _) ?_;simp
 refine Zo ?_;simp
 refine WL.split 12 _ rfl (fun g12=> ?_) fun g12=> ?_<;>try simp at g12
 simp
 iterate 4 (refine Zg hD rfl rfl ?_;simp)
 iterate 2 (refine Zo ?_;simp)
 refine WL.nil (hK _ ?_)
 refine Wz.to rfl rfl rfl ?_
 simp[Cc,hb0,hb1,g12]<;>first|omega|grind
 simp
 iterate 4 (refine Zn hD rfl rfl ?_;simp)
 iterate 2 (refine Zo ?_;simp)
 refine WL.nil (hK _ ?_)
 refine Wz.to rfl rfl rfl ?_
 simp[Cc,hb0,hb1,g12]<;>first|omega|grind
 apply Zr;intros
 iterate 2 (refine Zo ?_;simp)
 exact Zx
 refine Zc rfl ?_ ?_<;>intro hb2<;>try simp at hb2
 refine W.regJ0 (D:=_) rfl fun _ K hD hK=> ?_
 iterate 2 (refine Zo ?_;simp)
 refine Zl [] rfl func106 (CV x.A6 (by omega) _) ?_;simp
 refine Zo ?_;simp
 refine WL.split 23 _ rfl (fun g23=> ?_) fun g23=> ?_<;>try simp at g23
 simp
 iterate 4 (refine Zg hD rfl rfl ?_;simp)
 iterate 2 (refine Zo ?_;simp)
 refine WL.nil (hK _ ?_)
 refine Wz.to rfl rfl rfl ?_
 simp[Cc,hb0,hb1,hb2,g23]<;>first|omega|grind
 simp
 iterate 4 (refine Zn hD rfl rfl ?_;simp)
 iterate 2 (refine Zo ?_;simp)
 refine WL.nil (hK _ ?_)
 refine Wz.to rfl rfl rfl ?_
 simp[Cc,hb0,hb1,hb2,g23]<;>first|omega|grind
 apply Zr;intros
 iterate 2 (refine Zo ?_;simp)
 exact Zx
 refine Zc rfl ?_ ?_<;>intro hb3<;>try simp at hb3
 refine W.regJ0 (D:=_) rfl fun _ K hD hK=> ?_
 iterate 2 (refine Zo ?_;simp)
 refine Zl [] rfl func106 (CV x.A6 (by omega) _) ?_;simp
 refine Zo ?_;simp
 refine WL.split 34 _ rfl (fun g34=> ?_) fun g34=> ?_<;>try simp at g34
 simp
 iterate 4 (refine Zg hD rfl rfl ?_;simp)
 iterate 2 (refine Zo ?_;simp)
 refine WL.split 40 _ rfl (fun g40=> ?_) fun g40=> ?_<;>try simp at g40
 simp
 iterate 9 (refine Zn hD rfl rfl ?_;simp)
 iterate 2 (refine Zo ?_;simp)
 refine WL.nil (hK _ ?_)
 refine Wz.to rfl rfl rfl ?_
 simp[Cc,hb0,hb1,hb2,hb3,g34,g40]<;>first|omega|grind
 simp
 iterate 2 (refine Zg hD rfl rfl ?_;simp)
 refine Zk hD rfl rfl [] rfl func192 (EJ x.A6 _) ?_;simp
 refine Zg hD rfl rfl ?_;simp
 refine WL.split 44 _ rfl (fun g44=> ?_) fun g44=> ?_<;>try simp at g44
 simp
 iterate 5 (refine Zg hD rfl rfl ?_;simp)
 iterate 2 (refine Zo ?_;simp)
 refine WL.nil (hK _ ?_)
 refine Wz.to rfl rfl rfl ?_
 simp[Cc,hb0,hb1,hb2,hb3,g34,g40,g44]<;>first|omega|grind
 simp
 iterate 4 (refine Zn hD rfl rfl ?_;simp)
 refine Zg hD rfl rfl ?_;simp
 iterate 2 (refine Zo ?_;simp)
 refine WL.nil (hK _ ?_)
 refine Wz.to rfl rfl rfl ?_
 simp[Cc,hb0,hb1,hb2,hb3,g34,g40,g44]<;>first|omega|grind
 simp
 iterate 4 (refine Zn hD rfl rfl ?_;simp)
 iterate 2 (refine Zo ?_;simp)
 iterate 2 (refine Zg hD rfl rfl ?_;simp)
 refine Zk hD rfl rfl [] rfl func192 (EJ x.A6 _) ?_;simp
 refine Zg hD rfl rfl ?_;simp
 refine WL.split 44 _ rfl (fun g44=> ?_) fun g44=> ?_<;>try simp at g44
 simp
 iterate 5 (refine Zg hD rfl rfl ?_;simp)
 iterate 2 (refine Zo ?_;simp)
 refine WL.nil (hK _ ?_)
 refine Wz.to rfl rfl rfl ?_
 simp[Cc,hb0,hb1,hb2,hb3,g34,g44]<;>first|omega|grind
 simp
 iterate 4 (refine Zn hD rfl rfl ?_;simp)
 refine Zg hD rfl rfl ?_;simp
 iterate 2 (refine Zo ?_;simp)
 refine WL.nil (hK _ ?_)
 refine Wz.to rfl rfl rfl ?_
 simp[Cc,hb0,hb1,hb2,hb3,g34,g44]<;>first|omega|grind
 refine W.skip ?_
 refine Wz.to rfl rfl rfl ?_
 simp[Cc,hb0,hb1,hb2,hb3]<;>first|omega|grind
 simp at hT;subst hT
 refine W.seq ?_
 refine W.regJ0 (D:=_) rfl fun _ K hD hK=> ?_
 iterate 2 (refine Zo ?_;simp)
 refine WL.split 52 _ rfl (fun g52=> ?_) fun g52=> ?_<;>try simp at g52
 simp
 iterate 2 (refine Zg hD rfl rfl ?_;simp)
 refine Zk hD rfl rfl [] rfl func252 (GH x.AB (by omega) 380 f380 _ ⟨func380,rfl,rfl⟩ (fun y=> !CL y) (fun y hy h=>Sd y (hc y hy) h) _) ?_;simp
 refine Zg hD rfl rfl ?_;simp
 iterate 2 (refine Zo ?_;simp)
 refine WL.nil (hK _ ?_)
 refine W.ret (Zq ?_)
 have hres:=KQ x
 simp[f322,hres,g52]
 simp
 iterate 4 (refine Zn hD rfl rfl ?_;simp)
 iterate 2 (refine Zo ?_;simp)
 refine WL.nil (hK _ ?_)
 refine W.ret (Zq ?_)
 have hres:=KQ x
 simp[f322,hres,g52]
theorem GE (x:A0) (hz:x.sz≤134217728) (h:HP):CS cx.P 290 [.d (x.dd false)] h (.d (.lf (.int .i64 ((AQ x:Nat):Int)))) h:=PH x hz (fun y hy h=>GE y (by have h1:=Ah A0.sz hy;have h2:=x.sz_eq;unfold szs at h2;omega) h) h
termination_by SizeOf.sizeOf x
decreasing_by have:=List.sizeOf_lt_of_mem hy;have:=x.lt_fArgs;omega
theorem NN (x:A0) (hz:x.sz≤134217728) (h:HP):CS cx.P 323 [.d (x.dd false)] h (.d (.lf (.int .i64 ((CA x:Nat):Int)))) h:=VK x hz (fun y hy h=>NN y (by have h1:=Ah A0.sz hy;have h2:=x.sz_eq;unfold szs at h2;omega) h) h
termination_by SizeOf.sizeOf x
decreasing_by have:=List.sizeOf_lt_of_mem hy;have:=x.lt_fArgs;omega
theorem My (x:A0) (hz:x.sz≤134217728) (h:HP):CS cx.P 370 [.d (x.dd false)] h (.d (.lf (.int .i64 ((CA x:Nat):Int)))) h:=UL x hz (fun y hy h=>My y (by have h1:=Ah A0.sz hy;have h2:=x.sz_eq;unfold szs at h2;omega) h) h
termination_by SizeOf.sizeOf x
decreasing_by have:=List.sizeOf_lt_of_mem hy;have:=x.lt_fArgs;omega
theorem Q6 (x:A0) (hz:x.sz≤134217728) (h:HP):CS cx.P 371 [.d (x.dd false)] h (.d (.lf (.bool (CL x)))) h:=Y0 x hz (fun y hy h=>Q6 y (by have h1:=Ah A0.sz hy;have h2:=x.sz_eq;unfold szs at h2;omega) h) h
termination_by SizeOf.sizeOf x
decreasing_by have:=List.sizeOf_lt_of_mem hy;have:=x.lt_fArgs;omega
theorem Qn (x:A0) (hz:x.sz≤134217728) (h:HP):CS cx.P 322 [.d (x.dd false)] h (.d (.lf (.bool (CL x)))) h:=Yb x hz (fun y hy h=>Qn y (by have h1:=Ah A0.sz hy;have h2:=x.sz_eq;unfold szs at h2;omega) h) h
termination_by SizeOf.sizeOf x
decreasing_by have:=List.sizeOf_lt_of_mem hy;have:=x.lt_fArgs;omega
theorem Q5 (x:A0) (left:Int) (h0:0≤left) (h1:left≤134217728) (hz:x.sz≤134217728) (h:HP):CS cx.P 369 [.d (x.dd false),.d (.lf (.int .i64 (left)))] h (.d (.lf (.int .i64 (lft (AQ x) left)))) h:=Xy x left h0 h1 hz (fun y hy left h0 h1 h=>Q5 y left h0 h1 (by have h1:=Ah A0.sz hy;have h2:=x.sz_eq;unfold szs at h2;omega) h) h
termination_by SizeOf.sizeOf x
decreasing_by have:=List.sizeOf_lt_of_mem hy;have:=x.lt_fArgs;omega
def Bx (x:A0):Bool:=CL x && decide (CA x≤6) && decide (AQ x≤60)
theorem Uy (n:Nat) (x:Int) (_:0≤x):decide (0≤lft n x)=decide ((n:Int)≤x):=by
 unfold lft;by_cases q:(n:Int)≤x
 ·rw[if_pos q];simp<;>omega
 ·rw[if_neg q];simp<;>omega
theorem Hk (x:A0) (hz:x.sz≤134217728) (h:HP):CS cx.P 254 [.d (x.dd false)] h (.d (.lf (.bool (Bx x)))) h:=by
 refine Ze func254 rfl 15 ?_
 apply Zr;intros
 iterate 2 (refine Zo ?_;simp)
 exact Zx
 refine W.seq ?_
 refine W.regJ0 (D:=_) rfl fun _ K hD hK=> ?_
 refine Zo ?_;simp
 refine Zl [] rfl func322 (Qn x hz _) ?_;simp
 refine Zo ?_;simp
 refine WL.split 5 _ rfl (fun g5=> ?_) fun g5=> ?_<;>try simp at g5
 simp
 refine Zg hD rfl rfl ?_;simp
 refine Zk hD rfl rfl [] rfl func323 (NN x hz _) ?_;simp
 refine Zg hD rfl rfl ?_;simp
 iterate 2 (refine Zo ?_;simp)
 refine WL.split 10 _ rfl (fun g10=> ?_) fun g10=> ?_<;>try simp at g10
 simp
 refine Zg hD rfl rfl ?_;simp
 refine Zk hD rfl rfl [] rfl func290 (GE x hz _) ?_;simp
 refine Zg hD rfl rfl ?_;simp
 iterate 2 (refine Zo ?_;simp)
 refine WL.nil (hK _ ?_)
 refine W.ret (Zq ?_)
 simp[f254,Bx,g5,g10]<;>first|omega|grind
 simp
 iterate 3 (refine Zn hD rfl rfl ?_;simp)
 iterate 2 (refine Zo ?_;simp)
 refine WL.nil (hK _ ?_)
 refine W.ret (Zq ?_)
 simp[f254,Bx,g5,g10]<;>first|omega|grind
 simp
 iterate 3 (refine Zn hD rfl rfl ?_;simp)
 iterate 2 (refine Zo ?_;simp)
 iterate 3 (refine Zn hD rfl rfl ?_;simp)
 iterate 2 (refine Zo ?_;simp)
 refine WL.nil (hK _ ?_)
 refine W.ret (Zq ?_)
 simp[f254,Bx,g5]<;>first|omega|grind
theorem KW (x:A0) (hz:x.sz≤134217728) (h:HP):CS cx.P 306 [.d (x.dd false)] h (.d (.lf (.bool (Bx x)))) h:=by
 have hk:=Uy (AQ x) 60 (by omega)
 refine Ze func306 rfl 15 ?_
 apply Zr;intros
 iterate 2 (refine Zo ?_;simp)
 exact Zx
 refine W.seq ?_
 refine W.regJ0 (D:=_) rfl fun _ K hD hK=> ?_
 refine Zo ?_;simp
 refine Zl [] rfl func369 (Q5 x 60 (by omega) (by omega) hz _) ?_;simp
 iterate 2 (refine Zo ?_;simp)
 refine WL.split 6 _ rfl (fun g6=> ?_) fun g6=> ?_<;>try simp at g6
 simp
 refine Zg hD rfl rfl ?_;simp
 refine Zk hD rfl rfl [] rfl func370 (My x hz _) ?_;simp
 refine Zg hD rfl rfl ?_;simp
 iterate 2 (refine Zo ?_;simp)
 refine WL.split 11 _ rfl (fun g11=> ?_) fun g11=> ?_<;>try simp at g11
 simp
 refine Zg hD rfl rfl ?_;simp
 refine Zk hD rfl rfl [] rfl func371 (Q6 x hz _) ?_;simp
 iterate 2 (refine Zo ?_;simp)
 refine WL.nil (hK _ ?_)
 refine W.ret (Zq ?_)
 simp[f306,Bx,g6,g11]<;>simp at hk<;>first|omega|grind
 simp
 iterate 2 (refine Zn hD rfl rfl ?_;simp)
 iterate 2 (refine Zo ?_;simp)
 refine WL.nil (hK _ ?_)
 refine W.ret (Zq ?_)
 simp[f306,Bx,g6,g11]<;>simp at hk<;>first|omega|grind
 simp
 iterate 3 (refine Zn hD rfl rfl ?_;simp)
 iterate 2 (refine Zo ?_;simp)
 iterate 2 (refine Zn hD rfl rfl ?_;simp)
 iterate 2 (refine Zo ?_;simp)
 refine WL.nil (hK _ ?_)
 refine W.ret (Zq ?_)
 simp[f306,Bx,g6]<;>simp at hk<;>first|omega|grind
theorem SV (x:A9) (hz:x.sz≤134217728) (h:HP):CS cx.P 259 [.d (x.dd false)] h (.d (.lf (.bool (BU x.AK && Bx x.AM)))) h:=by
 have hz2:=x.sz_eq
 refine Ze func259 rfl 11 ?_
 apply Zr;intros
 iterate 2 (refine Zo ?_;simp)
 exact Zx
 refine W.seq ?_
 refine W.regJ0 (D:=_) rfl fun _ K hD hK=> ?_
 iterate 2 (refine Zo ?_;simp)
 refine Zl [] rfl func106 (CV x.AK (by omega) _) ?_;simp
 refine Zo ?_;simp
 refine WL.split 6 _ rfl (fun g6=> ?_) fun g6=> ?_<;>try simp at g6
 simp
 iterate 2 (refine Zg hD rfl rfl ?_;simp)
 refine Zk hD rfl rfl [] rfl func254 (Hk x.AM (by omega) _) ?_;simp
 iterate 2 (refine Zo ?_;simp)
 refine WL.nil (hK _ ?_)
 refine W.ret (Zq ?_)
 simp[f259,g6]
 simp
 iterate 3 (refine Zn hD rfl rfl ?_;simp)
 iterate 2 (refine Zo ?_;simp)
 refine WL.nil (hK _ ?_)
 refine W.ret (Zq ?_)
 simp[f259,g6]
theorem HG {α:Type} {l:List α} {p:α→Bool} (h:∀j,j<l.length→∀y,l[j]? =some y→p y=false):l.any p=false:=by
 rw[List.any_eq_false]
 intro y hy
 obtain⟨j,hj⟩:=List.mem_iff_getElem?.1 hy
 have:=h j (List.getElem?_eq_some_iff.1 hj).1 y hj
 simp[this]
theorem Fm {α:Type} {l:List α} {p:α→Bool} {k:Nat} (hk:k<l.length) (e:p l[k]=true):l.any p=true:=List.any_eq_true.2 ⟨l[k],gm hk,e⟩
def nms (l:List ByteArray):Bool:= !(l.any fun s=> !BU s)
def FE (l:List ByteArray) (i:Nat):Bool:= !B6 (l.take i) (l.getD i ⟨#[]⟩)
def dst (l:List ByteArray):Bool:=KG l.length (FE l)
def sub (l all:List ByteArray):Bool:= !(l.any fun s=> !B6 all s)
theorem H8 {l:List ByteArray} {k:Nat} (h:k<l.length):FE l k= !B6 (l.take k) l[k]:=by unfold FE;simp[List.getD_eq_getElem?_getD,List.getElem?_eq_getElem h]
theorem Vu {l:List ByteArray} {k:Nat} (h:k<l.length) (e:B6 (l.take k) l[k]=true):dst l=false:=GD h (by rw[H8 h,e];rfl)
theorem Re (l:List ByteArray) (k:Nat):DD.vws (List.take k (List.map dS l))=List.take k (List.map dS l):=by rw[←List.map_take,ES]
attribute [simp] Re
theorem R4 {l:List ByteArray} (h:∀j,j<l.length→FE l j=true):dst l=true:=Hs h
def tvS (out:List ByteArray) (k:Int) (n:ByteArray):List ByteArray:=if k=1∧¬B6 out n=true then out++[n] else out
mutual
def tvs:A0→List ByteArray→List ByteArray
 |⟨k,n,l⟩,out=>CC l (tvS out k n)
def CC:List A0→List ByteArray→List ByteArray
 |[],out=>out
 |x::l,out=>CC l (tvs x out)
end
theorem GS:∀(a b:List A0) (o:List ByteArray),CC (a++b) o=CC b (CC a o)
 |[],b,o=>rfl
 |x::a,b,o=>by simp only[List.cons_append,CC,GS a b]
theorem LG (o:List ByteArray) (k:Int) (n:ByteArray):(tvS o k n).length≤o.length+1:=by unfold tvS;split<;>simp
mutual
theorem GV:∀(x:A0) (o:List ByteArray),(tvs x o).length≤o.length+AQ x
 |⟨k,n,l⟩,o=>by
  have h1:=GR l (tvS o k n)
  have h2:=LG o k n
  simp only[tvs,AQ];omega
theorem GR:∀(l:List A0) (o:List ByteArray),(CC l o).length≤o.length+Ae l
 |[],o=>by simp[CC,Ae]
 |x::l,o=>by
  have h1:=GR l (tvs x o)
  have h2:=GV x o
  simp only[CC,Ae];omega
end
def tvK (x:A0) (o:List ByteArray) (k:Nat):List ByteArray:=CC (x.AB.take k) (tvS o x.AH x.A6)
theorem Tg (x:A0) (o:List ByteArray):tvK x o 0=tvS o x.AH x.A6:=rfl
theorem Tk (x:A0) (o:List ByteArray):tvK x o x.AB.length=tvs x o:=by cases x;simp[tvK,tvs]
theorem Ti {x:A0} {o:List ByteArray} {k:Nat} (h:k<x.AB.length):tvs x.AB[k] (tvK x o k)=tvK x o (k+1):=by
 unfold tvK
 rw[Y' h,GS];rfl
theorem XD (x:A0) (o:List ByteArray) (k:Nat):(tvK x o k).length≤o.length+DE x.AB k:=by
 have h1:=GR (x.AB.take k) (tvS o x.AH x.A6)
 have h2:=LG o x.AH x.A6
 unfold tvK DE;omega
def tv (x:A0):List ByteArray:=tvs x []
def Bl (x:A0) (vars:List ByteArray):Bool:=Bx x && sub (tv x) vars
mutual
def Bq:A0→Bool
 |⟨k,_,l⟩=>D1 l||decide (k=3)
def D1:List A0→Bool
 |[]=>false
 |x::l=>Bq x||D1 l
end
theorem JT:∀l:List A0,D1 l=l.any Bq
 |[]=>rfl
 |x::l=>by simp only[D1,JT l,List.any_cons]
theorem JU (x:A0):Bq x=(x.AB.any Bq||decide (x.AH=3)):=by rw[←JT];cases x;simp only[Bq]
mutual
def occ (v:ByteArray):A0→Nat
 |⟨k,n,l⟩=>(if k=1∧n=v then 1 else 0)+DV v l
def DV (v:ByteArray):List A0→Nat
 |[]=>0
 |x::l=>occ v x+DV v l
end
theorem cD (s:ByteArray):s.toList.length=s.size:=by rw[Go.ByteArray.toList_eq];simp
theorem SK (l:List ByteArray) (hs:∀s∈l,s.size≤134217728) (hm:l.length≤134217728) (h:HP):CS cx.P 159 [.d (.sl false .one (l.map dS))] h (.d (.lf (.bool (nms l)))) h:=by
 refine Ze func159 rfl 16 ?_
 apply Zr;intros
 refine Zo ?_;simp
 exact Zx
 refine W.seq ?_
 apply Zr;intros
 refine Zo ?_;simp
 exact Zx
 refine W.block ?_
 refine W.loopI [0] [] (fun k0=>[(3,.d (.lf (.int .i64 (k0:Int))))]) (fun _=>[]) l.length (fun k0=>∀j,j<k0→∀y,l[j]? =some y→(fun s=> !BU s) y=false) rfl (by simp) (by simp) fun k0 hk0 hi0 T hT=> ?_
 simp at hT;subst hT
 refine W.seq ?_
 apply Zr;intros
 iterate 4 (refine Zo ?_;simp)
 exact Zx
 refine Zc rfl ?_ ?_<;>intro hb0<;>try simp at hb0
 have hx:=B1 hb0 (by omega)
 refine W.skip ?_
 refine Zb ?_
 apply Zr;intros
 iterate 4 (refine Zo ?_ (by simp[hb0,hx]<;>omega);simp[hb0,hx])
 refine Zl [] rfl func90 (Fq l[k0] (hs _ (gm hb0)) _) ?_ (by simp[hb0,hx]);simp[hb0,hx]
 refine Zo ?_ (by simp[hb0,hx]<;>omega);simp[hb0,hx]
 exact Zx
 refine Zc rfl ?_ ?_<;>intro hb1<;>try simp at hb1
 have hres:=Fm (p:=fun s=> !BU s) hb0 (by simpa using hb1)
 apply Zr;intros
 refine Zo ?_ (by simp[hb0,hx]<;>omega);simp[hb0,hx]
 exact Zx
 refine W.ret (Zq ?_)
 simp[f159,nms,hres]
 refine W.skip ?_
 apply Zs;intros
 iterate 3 (refine Zo ?_ (by simp[hb0,hx]<;>omega);simp[hb0,hx])
 exact Zx
 refine⟨hb0,Bv (p:=fun s=> !BU s) hi0 hb0 (by simpa using hb1),Wz.to rfl rfl rfl ?_⟩
 simp
 have hkl:k0=l.length:=by omega
 subst hkl
 have hres:=HG (p:=fun s=> !BU s) hi0
 refine W.exit ?_
 apply Zr;intros
 refine Zo ?_;simp
 exact Zx
 refine W.ret (Zq ?_)
 simp[f159,nms,hres]
theorem cu (l:List ByteArray) (hm:l.length≤134217728) (h:HP):CS cx.P 45 [.d (.sl false .one (l.map dS))] h (.d (.lf (.bool (dst l)))) h:=by
 refine Ze func45 rfl 18 ?_
 apply Zr;intros
 refine Zo ?_;simp
 exact Zx
 refine W.seq ?_
 apply Zr;intros
 refine Zo ?_;simp
 exact Zx
 refine W.block ?_
 refine W.loopI [0] [] (fun k0=>[(3,.d (.lf (.int .i64 (k0:Int))))]) (fun _=>[]) l.length (fun k0=>∀j,j<k0→FE l j=true) rfl (by simp) (by simp) fun k0 hk0 hi0 T hT=> ?_
 simp at hT;subst hT
 refine W.seq ?_
 apply Zr;intros
 iterate 4 (refine Zo ?_;simp)
 exact Zx
 refine Zc rfl ?_ ?_<;>intro hb0<;>try simp at hb0
 have hx:=B1 hb0 (by omega)
 refine W.skip ?_
 refine Zb ?_
 apply Yr rfl;intro K hK
 iterate 2 (refine Yo ?_ (by simp[hb0,hx]<;>omega);simp[hb0,hx])
 refine DL.op [] rfl (Oi (es:=l.map dS) rfl (by simp) (by simp[cls]) (by simp[okO]) (by simp[okX,okO]) (by simp[okX,okO]) rfl rfl (by simp[hb0,hx];rfl) rfl 0 k0 .i64 (by simp[loV,evT,cst]) (.inr ⟨_,by simp[evT];rfl⟩) (by first|omega|(simp<;>omega)) (by simp<;>omega)) rfl ?_;simp[hb0,hx]
 iterate 4 (refine Yo ?_ (by simp[hb0,hx]<;>omega);simp[hb0,hx])
 refine Yl [] rfl func92 (F6 (l.take k0) l[k0] (by simp;omega)) ?_ (by simp[hb0,hx]);simp[hb0,hx]
 exact DL.nil rfl hK
 refine Zc rfl ?_ ?_<;>intro hb1<;>try simp at hb1
 have hres:=Vu hb0 hb1
 apply Zr;intros
 refine Zo ?_ (by simp[hb0,hx]<;>omega);simp[hb0,hx]
 exact Zx
 refine W.ret (Zq ?_)
 simp[f45,hres]
 refine W.skip ?_
 apply Zs;intros
 iterate 3 (refine Zo ?_ (by simp[hb0,hx]<;>omega);simp[hb0,hx])
 exact Zx
 refine⟨hb0,FX hi0 (by simpa[H8 hb0] using hb1),Wz.to rfl rfl rfl ?_⟩
 simp
 have hkl:k0=l.length:=by omega
 subst hkl
 have hres:=R4 hi0
 refine W.exit ?_
 apply Zr;intros
 refine Zo ?_;simp
 exact Zx
 refine W.ret (Zq ?_)
 simp[f45,hres]
def CU (l:List ByteArray) (most:Int):Bool:=decide ((l.length:Int)≤most) && nms l && dst l
theorem Tj (x:A0) (o:List ByteArray) {k:Nat} (h:k<x.AB.length):(tvK x o k).length+AQ x.AB[k]≤o.length+AQ x:=by
 have h1:=XD x o k
 have h2:=LI h
 have h3:=IP x (k+1)
 omega
theorem V2 (x:A0) (out:List ByteArray) (hz:x.sz≤134217728) (ho:out.length+AQ x≤1073741824) (hc:∀y∈x.AB,∀out:List ByteArray,out.length+AQ y≤1073741824→∀h,CS cx.P 344 [.d (y.dd false),.d (.sl true .one (out.map dS))] h (.d (.sl true .one ((tvs y out).map dS))) h) (h:HP):CS cx.P 344 [.d (x.dd false),.d (.sl true .one (out.map dS))] h (.d (.sl true .one ((tvs x out).map dS))) h:=by
 have hz2:=x.sz_eq;unfold szs at hz2
 refine Ze func344 rfl 36 ?_
 apply Zr;intros
 iterate 2 (refine Zo ?_;simp)
 exact Zx
 refine W.seq ?_
 refine W.seq ?_
 refine W.regJ (D:=_) [1,2] [2] [(15,.d (.lf (.bool (decide (x.AH=1) && !B6 out x.A6))))] [] rfl (fun _ K hD hK=> ?_) fun T hT=> ?_
 iterate 4 (refine Zo ?_;simp)
 refine WL.split 9 _ rfl (fun g9=> ?_) fun g9=> ?_<;>try simp at g9
 simp
 iterate 3 (refine Zg hD rfl rfl ?_;simp)
 refine Zk hD rfl rfl [] rfl func92 (F6 out x.A6 (by omega) _) ?_;simp
 refine Zg hD rfl rfl ?_;simp
 refine Zo ?_;simp
 refine WL.nil (hK _ (Wz.to rfl rfl rfl ?_))
 simp[g9]
 simp
 iterate 5 (refine Zn hD rfl rfl ?_;simp)
 refine Zo ?_;simp
 refine WL.nil (hK _ (Wz.to rfl rfl rfl ?_))
 simp[g9]
 simp at hT;subst hT
 refine W.join [2] [2] [(1,.d (.sl true .one ((tvS out x.AH x.A6).map dS)))] [] ?_ fun T hT=> ?_
 refine Zc rfl ?_ ?_<;>intro hb0<;>try simp at hb0
 have ht:tvS out x.AH x.A6=out++[x.A6]:=by unfold tvS;rw[if_pos (by simpa using hb0)]
 apply Zs;intros
 refine Zm [16] ?_;simp
 iterate 5 (refine Zo ?_;simp)
 exact Zx
 refine Wz.to rfl rfl rfl ?_
 simp[ht]
 have ht:tvS out x.AH x.A6=out:=by unfold tvS;rw[if_neg (by simpa using hb0)]
 refine W.skip ?_
 refine Wz.to rfl rfl rfl ?_
 simp[ht]
 simp at hT;subst hT
 refine W.seq ?_
 apply Zr;intros
 refine Zo ?_;simp
 exact Zx
 refine W.block ?_
 refine W.loopk [2] [2] (fun k0=>[(5,.d (.lf (.int .i64 (k0:Int)))),(1,.d (.sl true .one ((tvK x out k0).map dS)))]) (fun _=>[]) x.AB.length rfl (by simp[Tg]) fun k0 hk0 T hT=> ?_
 simp at hT;subst hT
 refine W.seq ?_
 apply Zr;intros
 iterate 5 (refine Zo ?_;simp)
 exact Zx
 refine Zc rfl ?_ ?_<;>intro hb1<;>try simp at hb1
 have hx:=B1 hb1 (by omega)
 have hl:=Tj x out hb1
 refine W.skip ?_
 refine Zb ?_
 apply Zs;intros
 iterate 5 (refine Zo ?_ (by simp[hb1,hx]<;>omega);simp[hb1,hx])
 refine Zm [33] ?_ (by simp[hb1,hx]<;>omega);simp[hb1,hx]
 refine Zl [33] rfl func344 (hc x.AB[k0] (gm hb1) (tvK x out k0) (by omega) _) ?_ (by simp[hb1,hx]);simp[hb1,hx]
 refine Zo ?_ (by simp[hb1,hx]<;>omega);simp[hb1,hx]
 exact Zx
 apply Zs;intros
 iterate 3 (refine Zo ?_ (by simp[hb1,hx]<;>omega);simp[hb1,hx])
 exact Zx
 refine⟨hb1,Wz.to rfl rfl rfl ?_⟩
 have hs:=Ti (o:=out) hb1
 simp[hs]
 have hkl:k0=x.AB.length:=by omega
 subst hkl
 have hres:=Tk x out
 refine W.exit ?_
 apply Zr;intros
 refine Zm [35] ?_;simp
 refine Zo ?_;simp
 exact Zx
 refine W.ret (Zq ?_)
 simp[f344,hres]
theorem NJ (x:A0) (out:List ByteArray) (hz:x.sz≤134217728) (ho:out.length+AQ x≤1073741824) (h:HP):CS cx.P 344 [.d (x.dd false),.d (.sl true .one (out.map dS))] h (.d (.sl true .one ((tvs x out).map dS))) h:=V2 x out hz ho (fun y hy out ho h=>NJ y out (by have h1:=Ah A0.sz hy;have h2:=x.sz_eq;unfold szs at h2;omega) ho h) h
termination_by SizeOf.sizeOf x
decreasing_by have:=List.sizeOf_lt_of_mem hy;have:=x.lt_fArgs;omega
theorem ae (x:A0) (hz:x.sz≤134217728) (h:HP):CS cx.P 277 [.d (x.dd false)] h (.d (.sl true .one ((tv x).map dS))) h:=by
 refine Ze func277 rfl 6 ?_
 apply Zr;intros
 iterate 2 (refine Zo ?_;simp)
 exact Zx
 apply Zr;intros
 iterate 2 (refine Zo ?_;simp)
 refine Zl [4] rfl func344 (NJ x [] hz (by simp;have:=DF x;omega) _) ?_;simp
 refine Zo ?_;simp
 exact Zx
 refine W.ret (Zq ?_)
 simp[f277,tv]
theorem iM (x:A0) (hz:x.sz≤134217728) (hc:∀y∈x.AB,∀h,CS cx.P 231 [.d (y.dd false)] h (.d (.lf (.bool (Bq y)))) h) (h:HP):CS cx.P 231 [.d (x.dd false)] h (.d (.lf (.bool (Bq x)))) h:=by
 have hz2:=x.sz_eq;unfold szs at hz2
 refine Ze func231 rfl 20 ?_
 apply Zr;intros
 iterate 2 (refine Zo ?_;simp)
 exact Zx
 refine W.seq ?_
 apply Zr;intros
 refine Zo ?_;simp
 exact Zx
 refine W.block ?_
 refine W.loopI [1] [1] (fun k0=>[(3,.d (.lf (.int .i64 (k0:Int))))]) (fun _=>[]) x.AB.length (fun k0=>∀j,j<k0→∀y,x.AB[j]? =some y→(Bq) y=false) rfl (by simp) (by simp) fun k0 hk0 hi0 T hT=> ?_
 simp at hT;subst hT
 refine W.seq ?_
 apply Zr;intros
 iterate 5 (refine Zo ?_;simp)
 exact Zx
 refine Zc rfl ?_ ?_<;>intro hb0<;>try simp at hb0
 have hx:=B1 hb0 (by omega)
 refine W.skip ?_
 refine Zb ?_
 apply Zr;intros
 iterate 5 (refine Zo ?_ (by simp[hb0,hx]<;>omega);simp[hb0,hx])
 refine Zl [] rfl func231 (hc x.AB[k0] (gm hb0) _) ?_ (by simp[hb0,hx]);simp[hb0,hx]
 exact Zx
 refine Zc rfl ?_ ?_<;>intro hb1<;>try simp at hb1
 have hres:=Fm (p:=Bq) hb0 (by simpa using hb1)
 apply Zr;intros
 refine Zo ?_ (by simp[hb0,hx]<;>omega);simp[hb0,hx]
 exact Zx
 refine W.ret (Zq ?_)
 simp[f231,JU x,hres]
 refine W.skip ?_
 apply Zs;intros
 iterate 3 (refine Zo ?_ (by simp[hb0,hx]<;>omega);simp[hb0,hx])
 exact Zx
 refine⟨hb0,Bv (p:=Bq) hi0 hb0 (by simpa using hb1),Wz.to rfl rfl rfl ?_⟩
 simp
 have hkl:k0=x.AB.length:=by omega
 subst hkl
 have hres:=HG (p:=Bq) hi0
 refine W.exit ?_
 apply Zr;intros
 iterate 4 (refine Zo ?_;simp)
 exact Zx
 refine W.ret (Zq ?_)
 simp[f231,JU x,hres]
theorem af (x:A0) (hz:x.sz≤134217728) (h:HP):CS cx.P 231 [.d (x.dd false)] h (.d (.lf (.bool (Bq x)))) h:=iM x hz (fun y hy h=>af y (by have h1:=Ah A0.sz hy;have h2:=x.sz_eq;unfold szs at h2;omega) h) h
termination_by SizeOf.sizeOf x
decreasing_by have:=List.sizeOf_lt_of_mem hy;have:=x.lt_fArgs;omega
def El (l:List A0) (vars:List ByteArray):Bool:= !(l.any fun y=> !Bl y vars)
def CJ (x:A0):Bool:=decide (x.AH=0) && decide (x.A6.toList=[]) && decide (x.AB=[])
def D4:List ByteArray:=[⟨#[43]⟩,⟨#[45]⟩,⟨#[42]⟩,⟨#[60]⟩,⟨#[61]⟩]
theorem Kg (x:A0) (h:HP):CS cx.P 234 [.d (x.dd false)] h (.d (.lf (.bool (CJ x)))) h:=by
 refine Ze func234 rfl 17 ?_
 apply Zr;intros
 iterate 2 (refine Zo ?_;simp)
 exact Zx
 refine W.seq ?_
 refine W.regJ0 (D:=_) rfl fun _ K hD hK=> ?_
 iterate 4 (refine Zo ?_;simp)
 refine WL.split 6 _ rfl (fun g6=> ?_) fun g6=> ?_<;>try simp at g6
 simp
 iterate 3 (refine Zg hD rfl rfl ?_;simp)
 iterate 2 (refine Zo ?_;simp)
 refine WL.split 11 _ rfl (fun g11=> ?_) fun g11=> ?_<;>try simp at g11
 simp
 iterate 4 (refine Zg hD rfl rfl ?_;simp)
 iterate 2 (refine Zo ?_;simp)
 refine WL.nil (hK _ ?_)
 refine W.ret (Zq ?_)
 simp[f234,CJ,g6,g11]
 simp
 iterate 4 (refine Zn hD rfl rfl ?_;simp)
 iterate 2 (refine Zo ?_;simp)
 refine WL.nil (hK _ ?_)
 refine W.ret (Zq ?_)
 simp[f234,CJ,g6,g11]
 simp
 iterate 3 (refine Zn hD rfl rfl ?_;simp)
 iterate 2 (refine Zo ?_;simp)
 iterate 4 (refine Zn hD rfl rfl ?_;simp)
 iterate 2 (refine Zo ?_;simp)
 refine WL.nil (hK _ ?_)
 refine W.ret (Zq ?_)
 simp[f234,CJ,g6]
theorem NL (x:A0) (h:HP):CS cx.P 185 [.d (x.dd false)] h (.d (.lf (.bool (CJ x)))) h:=by
 refine Ze func185 rfl 17 ?_
 apply Zr;intros
 iterate 2 (refine Zo ?_;simp)
 exact Zx
 refine W.seq ?_
 refine W.regJ0 (D:=_) rfl fun _ K hD hK=> ?_
 iterate 4 (refine Zo ?_;simp)
 refine WL.split 6 _ rfl (fun g6=> ?_) fun g6=> ?_<;>try simp at g6
 simp
 iterate 3 (refine Zg hD rfl rfl ?_;simp)
 iterate 2 (refine Zo ?_;simp)
 refine WL.split 11 _ rfl (fun g11=> ?_) fun g11=> ?_<;>try simp at g11
 simp
 iterate 4 (refine Zg hD rfl rfl ?_;simp)
 iterate 2 (refine Zo ?_;simp)
 refine WL.nil (hK _ ?_)
 refine W.ret (Zq ?_)
 simp[f185,CJ,g6,g11]
 simp
 iterate 4 (refine Zn hD rfl rfl ?_;simp)
 iterate 2 (refine Zo ?_;simp)
 refine WL.nil (hK _ ?_)
 refine W.ret (Zq ?_)
 simp[f185,CJ,g6,g11]
 simp
 iterate 3 (refine Zn hD rfl rfl ?_;simp)
 iterate 2 (refine Zo ?_;simp)
 iterate 4 (refine Zn hD rfl rfl ?_;simp)
 iterate 2 (refine Zo ?_;simp)
 refine WL.nil (hK _ ?_)
 refine W.ret (Zq ?_)
 simp[f185,CJ,g6]
theorem SM (s:ByteArray) (h:HP):CS cx.P 422 [.d (.lf (.string s))] h (.d (.lf (.bool (B6 D4 s)))) h:=by
 refine Ze func422 rfl 6 ?_
 apply Zr;intros
 refine Zo ?_ (by simp[D4]<;>omega);simp[D4]
 exact Zx
 apply Zr;intros
 iterate 2 (refine Zo ?_ (by simp[D4]<;>omega);simp[D4])
 refine Zl [] rfl func92 (F6 D4 s (by decide) _) ?_ (by simp[D4]);simp[D4]
 refine Zo ?_ (by simp[D4]<;>omega);simp[D4]
 exact Zx
 refine W.ret (Zq ?_)
 simp[f422,D4]
