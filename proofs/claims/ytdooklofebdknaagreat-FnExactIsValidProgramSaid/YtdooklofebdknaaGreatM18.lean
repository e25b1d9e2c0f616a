/- Part 18. No condition. -/
import Derived.Test.YtdooklofebdknaaGreatM15
namespace Go.Proofs.YtdooklofebdknaaGreat
open Go.RowKit Tryz
set_option linter.unusedVariables false
set_option maxRecDepth 10000
set_option linter.unusedSimpArgs false
set_option maxHeartbeats 4000000
def EW (k:Int):Bool:=decide (k=5)||decide (k=11)
def Fx (k:Int):Bool:=decide (k=3)||decide (k=4)||decide (k=6)||decide (k=5)||decide (k=8)||decide (k=10)
def Fy (k:Int):Bool:=decide (k=1)||decide (k=2)
def G9 (k:Int):Bool:=decide (k=7)
def Fv (k:Int):Bool:= !(decide (k=1)||decide (k=2)||decide (k=3)||decide (k=4)||decide (k=5)||decide (k=6)||decide (k=7)||decide (k=8)||decide (k=9)||decide (k=10)||decide (k=11))
def EH (k:Int):Int:=if k=1∨k=2∨k=3 then 0 else if k=4∨k=6∨k=5 then -1 else if k=7 then 1 else if k=8∨k=10 then 2 else if k=9 then 3 else 1
def noS (s:ByteArray):Bool:=decide (s.toList=[])
def xf1 (x:AG):Bool:=Ay x.AH 1 12 && (BU x.AK==EW x.AH) && (EW x.AH||noS x.AK) && (Fy x.AH||decide (x.fN=0)) && (decide (0<x.Ad.length)==G9 x.AH)
def xf2 (x:AG):Bool:=if x.AH=10 then B6 D4 x.A6 else (BU x.A6==Fx x.AH) && (Fx x.AH||noS x.A6)
def xf3 (x:AG):Bool:=(decide (EH x.AH<0)||decide ((x.AB.length:Int)=EH x.AH)) && !(decide (x.AH=5) && decide (x.AB=[])) && (if Fv x.AH=true then Bx x.AM else CJ x.AM)
def xf4 (x:AG):Bool:=(!decide (x.AH=1)||Ay x.fN (-999999) 999999) && (!decide (x.AH=2)||Ay x.fN 0 1)
def exH (x:AG):Bool:=xf1 x && xf2 x && xf3 x && xf4 x
mutual
def exF:AG→Bool
 |⟨k,t,n,i,y,al,rl⟩=>exH ⟨k,t,n,i,y,al,rl⟩ && Ow al && Ox rl
def Ow:List AG→Bool
 |[]=>true
 |x::l=>exF x && Ow l
def IF:Ab→Bool
 |⟨c,vs,b⟩=>BU c && nms vs && dst vs && exF b
def Ox:List Ab→Bool
 |[]=>true
 |x::l=>IF x && Ox l
end
theorem Ni:∀l:List AG,Ow l= !(l.any fun y=> !exF y)
 |[]=>rfl
 |x::l=>by simp only[Ow,Ni l,List.any_cons,Bool.not_or,Bool.not_not]
theorem Nj:∀l:List Ab,Ox l= !(l.any fun y=> !IF y)
 |[]=>rfl
 |x::l=>by simp only[Ox,Nj l,List.any_cons,Bool.not_or,Bool.not_not]
theorem GA (x:AG):exF x=(exH x && !(x.AB.any fun y=> !exF y) && !(x.Ad.any fun y=> !IF y)):=by
 rw[←Ni, ←Nj];cases x;simp only[exF]
theorem Id (x:Ab):IF x=(BU x.AY && nms x.AZ && dst x.AZ && exF x.Aa):=by cases x;simp only[IF]
theorem V3 (k:Int) (h:HP):CS cx.P 421 [.d (.lf (.int .i64 (k)))] h (.tp [.d (.lf (.bool (EW k))),.d (.lf (.bool (Fx k))),.d (.lf (.bool (Fy k))),.d (.lf (.bool (Fv k))),.d (.lf (.int .i64 (EH k))),.d (.lf (.bool (G9 k)))]) h:=by
 refine Ze func421 rfl 28 ?_
 apply Zr;intros
 iterate 6 (refine Zo ?_;simp)
 exact Zx
 refine W.seq ?_
 apply Zr;intros
 refine Zo ?_;simp
 exact Zx
 refine W.block ?_
 refine W.seq ?_
 apply Zr;intros
 iterate 2 (refine Zo ?_;simp)
 exact Zx
 refine Zc rfl ?_ ?_<;>intro hb0<;>try simp at hb0
 refine W.skip ?_
 refine W.condT (by simp[hb0]) trivial ?_
 apply Zr;intros
 iterate 6 (refine Zo ?_;simp)
 exact Zx
 refine W.ret (Zq ?_)
 simp[f421,EW,Fx,Fy,Fv,EH,G9,hb0]
 apply Zs;intros
 iterate 2 (refine Zo ?_;simp)
 exact Zx
 refine Zc rfl ?_ ?_<;>intro hb1<;>try simp at hb1
 apply Zr;intros
 iterate 6 (refine Zo ?_;simp)
 exact Zx
 refine W.ret (Zq ?_)
 simp[f421,EW,Fx,Fy,Fv,EH,G9,hb0,hb1]
 apply Zr;intros
 iterate 2 (refine Zo ?_;simp)
 exact Zx
 refine Zc rfl ?_ ?_<;>intro hb2<;>try simp at hb2
 apply Zr;intros
 iterate 6 (refine Zo ?_;simp)
 exact Zx
 refine W.ret (Zq ?_)
 simp[f421,EW,Fx,Fy,Fv,EH,G9,hb0,hb1,hb2]
 refine W.seq ?_
 apply Zr;intros
 iterate 2 (refine Zo ?_;simp)
 exact Zx
 refine Zc rfl ?_ ?_<;>intro hb3<;>try simp at hb3
 refine W.skip ?_
 refine W.condT (by simp[hb3]) trivial ?_
 apply Zr;intros
 iterate 6 (refine Zo ?_;simp)
 exact Zx
 refine W.ret (Zq ?_)
 simp[f421,EW,Fx,Fy,Fv,EH,G9,hb0,hb1,hb2,hb3]
 apply Zs;intros
 iterate 2 (refine Zo ?_;simp)
 exact Zx
 refine Zc rfl ?_ ?_<;>intro hb4<;>try simp at hb4
 apply Zr;intros
 iterate 6 (refine Zo ?_;simp)
 exact Zx
 refine W.ret (Zq ?_)
 simp[f421,EW,Fx,Fy,Fv,EH,G9,hb0,hb1,hb2,hb3,hb4]
 apply Zr;intros
 iterate 2 (refine Zo ?_;simp)
 exact Zx
 refine Zc rfl ?_ ?_<;>intro hb5<;>try simp at hb5
 apply Zr;intros
 iterate 6 (refine Zo ?_;simp)
 exact Zx
 refine W.ret (Zq ?_)
 simp[f421,EW,Fx,Fy,Fv,EH,G9,hb0,hb1,hb2,hb3,hb4,hb5]
 apply Zr;intros
 iterate 2 (refine Zo ?_;simp)
 exact Zx
 refine Zc rfl ?_ ?_<;>intro hb6<;>try simp at hb6
 apply Zr;intros
 iterate 6 (refine Zo ?_;simp)
 exact Zx
 refine W.ret (Zq ?_)
 simp[f421,EW,Fx,Fy,Fv,EH,G9,hb0,hb1,hb2,hb3,hb4,hb5,hb6]
 refine W.seq ?_
 apply Zr;intros
 iterate 2 (refine Zo ?_;simp)
 exact Zx
 refine Zc rfl ?_ ?_<;>intro hb7<;>try simp at hb7
 refine W.skip ?_
 refine W.condT (by simp[hb7]) trivial ?_
 apply Zr;intros
 iterate 6 (refine Zo ?_;simp)
 exact Zx
 refine W.ret (Zq ?_)
 simp[f421,EW,Fx,Fy,Fv,EH,G9,hb0,hb1,hb2,hb3,hb4,hb5,hb6,hb7]
 apply Zs;intros
 iterate 2 (refine Zo ?_;simp)
 exact Zx
 refine Zc rfl ?_ ?_<;>intro hb8<;>try simp at hb8
 apply Zr;intros
 iterate 6 (refine Zo ?_;simp)
 exact Zx
 refine W.ret (Zq ?_)
 simp[f421,EW,Fx,Fy,Fv,EH,G9,hb0,hb1,hb2,hb3,hb4,hb5,hb6,hb7,hb8]
 apply Zr;intros
 iterate 2 (refine Zo ?_;simp)
 exact Zx
 refine Zc rfl ?_ ?_<;>intro hb9<;>try simp at hb9
 apply Zr;intros
 iterate 6 (refine Zo ?_;simp)
 exact Zx
 refine W.ret (Zq ?_)
 simp[f421,EW,Fx,Fy,Fv,EH,G9,hb0,hb1,hb2,hb3,hb4,hb5,hb6,hb7,hb8,hb9]
 apply Zr;intros
 iterate 2 (refine Zo ?_;simp)
 exact Zx
 refine Zc rfl ?_ ?_<;>intro hb10<;>try simp at hb10
 apply Zr;intros
 iterate 6 (refine Zo ?_;simp)
 exact Zx
 refine W.ret (Zq ?_)
 simp[f421,EW,Fx,Fy,Fv,EH,G9,hb0,hb1,hb2,hb3,hb4,hb5,hb6,hb7,hb8,hb9,hb10]
 refine W.skip ?_
 apply Zr;intros
 iterate 6 (refine Zo ?_;simp)
 exact Zx
 refine W.ret (Zq ?_)
 simp[f421,EW,Fx,Fy,Fv,EH,G9,hb0,hb1,hb2,hb3,hb4,hb5,hb6,hb7,hb8,hb9,hb10]
theorem SQ (x:AG) (hz:x.sz≤134217728) (hc:∀y∈x.AB,∀h,CS cx.P 374 [.d (y.dd false)] h (.d (.lf (.bool (exF y)))) h) (hc2:∀a∈x.Ad,∀h,CS cx.P 374 [.d (a.Aa.dd false)] h (.d (.lf (.bool (exF a.Aa)))) h) (h:HP):CS cx.P 374 [.d (x.dd false)] h (.d (.lf (.bool (exF x)))) h:=by
 have hz2:=x.sz_eq;unfold szs at hz2
 refine Ze func374 rfl 196 ?_
 apply Zr;intros
 iterate 2 (refine Zo ?_;simp)
 exact Zx
 apply Zr;intros
 iterate 2 (refine Zo ?_;simp)
 refine Zl [] rfl func421 (V3 x.AH _) ?_;simp
 iterate 13 (refine Zo ?_;simp)
 exact Zx
 refine W.seq ?_
 refine W.seq ?_
 refine W.regJ (D:=_) [1,4,6,7] [1] [(58,.d (.lf (.bool (!xf1 x))))] [] rfl (fun _ K hD hK=> ?_) fun T hT=> ?_
 refine WL.mid 11 [1,3,4,5,6,7,8] [1] [(32,.d (.lf (.bool (!(Ay x.AH 1 12 && (BU x.AK==EW x.AH))))))] [] (fun hr=> ?_) fun T hT=> ?_
 iterate 2 (refine Zo ?_;simp)
 refine Zl [] rfl func38 (Fe x.AH 1 12 _) ?_;simp
 iterate 2 (refine Zo ?_;simp)
 refine WL.split 26 _ rfl (fun g26=> ?_) fun g26=> ?_<;>try simp at g26
 simp
 iterate 5 (refine Zn hD rfl rfl ?_;simp)
 refine Zo ?_;simp
 exact hr _ (Wz.to rfl rfl rfl (by simp[g26]<;>first|grind|omega))
 simp
 iterate 2 (refine Zg hD rfl rfl ?_;simp)
 refine Zk hD rfl rfl [] rfl func90 (Fq x.AK (by omega) _) ?_;simp
 iterate 2 (refine Zg hD rfl rfl ?_;simp)
 refine Zo ?_;simp
 exact hr _ (Wz.to rfl rfl rfl (by simp[g26]<;>first|grind|omega))
 simp at hT;subst hT
 refine WL.mid 9 [1,4,5,6,7,8] [1] [(41,.d (.lf (.bool (!(Ay x.AH 1 12 && (BU x.AK==EW x.AH) && (EW x.AH||noS x.AK))))))] [] (fun hr=> ?_) fun T hT=> ?_
 refine Zo ?_;simp
 refine WL.split 33 _ rfl (fun g33=> ?_) fun g33=> ?_<;>try simp at g33
 simp
 iterate 7 (refine Zn hD rfl rfl ?_;simp)
 refine Zo ?_;simp
 exact hr _ (Wz.to rfl rfl rfl (by simp[noS,g33]<;>first|grind|omega))
 simp
 iterate 3 (refine Zg hD rfl rfl ?_;simp)
 refine WL.split 36 _ rfl (fun g36=> ?_) fun g36=> ?_<;>try simp at g36
 simp
 iterate 4 (refine Zg hD rfl rfl ?_;simp)
 refine Zo ?_;simp
 exact hr _ (Wz.to rfl rfl rfl (by simp[noS,g33,g36]<;>first|grind|omega))
 simp
 iterate 3 (refine Zn hD rfl rfl ?_;simp)
 refine Zg hD rfl rfl ?_;simp
 refine Zo ?_;simp
 exact hr _ (Wz.to rfl rfl rfl (by simp[noS,g33,g36]<;>first|grind|omega))
 simp at hT;subst hT
 refine WL.mid 9 [1,4,6,7,8] [1] [(50,.d (.lf (.bool (!(Ay x.AH 1 12 && (BU x.AK==EW x.AH) && (EW x.AH||noS x.AK) && (Fy x.AH||decide (x.fN=0)))))))] [] (fun hr=> ?_) fun T hT=> ?_
 refine Zo ?_;simp
 refine WL.split 42 _ rfl (fun g42=> ?_) fun g42=> ?_<;>try simp at g42
 simp
 iterate 7 (refine Zn hD rfl rfl ?_;simp)
 refine Zo ?_;simp
 exact hr _ (Wz.to rfl rfl rfl (by simp[g42]<;>first|grind|omega))
 simp
 iterate 3 (refine Zg hD rfl rfl ?_;simp)
 refine WL.split 45 _ rfl (fun g45=> ?_) fun g45=> ?_<;>try simp at g45
 simp
 iterate 4 (refine Zg hD rfl rfl ?_;simp)
 refine Zo ?_;simp
 exact hr _ (Wz.to rfl rfl rfl (by simp[g42,g45]<;>first|grind|omega))
 simp
 iterate 3 (refine Zn hD rfl rfl ?_;simp)
 refine Zg hD rfl rfl ?_;simp
 refine Zo ?_;simp
 exact hr _ (Wz.to rfl rfl rfl (by simp[g42,g45]<;>first|grind|omega))
 simp at hT;subst hT
 refine Zo ?_;simp
 refine WL.split 51 _ rfl (fun g51=> ?_) fun g51=> ?_<;>try simp at g51
 simp
 iterate 6 (refine Zn hD rfl rfl ?_;simp)
 refine Zo ?_;simp
 refine WL.nil (hK _ (Wz.to rfl rfl rfl ?_))
 simp[xf1,g51]<;>first|grind|omega
 simp
 iterate 6 (refine Zg hD rfl rfl ?_;simp)
 refine Zo ?_;simp
 refine WL.nil (hK _ (Wz.to rfl rfl rfl ?_))
 simp[xf1,g51]<;>first|grind|omega
 simp at hT;subst hT
 refine Zc rfl ?_ ?_<;>intro hb0<;>try simp at hb0
 have hres:exF x=false:=by rw[GA];simp[exH,hb0]
 apply Zr;intros
 refine Zo ?_;simp
 exact Zx
 refine W.ret (Zq ?_)
 simp[f374,hres]
 refine W.skip ?_
 refine W.seq ?_
 refine W.seq ?_
 refine W.regJ (D:=_) [1,6,7] [1] [(88,.d (.lf (.bool (!xf2 x))))] [] rfl (fun _ K hD hK=> ?_) fun T hT=> ?_
 iterate 4 (refine Zo ?_;simp)
 refine WL.split 62 _ rfl (fun g62=> ?_) fun g62=> ?_<;>try simp at g62
 simp
 iterate 2 (refine Zg hD rfl rfl ?_;simp)
 refine Zk hD rfl rfl [] rfl func422 (SM x.A6 _) ?_;simp
 refine Zg hD rfl rfl ?_;simp
 iterate 2 (refine Zo ?_;simp)
 refine WL.split 68 _ rfl (fun g68=> ?_) fun g68=> ?_<;>try simp at g68
 simp
 iterate 19 (refine Zn hD rfl rfl ?_;simp)
 refine Zo ?_;simp
 refine WL.nil (hK _ (Wz.to rfl rfl rfl ?_))
 simp[xf2,noS,g62,g68]<;>first|grind|omega
 simp
 iterate 4 (refine Zg hD rfl rfl ?_;simp)
 refine WL.split 72 _ rfl (fun g72=> ?_) fun g72=> ?_<;>try simp at g72
 simp
 iterate 2 (refine Zg hD rfl rfl ?_;simp)
 refine Zk hD rfl rfl [] rfl func90 (Fq x.A6 (by omega) _) ?_;simp
 iterate 3 (refine Zg hD rfl rfl ?_;simp)
 refine WL.split 78 _ rfl (fun g78=> ?_) fun g78=> ?_<;>try simp at g78
 simp
 iterate 7 (refine Zn hD rfl rfl ?_;simp)
 iterate 2 (refine Zg hD rfl rfl ?_;simp)
 refine Zo ?_;simp
 refine WL.nil (hK _ (Wz.to rfl rfl rfl ?_))
 simp[xf2,noS,g62,g68,g72,g78]<;>first|grind|omega
 simp
 iterate 3 (refine Zg hD rfl rfl ?_;simp)
 refine WL.split 81 _ rfl (fun g81=> ?_) fun g81=> ?_<;>try simp at g81
 simp
 iterate 6 (refine Zg hD rfl rfl ?_;simp)
 refine Zo ?_;simp
 refine WL.nil (hK _ (Wz.to rfl rfl rfl ?_))
 simp[xf2,noS,g62,g68,g72,g78,g81]<;>first|grind|omega
 simp
 iterate 3 (refine Zn hD rfl rfl ?_;simp)
 iterate 3 (refine Zg hD rfl rfl ?_;simp)
 refine Zo ?_;simp
 refine WL.nil (hK _ (Wz.to rfl rfl rfl ?_))
 simp[xf2,noS,g62,g68,g72,g78,g81]<;>first|grind|omega
 simp
 iterate 14 (refine Zn hD rfl rfl ?_;simp)
 refine Zg hD rfl rfl ?_;simp
 refine Zo ?_;simp
 refine WL.nil (hK _ (Wz.to rfl rfl rfl ?_))
 simp[xf2,noS,g62,g68,g72]<;>first|grind|omega
 simp
 iterate 4 (refine Zn hD rfl rfl ?_;simp)
 iterate 2 (refine Zo ?_;simp)
 iterate 4 (refine Zg hD rfl rfl ?_;simp)
 refine WL.split 72 _ rfl (fun g72=> ?_) fun g72=> ?_<;>try simp at g72
 simp
 iterate 2 (refine Zg hD rfl rfl ?_;simp)
 refine Zk hD rfl rfl [] rfl func90 (Fq x.A6 (by omega) _) ?_;simp
 iterate 3 (refine Zg hD rfl rfl ?_;simp)
 refine WL.split 78 _ rfl (fun g78=> ?_) fun g78=> ?_<;>try simp at g78
 simp
 iterate 7 (refine Zn hD rfl rfl ?_;simp)
 iterate 2 (refine Zg hD rfl rfl ?_;simp)
 refine Zo ?_;simp
 refine WL.nil (hK _ (Wz.to rfl rfl rfl ?_))
 simp[xf2,noS,g62,g72,g78]<;>first|grind|omega
 simp
 iterate 3 (refine Zg hD rfl rfl ?_;simp)
 refine WL.split 81 _ rfl (fun g81=> ?_) fun g81=> ?_<;>try simp at g81
 simp
 iterate 6 (refine Zg hD rfl rfl ?_;simp)
 refine Zo ?_;simp
 refine WL.nil (hK _ (Wz.to rfl rfl rfl ?_))
 simp[xf2,noS,g62,g72,g78,g81]<;>first|grind|omega
 simp
 iterate 3 (refine Zn hD rfl rfl ?_;simp)
 iterate 3 (refine Zg hD rfl rfl ?_;simp)
 refine Zo ?_;simp
 refine WL.nil (hK _ (Wz.to rfl rfl rfl ?_))
 simp[xf2,noS,g62,g72,g78,g81]<;>first|grind|omega
 simp
 iterate 14 (refine Zn hD rfl rfl ?_;simp)
 refine Zg hD rfl rfl ?_;simp
 refine Zo ?_;simp
 refine WL.nil (hK _ (Wz.to rfl rfl rfl ?_))
 simp[xf2,noS,g62,g72]<;>first|grind|omega
 simp at hT;subst hT
 refine Zc rfl ?_ ?_<;>intro hb1<;>try simp at hb1
 have hres:exF x=false:=by rw[GA];simp[exH,hb1]
 apply Zr;intros
 refine Zo ?_;simp
 exact Zx
 refine W.ret (Zq ?_)
 simp[f374,hres]
 refine W.skip ?_
 refine W.seq ?_
 refine W.seq ?_
 refine W.regJ (D:=_) [1] [1] [(127,.d (.lf (.bool (!xf3 x))))] [] rfl (fun _ K hD hK=> ?_) fun T hT=> ?_
 refine WL.mid 9 [1,6] [1] [(97,.d (.lf (.bool (!(decide (EH x.AH<0)||decide ((x.AB.length:Int)=EH x.AH))))))] [] (fun hr=> ?_) fun T hT=> ?_
 iterate 3 (refine Zo ?_;simp)
 refine WL.split 91 _ rfl (fun g91=> ?_) fun g91=> ?_<;>try simp at g91
 simp
 iterate 5 (refine Zg hD rfl rfl ?_;simp)
 refine Zo ?_;simp
 exact hr _ (Wz.to rfl rfl rfl (by simp[g91]<;>first|grind|omega))
 simp
 iterate 5 (refine Zn hD rfl rfl ?_;simp)
 refine Zo ?_;simp
 exact hr _ (Wz.to rfl rfl rfl (by simp[g91]<;>first|grind|omega))
 simp at hT;subst hT
 refine WL.mid 11 [1,6] [1] [(108,.d (.lf (.bool (!((decide (EH x.AH<0)||decide ((x.AB.length:Int)=EH x.AH)) && !(decide (x.AH=5) && decide (x.AB=[])))))))] [] (fun hr=> ?_) fun T hT=> ?_
 refine Zo ?_;simp
 refine WL.split 98 _ rfl (fun g98=> ?_) fun g98=> ?_<;>try simp at g98
 simp
 iterate 9 (refine Zn hD rfl rfl ?_;simp)
 refine Zo ?_;simp
 exact hr _ (Wz.to rfl rfl rfl (by simp[g98]<;>first|grind|omega))
 simp
 iterate 4 (refine Zg hD rfl rfl ?_;simp)
 refine WL.split 102 _ rfl (fun g102=> ?_) fun g102=> ?_<;>try simp at g102
 simp
 iterate 5 (refine Zg hD rfl rfl ?_;simp)
 refine Zo ?_;simp
 exact hr _ (Wz.to rfl rfl rfl (by simp[g98,g102]<;>first|grind|omega))
 simp
 iterate 4 (refine Zn hD rfl rfl ?_;simp)
 refine Zg hD rfl rfl ?_;simp
 refine Zo ?_;simp
 exact hr _ (Wz.to rfl rfl rfl (by simp[g98,g102]<;>first|grind|omega))
 simp at hT;subst hT
 refine WL.mid 9 [1,6] [1] [(117,.d (.lf (.bool (!((decide (EH x.AH<0)||decide ((x.AB.length:Int)=EH x.AH)) && !(decide (x.AH=5) && decide (x.AB=[])) && (!Fv x.AH||Bx x.AM))))))] [] (fun hr=> ?_) fun T hT=> ?_
 refine Zo ?_;simp
 refine WL.split 109 _ rfl (fun g109=> ?_) fun g109=> ?_<;>try simp at g109
 simp
 iterate 7 (refine Zn hD rfl rfl ?_;simp)
 refine Zo ?_;simp
 exact hr _ (Wz.to rfl rfl rfl (by simp[g109]<;>first|grind|omega))
 simp
 iterate 2 (refine Zg hD rfl rfl ?_;simp)
 refine WL.split 111 _ rfl (fun g111=> ?_) fun g111=> ?_<;>try simp at g111
 simp
 iterate 2 (refine Zg hD rfl rfl ?_;simp)
 refine Zk hD rfl rfl [] rfl func306 (KW x.AM (by omega) _) ?_;simp
 iterate 2 (refine Zg hD rfl rfl ?_;simp)
 refine Zo ?_;simp
 exact hr _ (Wz.to rfl rfl rfl (by simp[g109,g111]<;>first|grind|omega))
 simp
 iterate 4 (refine Zn hD rfl rfl ?_;simp)
 refine Zg hD rfl rfl ?_;simp
 refine Zo ?_;simp
 exact hr _ (Wz.to rfl rfl rfl (by simp[g109,g111]<;>first|grind|omega))
 simp at hT;subst hT
 refine Zo ?_;simp
 refine WL.split 118 _ rfl (fun g118=> ?_) fun g118=> ?_<;>try simp at g118
 simp
 iterate 8 (refine Zn hD rfl rfl ?_;simp)
 refine Zo ?_;simp
 refine WL.nil (hK _ (Wz.to rfl rfl rfl ?_))
 simp[xf3,g118]<;>first|grind|omega
 simp
 iterate 3 (refine Zg hD rfl rfl ?_;simp)
 refine WL.split 121 _ rfl (fun g121=> ?_) fun g121=> ?_<;>try simp at g121
 simp
 iterate 2 (refine Zg hD rfl rfl ?_;simp)
 refine Zk hD rfl rfl [] rfl func234 (Kg x.AM _) ?_;simp
 iterate 2 (refine Zg hD rfl rfl ?_;simp)
 refine Zo ?_;simp
 refine WL.nil (hK _ (Wz.to rfl rfl rfl ?_))
 simp[xf3,g118,g121]<;>first|grind|omega
 simp
 iterate 4 (refine Zn hD rfl rfl ?_;simp)
 refine Zg hD rfl rfl ?_;simp
 refine Zo ?_;simp
 refine WL.nil (hK _ (Wz.to rfl rfl rfl ?_))
 simp[xf3,g118,g121]<;>first|grind|omega
 simp at hT;subst hT
 refine Zc rfl ?_ ?_<;>intro hb2<;>try simp at hb2
 have hres:exF x=false:=by rw[GA];simp[exH,hb2]
 apply Zr;intros
 refine Zo ?_;simp
 exact Zx
 refine W.ret (Zq ?_)
 simp[f374,hres]
 refine W.skip ?_
 refine W.seq ?_
 refine W.seq ?_
 refine W.regJ (D:=_) [1] [1] [(147,.d (.lf (.bool (!xf4 x))))] [] rfl (fun _ K hD hK=> ?_) fun T hT=> ?_
 iterate 4 (refine Zo ?_;simp)
 refine WL.split 131 _ rfl (fun g131=> ?_) fun g131=> ?_<;>try simp at g131
 simp
 iterate 2 (refine Zg hD rfl rfl ?_;simp)
 refine Zk hD rfl rfl [] rfl func38 (Fe x.fN (-999999) 999999 _) ?_;simp
 refine Zg hD rfl rfl ?_;simp
 iterate 2 (refine Zo ?_;simp)
 refine WL.split 137 _ rfl (fun g137=> ?_) fun g137=> ?_<;>try simp at g137
 simp
 iterate 9 (refine Zn hD rfl rfl ?_;simp)
 refine Zo ?_;simp
 refine WL.nil (hK _ (Wz.to rfl rfl rfl ?_))
 simp[xf4,g131,g137]<;>first|grind|omega
 simp
 iterate 4 (refine Zg hD rfl rfl ?_;simp)
 refine WL.split 141 _ rfl (fun g141=> ?_) fun g141=> ?_<;>try simp at g141
 simp
 iterate 2 (refine Zg hD rfl rfl ?_;simp)
 refine Zk hD rfl rfl [] rfl func38 (Fe x.fN 0 1 _) ?_;simp
 iterate 2 (refine Zg hD rfl rfl ?_;simp)
 refine Zo ?_;simp
 refine WL.nil (hK _ (Wz.to rfl rfl rfl ?_))
 simp[xf4,g131,g137,g141]<;>first|grind|omega
 simp
 iterate 4 (refine Zn hD rfl rfl ?_;simp)
 refine Zg hD rfl rfl ?_;simp
 refine Zo ?_;simp
 refine WL.nil (hK _ (Wz.to rfl rfl rfl ?_))
 simp[xf4,g131,g137,g141]<;>first|grind|omega
 simp
 iterate 4 (refine Zn hD rfl rfl ?_;simp)
 iterate 2 (refine Zo ?_;simp)
 iterate 4 (refine Zg hD rfl rfl ?_;simp)
 refine WL.split 141 _ rfl (fun g141=> ?_) fun g141=> ?_<;>try simp at g141
 simp
 iterate 2 (refine Zg hD rfl rfl ?_;simp)
 refine Zk hD rfl rfl [] rfl func38 (Fe x.fN 0 1 _) ?_;simp
 iterate 2 (refine Zg hD rfl rfl ?_;simp)
 refine Zo ?_;simp
 refine WL.nil (hK _ (Wz.to rfl rfl rfl ?_))
 simp[xf4,g131,g141]<;>first|grind|omega
 simp
 iterate 4 (refine Zn hD rfl rfl ?_;simp)
 refine Zg hD rfl rfl ?_;simp
 refine Zo ?_;simp
 refine WL.nil (hK _ (Wz.to rfl rfl rfl ?_))
 simp[xf4,g131,g141]<;>first|grind|omega
 simp at hT;subst hT
 refine Zc rfl ?_ ?_<;>intro hb3<;>try simp at hb3
 have hres:exF x=false:=by rw[GA];simp[exH,hb3]
 apply Zr;intros
 refine Zo ?_;simp
 exact Zx
 refine W.ret (Zq ?_)
 simp[f374,hres]
 refine W.skip ?_
 refine W.seq ?_
 apply Zr;intros
 refine Zo ?_;simp
 exact Zx
 refine W.block ?_
 refine W.loopI [1] [1] (fun k0=>[(9,.d (.lf (.int .i64 (k0:Int))))]) (fun _=>[]) x.AB.length (fun k0=>∀j,j<k0→∀y,x.AB[j]? =some y→(fun y=> !exF y) y=false) rfl (by simp) (by simp) fun k0 hk0 hi0 T hT=> ?_
 simp at hT;subst hT
 refine W.seq ?_
 apply Zr;intros
 iterate 5 (refine Zo ?_;simp)
 exact Zx
 refine Zc rfl ?_ ?_<;>intro hb4<;>try simp at hb4
 have hx:=B1 hb4 (by omega)
 refine W.skip ?_
 refine Zb ?_
 apply Zr;intros
 iterate 5 (refine Zo ?_ (by simp[hb4,hx]<;>omega);simp[hb4,hx])
 refine Zl [] rfl func374 (hc x.AB[k0] (gm hb4) _) ?_ (by simp[hb4,hx]);simp[hb4,hx]
 refine Zo ?_ (by simp[hb4,hx]<;>omega);simp[hb4,hx]
 exact Zx
 refine Zc rfl ?_ ?_<;>intro hb5<;>try simp at hb5
 have hres:exF x=false:=by rw[GA,Fm (p:=fun y=> !exF y) hb4 (by simpa using hb5)];simp
 apply Zr;intros
 refine Zo ?_ (by simp[hb4,hx]<;>omega);simp[hb4,hx]
 exact Zx
 refine W.ret (Zq ?_)
 simp[f374,hres]
 refine W.skip ?_
 apply Zs;intros
 iterate 3 (refine Zo ?_ (by simp[hb4,hx]<;>omega);simp[hb4,hx])
 exact Zx
 refine⟨hb4,Bv (p:=fun y=> !exF y) hi0 hb4 (by simpa using hb5),Wz.to rfl rfl rfl ?_⟩
 simp
 have hkl:k0=x.AB.length:=by omega
 subst hkl
 have ha:=HG (p:=fun y=> !exF y) hi0
 refine W.exit ?_
 refine W.seq ?_
 apply Zr;intros
 refine Zo ?_;simp
 exact Zx
 refine W.block ?_
 refine W.loopI [1] [1] (fun k1=>[(10,.d (.lf (.int .i64 (k1:Int))))]) (fun _=>[]) x.Ad.length (fun k1=>∀j,j<k1→∀y,x.Ad[j]? =some y→(fun y=> !IF y) y=false) rfl (by simp) (by simp) fun k1 hk1 hi1 T hT=> ?_
 simp at hT;subst hT
 refine W.seq ?_
 apply Zr;intros
 iterate 5 (refine Zo ?_;simp)
 exact Zx
 refine Zc rfl ?_ ?_<;>intro hb6<;>try simp at hb6
 have hx:=B1 hb6 (by omega)
 have hy:=Ah Ab.sz (gm hb6)
 have hy2:=x.Ad[k1].sz_eq;unfold szs at hy2
 refine W.skip ?_
 refine Zb ?_
 apply Zr;intros
 iterate 4 (refine Zo ?_ (by simp[hb6,hx]<;>omega);simp[hb6,hx])
 refine Zm [173] ?_ (by simp[hb6,hx]<;>omega);simp[hb6,hx]
 iterate 2 (refine Zo ?_ (by simp[hb6,hx]<;>omega);simp[hb6,hx])
 exact Zx
 refine W.seq ?_
 refine W.regJ (D:=_) [1,10] [1] [(195,.d (.lf (.bool (!IF x.Ad[k1]))))] [] rfl (fun _ K hD hK=> ?_) fun T hT=> ?_
 iterate 2 (refine Zo ?_ (by simp[hb6,hx]<;>omega);simp[hb6,hx])
 refine Zl [] rfl func90 (Fq x.Ad[k1].AY (by omega) _) ?_ (by simp[hb6,hx]);simp[hb6,hx]
 iterate 2 (refine Zo ?_ (by simp[hb6,hx]<;>omega);simp[hb6,hx])
 refine WL.split 178 _ rfl (fun g178=> ?_) fun g178=> ?_<;>try simp at g178
 simp[hb6,hx]
 iterate 4 (refine Zn hD rfl rfl ?_;simp[hb6,hx])
 iterate 2 (refine Zo ?_ (by simp[hb6,hx]<;>omega);simp[hb6,hx])
 iterate 4 (refine Zn hD rfl rfl ?_;simp[hb6,hx])
 iterate 2 (refine Zo ?_ (by simp[hb6,hx]<;>omega);simp[hb6,hx])
 iterate 4 (refine Zn hD rfl rfl ?_;simp[hb6,hx])
 refine Zo ?_ (by simp[hb6,hx]<;>omega);simp[hb6,hx]
 refine WL.nil (hK _ (Wz.to rfl rfl rfl ?_))
 simp[Id,g178]<;>grind
 simp[hb6,hx]
 iterate 2 (refine Zg hD rfl rfl ?_ (by simp[hb6,hx]<;>omega);simp[hb6,hx])
 refine Zk hD rfl rfl [] rfl func159 (SK x.Ad[k1].AZ (fun s hs=>by have:=Ah ByteArray.size hs;omega) (by omega) _) ?_ (by simp[hb6,hx]);simp[hb6,hx]
 refine Zg hD rfl rfl ?_ (by simp[hb6,hx]<;>omega);simp[hb6,hx]
 iterate 2 (refine Zo ?_ (by simp[hb6,hx]<;>omega);simp[hb6,hx])
 refine WL.split 184 _ rfl (fun g184=> ?_) fun g184=> ?_<;>try simp at g184
 simp[hb6,hx]
 iterate 4 (refine Zn hD rfl rfl ?_;simp[hb6,hx])
 iterate 2 (refine Zo ?_ (by simp[hb6,hx]<;>omega);simp[hb6,hx])
 iterate 4 (refine Zn hD rfl rfl ?_;simp[hb6,hx])
 refine Zo ?_ (by simp[hb6,hx]<;>omega);simp[hb6,hx]
 refine WL.nil (hK _ (Wz.to rfl rfl rfl ?_))
 simp[Id,g178,g184]<;>grind
 simp[hb6,hx]
 iterate 2 (refine Zg hD rfl rfl ?_ (by simp[hb6,hx]<;>omega);simp[hb6,hx])
 refine Zk hD rfl rfl [] rfl func45 (cu x.Ad[k1].AZ (by omega) _) ?_ (by simp[hb6,hx]);simp[hb6,hx]
 refine Zg hD rfl rfl ?_ (by simp[hb6,hx]<;>omega);simp[hb6,hx]
 iterate 2 (refine Zo ?_ (by simp[hb6,hx]<;>omega);simp[hb6,hx])
 refine WL.split 190 _ rfl (fun g190=> ?_) fun g190=> ?_<;>try simp at g190
 simp[hb6,hx]
 iterate 4 (refine Zn hD rfl rfl ?_;simp[hb6,hx])
 refine Zo ?_ (by simp[hb6,hx]<;>omega);simp[hb6,hx]
 refine WL.nil (hK _ (Wz.to rfl rfl rfl ?_))
 simp[Id,g178,g184,g190]<;>grind
 simp[hb6,hx]
 iterate 2 (refine Zg hD rfl rfl ?_ (by simp[hb6,hx]<;>omega);simp[hb6,hx])
 refine Zk hD rfl rfl [] rfl func374 (hc2 x.Ad[k1] (gm hb6) _) ?_ (by simp[hb6,hx]);simp[hb6,hx]
 refine Zg hD rfl rfl ?_ (by simp[hb6,hx]<;>omega);simp[hb6,hx]
 refine Zo ?_ (by simp[hb6,hx]<;>omega);simp[hb6,hx]
 refine WL.nil (hK _ (Wz.to rfl rfl rfl ?_))
 simp[Id,g178,g184,g190]<;>grind
 simp at hT;subst hT
 refine Zc rfl ?_ ?_<;>intro hb7<;>try simp at hb7
 have hres:exF x=false:=by rw[GA,Fm (p:=fun y=> !IF y) hb6 (by simpa using hb7)];simp
 apply Zr;intros
 refine Zo ?_ (by simp[hb6,hx]<;>omega);simp[hb6,hx]
 exact Zx
 refine W.ret (Zq ?_)
 simp[f374,hres]
 refine W.skip ?_
 apply Zs;intros
 iterate 3 (refine Zo ?_ (by simp[hb6,hx]<;>omega);simp[hb6,hx])
 exact Zx
 refine⟨hb6,Bv (p:=fun y=> !IF y) hi1 hb6 (by simpa using hb7),Wz.to rfl rfl rfl ?_⟩
 simp
 have hkl:k1=x.Ad.length:=by omega
 subst hkl
 have hres:exF x=true:=by rw[GA,ha,HG (p:=fun y=> !IF y) hi1];simp[exH,hb0,hb1,hb2,hb3]
 refine W.exit ?_
 apply Zr;intros
 refine Zo ?_;simp
 exact Zx
 refine W.ret (Zq ?_)
 simp[f374,hres]
