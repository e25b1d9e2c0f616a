/- Part 18. No condition. -/
import Derived.Test.YtgihkamifpmfdaaGreatDoorM17
namespace Go.Proofs.YtgihkamifpmfdaaGreatDoor
open Go.RowKit Tryz
set_option linter.unusedVariables false
set_option maxRecDepth 10000
set_option linter.unusedSimpArgs false
set_option maxHeartbeats 4000000
def EY (k:Int):Bool:=decide (k=5)||decide (k=11)
def G1 (k:Int):Bool:=decide (k=3)||decide (k=4)||decide (k=6)||decide (k=5)||decide (k=8)||decide (k=10)
def G2 (k:Int):Bool:=decide (k=1)||decide (k=2)
def GC (k:Int):Bool:=decide (k=7)
def G0 (k:Int):Bool:= !(decide (k=1)||decide (k=2)||decide (k=3)||decide (k=4)||decide (k=5)||decide (k=6)||decide (k=7)||decide (k=8)||decide (k=9)||decide (k=10)||decide (k=11))
def EJ (k:Int):Int:=if k=1∨k=2∨k=3 then 0 else if k=4∨k=6∨k=5 then -1 else if k=7 then 1 else if k=8∨k=10 then 2 else if k=9 then 3 else 1
def noS (s:BA'):Bool:=decide (s.toList=[])
def xf1 (x:AG):Bool:=Ap x.AH 1 12 && (BV x.AK==EY x.AH) && (EY x.AH||noS x.AK) && (G2 x.AH||decide (x.fN=0)) && (decide (0<x.Af.length)==GC x.AH)
def xf2 (x:AG):Bool:=if x.AH=10 then B7 D5 x.A5 else (BV x.A5==G1 x.AH) && (G1 x.AH||noS x.A5)
def xf3 (x:AG):Bool:=(decide (EJ x.AH<0)||decide ((x.AB.length:Int)=EJ x.AH)) && !(decide (x.AH=5) && decide (x.AB=[])) && (if G0 x.AH=true then Bx x.AM else CI x.AM)
def xf4 (x:AG):Bool:=(!decide (x.AH=1)||Ap x.fN (-999999) 999999) && (!decide (x.AH=2)||Ap x.fN 0 1)
def exH (x:AG):Bool:=xf1 x && xf2 x && xf3 x && xf4 x
mutual
def exF:AG→Bool
 |⟨k,t,n,i,y,al,rl⟩=>exH ⟨k,t,n,i,y,al,rl⟩ && PM al && PN rl
def PM:List AG→Bool
 |[]=>true
 |x::l=>exF x && PM l
def IY:Ac→Bool
 |⟨c,vs,b⟩=>BV c && nms vs && dst vs && exF b
def PN:List Ac→Bool
 |[]=>true
 |x::l=>IY x && PN l
end
theorem OA:∀l:List AG,PM l= !(l.any fun y=> !exF y)
 |[]=>rfl
 |x::l=>by simp only[PM,OA l,List.any_cons,Bool.not_or,Bool.not_not]
theorem OB:∀l:List Ac,PN l= !(l.any fun y=> !IY y)
 |[]=>rfl
 |x::l=>by simp only[PN,OB l,List.any_cons,Bool.not_or,Bool.not_not]
theorem GD (x:AG):exF x=(exH x && !(x.AB.any fun y=> !exF y) && !(x.Af.any fun y=> !IY y)):=by
 rw[←OA, ←OB];cases x;simp only[exF]
theorem Iu (x:Ac):IY x=(BV x.AZ && nms x.Aa && dst x.Aa && exF x.Ab):=by cases x;simp only[IY]
theorem Vd (k:Int) (h:HP):CS cx.P 440 [dI' k] h (.tp [dB' (EY k),dB' (G1 k),dB' (G2 k),dB' (G0 k),dI' (EJ k),dB' (GC k)]) h:=by
 refine Ze func440 rfl 28 ?_
 refine Zw ?_
 refine W.seq ?_
 refine Zw ?_
 refine W.block ?_
 refine W.seq ?_
 refine Zw ?_
 refine Zc rfl ?_ ?_<;>intro hb0<;>try simp at hb0
 refine W.skip ?_
 refine W.condT (by simp[hb0]) trivial ?_
 refine Zw ?_
 refine W.ret (Zq ?_)
 simp[f440,EY,G1,G2,G0,EJ,GC,hb0]
 apply Zs;intros
 iterate 2 (refine Zo ?_;simp)
 exact Zx
 refine Zc rfl ?_ ?_<;>intro hb1<;>try simp at hb1
 refine Zw ?_
 refine W.ret (Zq ?_)
 simp[f440,EY,G1,G2,G0,EJ,GC,hb0,hb1]
 refine Zw ?_
 refine Zc rfl ?_ ?_<;>intro hb2<;>try simp at hb2
 refine Zw ?_
 refine W.ret (Zq ?_)
 simp[f440,EY,G1,G2,G0,EJ,GC,hb0,hb1,hb2]
 refine W.seq ?_
 refine Zw ?_
 refine Zc rfl ?_ ?_<;>intro hb3<;>try simp at hb3
 refine W.skip ?_
 refine W.condT (by simp[hb3]) trivial ?_
 refine Zw ?_
 refine W.ret (Zq ?_)
 simp[f440,EY,G1,G2,G0,EJ,GC,hb0,hb1,hb2,hb3]
 apply Zs;intros
 iterate 2 (refine Zo ?_;simp)
 exact Zx
 refine Zc rfl ?_ ?_<;>intro hb4<;>try simp at hb4
 refine Zw ?_
 refine W.ret (Zq ?_)
 simp[f440,EY,G1,G2,G0,EJ,GC,hb0,hb1,hb2,hb3,hb4]
 refine Zw ?_
 refine Zc rfl ?_ ?_<;>intro hb5<;>try simp at hb5
 refine Zw ?_
 refine W.ret (Zq ?_)
 simp[f440,EY,G1,G2,G0,EJ,GC,hb0,hb1,hb2,hb3,hb4,hb5]
 refine Zw ?_
 refine Zc rfl ?_ ?_<;>intro hb6<;>try simp at hb6
 refine Zw ?_
 refine W.ret (Zq ?_)
 simp[f440,EY,G1,G2,G0,EJ,GC,hb0,hb1,hb2,hb3,hb4,hb5,hb6]
 refine W.seq ?_
 refine Zw ?_
 refine Zc rfl ?_ ?_<;>intro hb7<;>try simp at hb7
 refine W.skip ?_
 refine W.condT (by simp[hb7]) trivial ?_
 refine Zw ?_
 refine W.ret (Zq ?_)
 simp[f440,EY,G1,G2,G0,EJ,GC,hb0,hb1,hb2,hb3,hb4,hb5,hb6,hb7]
 apply Zs;intros
 iterate 2 (refine Zo ?_;simp)
 exact Zx
 refine Zc rfl ?_ ?_<;>intro hb8<;>try simp at hb8
 refine Zw ?_
 refine W.ret (Zq ?_)
 simp[f440,EY,G1,G2,G0,EJ,GC,hb0,hb1,hb2,hb3,hb4,hb5,hb6,hb7,hb8]
 refine Zw ?_
 refine Zc rfl ?_ ?_<;>intro hb9<;>try simp at hb9
 refine Zw ?_
 refine W.ret (Zq ?_)
 simp[f440,EY,G1,G2,G0,EJ,GC,hb0,hb1,hb2,hb3,hb4,hb5,hb6,hb7,hb8,hb9]
 refine Zw ?_
 refine Zc rfl ?_ ?_<;>intro hb10<;>try simp at hb10
 refine Zw ?_
 refine W.ret (Zq ?_)
 simp[f440,EY,G1,G2,G0,EJ,GC,hb0,hb1,hb2,hb3,hb4,hb5,hb6,hb7,hb8,hb9,hb10]
 refine W.skip ?_
 refine Zw ?_
 refine W.ret (Zq ?_)
 simp[f440,EY,G1,G2,G0,EJ,GC,hb0,hb1,hb2,hb3,hb4,hb5,hb6,hb7,hb8,hb9,hb10]
theorem Sz (x:AG) (hz:x.sz≤134217728) (hc:∀y∈x.AB,∀h,CS cx.P 411 [.d (y.dd false)] h (dB' (exF y)) h) (hc2:∀a∈x.Af,∀h,CS cx.P 411 [.d (a.Ab.dd false)] h (dB' (exF a.Ab)) h) (h:HP):CS cx.P 411 [.d (x.dd false)] h (dB' (exF x)) h:=by
 have hz2:=x.sz_eq;unfold szs at hz2
 refine Ze func411 rfl 196 ?_
 refine Zw ?_
 apply Zr;intros
 iterate 2 (refine Zo ?_;simp)
 refine Zl [] rfl func440 (Vd x.AH _) ?_;simp
 iterate 13 (refine Zo ?_;simp)
 exact Zx
 refine W.seq ?_
 refine W.seq ?_
 refine W.regJ (D:=_) [1,4,6,7] [1] [(58,.d (.lf (.bool (!xf1 x))))] [] rfl (fun _ K hD hK=> ?_) fun T hT=> ?_
 refine WL.mid 11 [1,3,4,5,6,7,8] [1] [(32,.d (.lf (.bool (!(Ap x.AH 1 12 && (BV x.AK==EY x.AH))))))] [] (fun hr=> ?_) fun T hT=> ?_
 iterate 2 (refine Zo ?_;simp)
 refine Zl [] rfl func27 (Fh x.AH 1 12 _) ?_;simp
 iterate 2 (refine Zo ?_;simp)
 refine WL.split 26 _ rfl (fun g26=> ?_) fun g26=> ?_<;>try simp at g26
 simp
 iterate 5 (refine ZN' ?_;simp)
 refine Zo ?_;simp
 exact hr _ (Wz.to rfl rfl rfl (by simp[g26]<;>first|grind|omega))
 simp
 iterate 2 (refine ZG' ?_;simp)
 refine Zk hD rfl rfl [] rfl func122 (Ft x.AK (by omega) _) ?_;simp
 iterate 2 (refine ZG' ?_;simp)
 refine Zo ?_;simp
 exact hr _ (Wz.to rfl rfl rfl (by simp[g26]<;>first|grind|omega))
 simp at hT;subst hT
 refine WL.mid 9 [1,4,5,6,7,8] [1] [(41,.d (.lf (.bool (!(Ap x.AH 1 12 && (BV x.AK==EY x.AH) && (EY x.AH||noS x.AK))))))] [] (fun hr=> ?_) fun T hT=> ?_
 refine Zo ?_;simp
 refine WL.split 33 _ rfl (fun g33=> ?_) fun g33=> ?_<;>try simp at g33
 simp
 iterate 7 (refine ZN' ?_;simp)
 refine Zo ?_;simp
 exact hr _ (Wz.to rfl rfl rfl (by simp[noS,g33]<;>first|grind|omega))
 simp
 iterate 3 (refine ZG' ?_;simp)
 refine WL.split 36 _ rfl (fun g36=> ?_) fun g36=> ?_<;>try simp at g36
 simp
 iterate 4 (refine ZG' ?_;simp)
 refine Zo ?_;simp
 exact hr _ (Wz.to rfl rfl rfl (by simp[noS,g33,g36]<;>first|grind|omega))
 simp
 iterate 3 (refine ZN' ?_;simp)
 refine ZG' ?_;simp
 refine Zo ?_;simp
 exact hr _ (Wz.to rfl rfl rfl (by simp[noS,g33,g36]<;>first|grind|omega))
 simp at hT;subst hT
 refine WL.mid 9 [1,4,6,7,8] [1] [(50,.d (.lf (.bool (!(Ap x.AH 1 12 && (BV x.AK==EY x.AH) && (EY x.AH||noS x.AK) && (G2 x.AH||decide (x.fN=0)))))))] [] (fun hr=> ?_) fun T hT=> ?_
 refine Zo ?_;simp
 refine WL.split 42 _ rfl (fun g42=> ?_) fun g42=> ?_<;>try simp at g42
 simp
 iterate 7 (refine ZN' ?_;simp)
 refine Zo ?_;simp
 exact hr _ (Wz.to rfl rfl rfl (by simp[g42]<;>first|grind|omega))
 simp
 iterate 3 (refine ZG' ?_;simp)
 refine WL.split 45 _ rfl (fun g45=> ?_) fun g45=> ?_<;>try simp at g45
 simp
 iterate 4 (refine ZG' ?_;simp)
 refine Zo ?_;simp
 exact hr _ (Wz.to rfl rfl rfl (by simp[g42,g45]<;>first|grind|omega))
 simp
 iterate 3 (refine ZN' ?_;simp)
 refine ZG' ?_;simp
 refine Zo ?_;simp
 exact hr _ (Wz.to rfl rfl rfl (by simp[g42,g45]<;>first|grind|omega))
 simp at hT;subst hT
 refine Zo ?_;simp
 refine WL.split 51 _ rfl (fun g51=> ?_) fun g51=> ?_<;>try simp at g51
 simp
 iterate 6 (refine ZN' ?_;simp)
 refine Zo ?_;simp
 refine WL.nil (hK _ (Wz.to rfl rfl rfl ?_))
 simp[xf1,g51]<;>first|grind|omega
 simp
 iterate 6 (refine ZG' ?_;simp)
 refine Zo ?_;simp
 refine WL.nil (hK _ (Wz.to rfl rfl rfl ?_))
 simp[xf1,g51]<;>first|grind|omega
 simp at hT;subst hT
 refine Zc rfl ?_ ?_<;>intro hb0<;>try simp at hb0
 have hres:exF x=false:=by rw[GD];simp[exH,hb0]
 refine Zw ?_
 refine W.ret (Zq ?_)
 simp[f411,hres]
 refine W.skip ?_
 refine W.seq ?_
 refine W.seq ?_
 refine W.regJ (D:=_) [1,6,7] [1] [(88,.d (.lf (.bool (!xf2 x))))] [] rfl (fun _ K hD hK=> ?_) fun T hT=> ?_
 iterate 4 (refine Zo ?_;simp)
 refine WL.split 62 _ rfl (fun g62=> ?_) fun g62=> ?_<;>try simp at g62
 simp
 iterate 2 (refine ZG' ?_;simp)
 refine Zk hD rfl rfl [] rfl func441 (Sw x.A5 _) ?_;simp
 refine ZG' ?_;simp
 iterate 2 (refine Zo ?_;simp)
 refine WL.split 68 _ rfl (fun g68=> ?_) fun g68=> ?_<;>try simp at g68
 simp
 iterate 19 (refine ZN' ?_;simp)
 refine Zo ?_;simp
 refine WL.nil (hK _ (Wz.to rfl rfl rfl ?_))
 simp[xf2,noS,g62,g68]<;>first|grind|omega
 simp
 iterate 4 (refine ZG' ?_;simp)
 refine WL.split 72 _ rfl (fun g72=> ?_) fun g72=> ?_<;>try simp at g72
 simp
 iterate 2 (refine ZG' ?_;simp)
 refine Zk hD rfl rfl [] rfl func122 (Ft x.A5 (by omega) _) ?_;simp
 iterate 3 (refine ZG' ?_;simp)
 refine WL.split 78 _ rfl (fun g78=> ?_) fun g78=> ?_<;>try simp at g78
 simp
 iterate 7 (refine ZN' ?_;simp)
 iterate 2 (refine ZG' ?_;simp)
 refine Zo ?_;simp
 refine WL.nil (hK _ (Wz.to rfl rfl rfl ?_))
 simp[xf2,noS,g62,g68,g72,g78]<;>first|grind|omega
 simp
 iterate 3 (refine ZG' ?_;simp)
 refine WL.split 81 _ rfl (fun g81=> ?_) fun g81=> ?_<;>try simp at g81
 simp
 iterate 6 (refine ZG' ?_;simp)
 refine Zo ?_;simp
 refine WL.nil (hK _ (Wz.to rfl rfl rfl ?_))
 simp[xf2,noS,g62,g68,g72,g78,g81]<;>first|grind|omega
 simp
 iterate 3 (refine ZN' ?_;simp)
 iterate 3 (refine ZG' ?_;simp)
 refine Zo ?_;simp
 refine WL.nil (hK _ (Wz.to rfl rfl rfl ?_))
 simp[xf2,noS,g62,g68,g72,g78,g81]<;>first|grind|omega
 simp
 iterate 14 (refine ZN' ?_;simp)
 refine ZG' ?_;simp
 refine Zo ?_;simp
 refine WL.nil (hK _ (Wz.to rfl rfl rfl ?_))
 simp[xf2,noS,g62,g68,g72]<;>first|grind|omega
 simp
 iterate 4 (refine ZN' ?_;simp)
 iterate 2 (refine Zo ?_;simp)
 iterate 4 (refine ZG' ?_;simp)
 refine WL.split 72 _ rfl (fun g72=> ?_) fun g72=> ?_<;>try simp at g72
 simp
 iterate 2 (refine ZG' ?_;simp)
 refine Zk hD rfl rfl [] rfl func122 (Ft x.A5 (by omega) _) ?_;simp
 iterate 3 (refine ZG' ?_;simp)
 refine WL.split 78 _ rfl (fun g78=> ?_) fun g78=> ?_<;>try simp at g78
 simp
 iterate 7 (refine ZN' ?_;simp)
 iterate 2 (refine ZG' ?_;simp)
 refine Zo ?_;simp
 refine WL.nil (hK _ (Wz.to rfl rfl rfl ?_))
 simp[xf2,noS,g62,g72,g78]<;>first|grind|omega
 simp
 iterate 3 (refine ZG' ?_;simp)
 refine WL.split 81 _ rfl (fun g81=> ?_) fun g81=> ?_<;>try simp at g81
 simp
 iterate 6 (refine ZG' ?_;simp)
 refine Zo ?_;simp
 refine WL.nil (hK _ (Wz.to rfl rfl rfl ?_))
 simp[xf2,noS,g62,g72,g78,g81]<;>first|grind|omega
 simp
 iterate 3 (refine ZN' ?_;simp)
 iterate 3 (refine ZG' ?_;simp)
 refine Zo ?_;simp
 refine WL.nil (hK _ (Wz.to rfl rfl rfl ?_))
 simp[xf2,noS,g62,g72,g78,g81]<;>first|grind|omega
 simp
 iterate 14 (refine ZN' ?_;simp)
 refine ZG' ?_;simp
 refine Zo ?_;simp
 refine WL.nil (hK _ (Wz.to rfl rfl rfl ?_))
 simp[xf2,noS,g62,g72]<;>first|grind|omega
 simp at hT;subst hT
 refine Zc rfl ?_ ?_<;>intro hb1<;>try simp at hb1
 have hres:exF x=false:=by rw[GD];simp[exH,hb1]
 refine Zw ?_
 refine W.ret (Zq ?_)
 simp[f411,hres]
 refine W.skip ?_
 refine W.seq ?_
 refine W.seq ?_
 refine W.regJ (D:=_) [1] [1] [(127,.d (.lf (.bool (!xf3 x))))] [] rfl (fun _ K hD hK=> ?_) fun T hT=> ?_
 refine WL.mid 9 [1,6] [1] [(97,.d (.lf (.bool (!(decide (EJ x.AH<0)||decide ((x.AB.length:Int)=EJ x.AH))))))] [] (fun hr=> ?_) fun T hT=> ?_
 iterate 3 (refine Zo ?_;simp)
 refine WL.split 91 _ rfl (fun g91=> ?_) fun g91=> ?_<;>try simp at g91
 simp
 iterate 5 (refine ZG' ?_;simp)
 refine Zo ?_;simp
 exact hr _ (Wz.to rfl rfl rfl (by simp[g91]<;>first|grind|omega))
 simp
 iterate 5 (refine ZN' ?_;simp)
 refine Zo ?_;simp
 exact hr _ (Wz.to rfl rfl rfl (by simp[g91]<;>first|grind|omega))
 simp at hT;subst hT
 refine WL.mid 11 [1,6] [1] [(108,.d (.lf (.bool (!((decide (EJ x.AH<0)||decide ((x.AB.length:Int)=EJ x.AH)) && !(decide (x.AH=5) && decide (x.AB=[])))))))] [] (fun hr=> ?_) fun T hT=> ?_
 refine Zo ?_;simp
 refine WL.split 98 _ rfl (fun g98=> ?_) fun g98=> ?_<;>try simp at g98
 simp
 iterate 9 (refine ZN' ?_;simp)
 refine Zo ?_;simp
 exact hr _ (Wz.to rfl rfl rfl (by simp[g98]<;>first|grind|omega))
 simp
 iterate 4 (refine ZG' ?_;simp)
 refine WL.split 102 _ rfl (fun g102=> ?_) fun g102=> ?_<;>try simp at g102
 simp
 iterate 5 (refine ZG' ?_;simp)
 refine Zo ?_;simp
 exact hr _ (Wz.to rfl rfl rfl (by simp[g98,g102]<;>first|grind|omega))
 simp
 iterate 4 (refine ZN' ?_;simp)
 refine ZG' ?_;simp
 refine Zo ?_;simp
 exact hr _ (Wz.to rfl rfl rfl (by simp[g98,g102]<;>first|grind|omega))
 simp at hT;subst hT
 refine WL.mid 9 [1,6] [1] [(117,.d (.lf (.bool (!((decide (EJ x.AH<0)||decide ((x.AB.length:Int)=EJ x.AH)) && !(decide (x.AH=5) && decide (x.AB=[])) && (!G0 x.AH||Bx x.AM))))))] [] (fun hr=> ?_) fun T hT=> ?_
 refine Zo ?_;simp
 refine WL.split 109 _ rfl (fun g109=> ?_) fun g109=> ?_<;>try simp at g109
 simp
 iterate 7 (refine ZN' ?_;simp)
 refine Zo ?_;simp
 exact hr _ (Wz.to rfl rfl rfl (by simp[g109]<;>first|grind|omega))
 simp
 iterate 2 (refine ZG' ?_;simp)
 refine WL.split 111 _ rfl (fun g111=> ?_) fun g111=> ?_<;>try simp at g111
 simp
 iterate 2 (refine ZG' ?_;simp)
 refine Zk hD rfl rfl [] rfl func356 (Kt x.AM (by omega) _) ?_;simp
 iterate 2 (refine ZG' ?_;simp)
 refine Zo ?_;simp
 exact hr _ (Wz.to rfl rfl rfl (by simp[g109,g111]<;>first|grind|omega))
 simp
 iterate 4 (refine ZN' ?_;simp)
 refine ZG' ?_;simp
 refine Zo ?_;simp
 exact hr _ (Wz.to rfl rfl rfl (by simp[g109,g111]<;>first|grind|omega))
 simp at hT;subst hT
 refine Zo ?_;simp
 refine WL.split 118 _ rfl (fun g118=> ?_) fun g118=> ?_<;>try simp at g118
 simp
 iterate 8 (refine ZN' ?_;simp)
 refine Zo ?_;simp
 refine WL.nil (hK _ (Wz.to rfl rfl rfl ?_))
 simp[xf3,g118]<;>first|grind|omega
 simp
 iterate 3 (refine ZG' ?_;simp)
 refine WL.split 121 _ rfl (fun g121=> ?_) fun g121=> ?_<;>try simp at g121
 simp
 iterate 2 (refine ZG' ?_;simp)
 refine Zk hD rfl rfl [] rfl func282 (L4 x.AM _) ?_;simp
 iterate 2 (refine ZG' ?_;simp)
 refine Zo ?_;simp
 refine WL.nil (hK _ (Wz.to rfl rfl rfl ?_))
 simp[xf3,g118,g121]<;>first|grind|omega
 simp
 iterate 4 (refine ZN' ?_;simp)
 refine ZG' ?_;simp
 refine Zo ?_;simp
 refine WL.nil (hK _ (Wz.to rfl rfl rfl ?_))
 simp[xf3,g118,g121]<;>first|grind|omega
 simp at hT;subst hT
 refine Zc rfl ?_ ?_<;>intro hb2<;>try simp at hb2
 have hres:exF x=false:=by rw[GD];simp[exH,hb2]
 refine Zw ?_
 refine W.ret (Zq ?_)
 simp[f411,hres]
 refine W.skip ?_
 refine W.seq ?_
 refine W.seq ?_
 refine W.regJ (D:=_) [1] [1] [(147,.d (.lf (.bool (!xf4 x))))] [] rfl (fun _ K hD hK=> ?_) fun T hT=> ?_
 iterate 4 (refine Zo ?_;simp)
 refine WL.split 131 _ rfl (fun g131=> ?_) fun g131=> ?_<;>try simp at g131
 simp
 iterate 2 (refine ZG' ?_;simp)
 refine Zk hD rfl rfl [] rfl func27 (Fh x.fN (-999999) 999999 _) ?_;simp
 refine ZG' ?_;simp
 iterate 2 (refine Zo ?_;simp)
 refine WL.split 137 _ rfl (fun g137=> ?_) fun g137=> ?_<;>try simp at g137
 simp
 iterate 9 (refine ZN' ?_;simp)
 refine Zo ?_;simp
 refine WL.nil (hK _ (Wz.to rfl rfl rfl ?_))
 simp[xf4,g131,g137]<;>first|grind|omega
 simp
 iterate 4 (refine ZG' ?_;simp)
 refine WL.split 141 _ rfl (fun g141=> ?_) fun g141=> ?_<;>try simp at g141
 simp
 iterate 2 (refine ZG' ?_;simp)
 refine Zk hD rfl rfl [] rfl func27 (Fh x.fN 0 1 _) ?_;simp
 iterate 2 (refine ZG' ?_;simp)
 refine Zo ?_;simp
 refine WL.nil (hK _ (Wz.to rfl rfl rfl ?_))
 simp[xf4,g131,g137,g141]<;>first|grind|omega
 simp
 iterate 4 (refine ZN' ?_;simp)
 refine ZG' ?_;simp
 refine Zo ?_;simp
 refine WL.nil (hK _ (Wz.to rfl rfl rfl ?_))
 simp[xf4,g131,g137,g141]<;>first|grind|omega
 simp
 iterate 4 (refine ZN' ?_;simp)
 iterate 2 (refine Zo ?_;simp)
 iterate 4 (refine ZG' ?_;simp)
 refine WL.split 141 _ rfl (fun g141=> ?_) fun g141=> ?_<;>try simp at g141
 simp
 iterate 2 (refine ZG' ?_;simp)
 refine Zk hD rfl rfl [] rfl func27 (Fh x.fN 0 1 _) ?_;simp
 iterate 2 (refine ZG' ?_;simp)
 refine Zo ?_;simp
 refine WL.nil (hK _ (Wz.to rfl rfl rfl ?_))
 simp[xf4,g131,g141]<;>first|grind|omega
 simp
 iterate 4 (refine ZN' ?_;simp)
 refine ZG' ?_;simp
 refine Zo ?_;simp
 refine WL.nil (hK _ (Wz.to rfl rfl rfl ?_))
 simp[xf4,g131,g141]<;>first|grind|omega
 simp at hT;subst hT
 refine Zc rfl ?_ ?_<;>intro hb3<;>try simp at hb3
 have hres:exF x=false:=by rw[GD];simp[exH,hb3]
 refine Zw ?_
 refine W.ret (Zq ?_)
 simp[f411,hres]
 refine W.skip ?_
 refine W.seq ?_
 refine Zw ?_
 refine W.block ?_
 refine W.loopI [1] [1] (fun k0=>[(9,dI' k0)]) (fun _=>[]) x.AB.length (fun k0=>∀j,j<k0→∀y,x.AB[j]? =some y→(fun y=> !exF y) y=false) rfl (by simp) (by simp) fun k0 hk0 hi0 T hT=> ?_
 simp at hT;subst hT
 refine W.seq ?_
 refine Zw ?_
 refine Zc rfl ?_ ?_<;>intro hb4<;>try simp at hb4
 have hx:=B2 hb4 (by omega)
 refine W.skip ?_
 refine Zb ?_
 apply Zr;intros
 iterate 5 (refine Zo ?_ (by simp[hb4,hx]<;>omega);simp[hb4,hx])
 refine Zl [] rfl func411 (hc x.AB[k0] (gm hb4) _) ?_ (by simp[hb4,hx]);simp[hb4,hx]
 refine Zo ?_ (by simp[hb4,hx]<;>omega);simp[hb4,hx]
 exact Zx
 refine Zc rfl ?_ ?_<;>intro hb5<;>try simp at hb5
 have hres:exF x=false:=by rw[GD,Fp (p:=fun y=> !exF y) hb4 (by simpa using hb5)];simp
 refine Zw2 ?_
 refine W.ret (Zq ?_)
 simp[f411,hres]
 refine W.skip ?_
 apply Zs;intros
 iterate 3 (refine Zo ?_ (by simp[hb4,hx]<;>omega);simp[hb4,hx])
 exact Zx
 refine⟨hb4,Bv (p:=fun y=> !exF y) hi0 hb4 (by simpa using hb5),Wz.to rfl rfl rfl ?_⟩
 simp
 have hkl:k0=x.AB.length:=by omega
 subst hkl
 have ha:=HQ (p:=fun y=> !exF y) hi0
 refine W.exit ?_
 refine W.seq ?_
 refine Zw ?_
 refine W.block ?_
 refine W.loopI [1] [1] (fun k1=>[(10,dI' k1)]) (fun _=>[]) x.Af.length (fun k1=>∀j,j<k1→∀y,x.Af[j]? =some y→(fun y=> !IY y) y=false) rfl (by simp) (by simp) fun k1 hk1 hi1 T hT=> ?_
 simp at hT;subst hT
 refine W.seq ?_
 refine Zw ?_
 refine Zc rfl ?_ ?_<;>intro hb6<;>try simp at hb6
 have hx:=B2 hb6 (by omega)
 have hy:=Ae Ac.sz (gm hb6)
 have hy2:=x.Af[k1].sz_eq;unfold szs at hy2
 refine W.skip ?_
 refine Zb ?_
 apply Zr;intros
 iterate 4 (refine Zo ?_ (by simp[hb6,hx]<;>omega);simp[hb6,hx])
 refine Zm [173] ?_ (by simp[hb6,hx]<;>omega);simp[hb6,hx]
 iterate 2 (refine Zo ?_ (by simp[hb6,hx]<;>omega);simp[hb6,hx])
 exact Zx
 refine W.seq ?_
 refine W.regJ (D:=_) [1,10] [1] [(195,.d (.lf (.bool (!IY x.Af[k1]))))] [] rfl (fun _ K hD hK=> ?_) fun T hT=> ?_
 iterate 2 (refine Zo ?_ (by simp[hb6,hx]<;>omega);simp[hb6,hx])
 refine Zl [] rfl func122 (Ft x.Af[k1].AZ (by omega) _) ?_ (by simp[hb6,hx]);simp[hb6,hx]
 iterate 2 (refine Zo ?_ (by simp[hb6,hx]<;>omega);simp[hb6,hx])
 refine WL.split 178 _ rfl (fun g178=> ?_) fun g178=> ?_<;>try simp at g178
 simp[hb6,hx]
 iterate 4 (refine ZN' ?_;simp[hb6,hx])
 iterate 2 (refine Zo ?_ (by simp[hb6,hx]<;>omega);simp[hb6,hx])
 iterate 4 (refine ZN' ?_;simp[hb6,hx])
 iterate 2 (refine Zo ?_ (by simp[hb6,hx]<;>omega);simp[hb6,hx])
 iterate 4 (refine ZN' ?_;simp[hb6,hx])
 refine Zo ?_ (by simp[hb6,hx]<;>omega);simp[hb6,hx]
 refine WL.nil (hK _ (Wz.to rfl rfl rfl ?_))
 simp[Iu,g178]<;>grind
 simp[hb6,hx]
 iterate 2 (refine ZG' ?_ (by simp[hb6,hx]<;>omega);simp[hb6,hx])
 refine Zk hD rfl rfl [] rfl func190 (Su x.Af[k1].Aa (fun s hs=>by have:=Ae ByteArray.size hs;omega) (by omega) _) ?_ (by simp[hb6,hx]);simp[hb6,hx]
 refine ZG' ?_ (by simp[hb6,hx]<;>omega);simp[hb6,hx]
 iterate 2 (refine Zo ?_ (by simp[hb6,hx]<;>omega);simp[hb6,hx])
 refine WL.split 184 _ rfl (fun g184=> ?_) fun g184=> ?_<;>try simp at g184
 simp[hb6,hx]
 iterate 4 (refine ZN' ?_;simp[hb6,hx])
 iterate 2 (refine Zo ?_ (by simp[hb6,hx]<;>omega);simp[hb6,hx])
 iterate 4 (refine ZN' ?_;simp[hb6,hx])
 refine Zo ?_ (by simp[hb6,hx]<;>omega);simp[hb6,hx]
 refine WL.nil (hK _ (Wz.to rfl rfl rfl ?_))
 simp[Iu,g178,g184]<;>grind
 simp[hb6,hx]
 iterate 2 (refine ZG' ?_ (by simp[hb6,hx]<;>omega);simp[hb6,hx])
 refine Zk hD rfl rfl [] rfl func60 (eR x.Af[k1].Aa (by omega) _) ?_ (by simp[hb6,hx]);simp[hb6,hx]
 refine ZG' ?_ (by simp[hb6,hx]<;>omega);simp[hb6,hx]
 iterate 2 (refine Zo ?_ (by simp[hb6,hx]<;>omega);simp[hb6,hx])
 refine WL.split 190 _ rfl (fun g190=> ?_) fun g190=> ?_<;>try simp at g190
 simp[hb6,hx]
 iterate 4 (refine ZN' ?_;simp[hb6,hx])
 refine Zo ?_ (by simp[hb6,hx]<;>omega);simp[hb6,hx]
 refine WL.nil (hK _ (Wz.to rfl rfl rfl ?_))
 simp[Iu,g178,g184,g190]<;>grind
 simp[hb6,hx]
 iterate 2 (refine ZG' ?_ (by simp[hb6,hx]<;>omega);simp[hb6,hx])
 refine Zk hD rfl rfl [] rfl func411 (hc2 x.Af[k1] (gm hb6) _) ?_ (by simp[hb6,hx]);simp[hb6,hx]
 refine ZG' ?_ (by simp[hb6,hx]<;>omega);simp[hb6,hx]
 refine Zo ?_ (by simp[hb6,hx]<;>omega);simp[hb6,hx]
 refine WL.nil (hK _ (Wz.to rfl rfl rfl ?_))
 simp[Iu,g178,g184,g190]<;>grind
 simp at hT;subst hT
 refine Zc rfl ?_ ?_<;>intro hb7<;>try simp at hb7
 have hres:exF x=false:=by rw[GD,Fp (p:=fun y=> !IY y) hb6 (by simpa using hb7)];simp
 refine Zw2 ?_
 refine W.ret (Zq ?_)
 simp[f411,hres]
 refine W.skip ?_
 apply Zs;intros
 iterate 3 (refine Zo ?_ (by simp[hb6,hx]<;>omega);simp[hb6,hx])
 exact Zx
 refine⟨hb6,Bv (p:=fun y=> !IY y) hi1 hb6 (by simpa using hb7),Wz.to rfl rfl rfl ?_⟩
 simp
 have hkl:k1=x.Af.length:=by omega
 subst hkl
 have hres:exF x=true:=by rw[GD,ha,HQ (p:=fun y=> !IY y) hi1];simp[exH,hb0,hb1,hb2,hb3]
 refine W.exit ?_
 refine Zw ?_
 refine W.ret (Zq ?_)
 simp[f411,hres]
