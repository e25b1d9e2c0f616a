/- Part 34. No condition. -/
import Derived.Test.YtgihkamifpmfdaaGreatDoorM27
import Derived.Test.YtgihkamifpmfdaaGreatDoorM29
import Derived.Test.YtgihkamifpmfdaaGreatDoorM31
namespace Go.Proofs.YtgihkamifpmfdaaGreatDoor
open Go.RowKit Tryz
set_option linter.unusedVariables false
set_option maxRecDepth 10000
set_option linter.unusedSimpArgs false
set_option maxHeartbeats 4000000
theorem gO (l:List A0) (g:Nat) (h:HP):CS cx.P 389 [.d (.sl false Ai (l.map (A0.dd false))),.d (.sl false Ai []),.fn g []] h (dB' (decide (l=[]))) h:=by
 refine Ze func389 rfl 32 ?_
 refine Zw ?_
 refine W.seq ?_
 refine Zw ?_
 refine Zc rfl ?_ ?_<;>intro hb0<;>try simp at hb0
 have hres:¬l=[]:=by simpa using hb0
 refine Zw ?_
 refine W.ret (Zq ?_)
 simp[f389,hres]
 have hres:l=[]:=by simpa using hb0
 refine W.skip ?_
 refine W.seq ?_
 refine Zw ?_
 refine W.block ?_
 refine W.loopk [1,2,15,16] [] (fun k0=>[(17,dI' k0)]) (fun _=>[]) 0 rfl (by simp) fun k0 hk0 T hT=> ?_
 simp at hT;subst hT
 refine Zw ?_
 refine Zv rfl ?_ ?_<;>intro hb1<;>try simp at hb1
 exfalso;rw[hres] at hb1;simp at hb1
 refine W.exit ?_
 refine Zw ?_
 refine W.ret (Zq ?_)
 simp[f389,hres]
theorem gM (l:List AG) (g:Nat) (h:HP):CS cx.P 417 [.d (.sl false Be (l.map (AG.dd false))),.d (.sl false Be []),.fn g []] h (dB' (decide (l=[]))) h:=by
 refine Ze func417 rfl 32 ?_
 refine Zw ?_
 refine W.seq ?_
 refine Zw ?_
 refine Zc rfl ?_ ?_<;>intro hb0<;>try simp at hb0
 have hres:¬l=[]:=by simpa using hb0
 refine Zw ?_
 refine W.ret (Zq ?_)
 simp[f417,hres]
 have hres:l=[]:=by simpa using hb0
 refine W.skip ?_
 refine W.seq ?_
 refine Zw ?_
 refine W.block ?_
 refine W.loopk [1,2,15,16] [] (fun k0=>[(17,dI' k0)]) (fun _=>[]) 0 rfl (by simp) fun k0 hk0 T hT=> ?_
 simp at hT;subst hT
 refine Zw ?_
 refine Zv rfl ?_ ?_<;>intro hb1<;>try simp at hb1
 exfalso;rw[hres] at hb1;simp at hb1
 refine W.exit ?_
 refine Zw ?_
 refine W.ret (Zq ?_)
 simp[f417,hres]
theorem gP (l:List Ac) (g:Nat) (h:HP):CS cx.P 418 [.d (.sl false BL (l.map (Ac.dd false))),.d (.sl false BL []),.fn g []] h (dB' (decide (l=[]))) h:=by
 refine Ze func418 rfl 32 ?_
 refine Zw ?_
 refine W.seq ?_
 refine Zw ?_
 refine Zc rfl ?_ ?_<;>intro hb0<;>try simp at hb0
 have hres:¬l=[]:=by simpa using hb0
 refine Zw ?_
 refine W.ret (Zq ?_)
 simp[f418,hres]
 have hres:l=[]:=by simpa using hb0
 refine W.skip ?_
 refine W.seq ?_
 refine Zw ?_
 refine W.block ?_
 refine W.loopk [1,2,15,16] [] (fun k0=>[(17,dI' k0)]) (fun _=>[]) 0 rfl (by simp) fun k0 hk0 T hT=> ?_
 simp at hT;subst hT
 refine Zw ?_
 refine Zv rfl ?_ ?_<;>intro hb1<;>try simp at hb1
 exfalso;rw[hres] at hb1;simp at hb1
 refine W.exit ?_
 refine Zw ?_
 refine W.ret (Zq ?_)
 simp[f418,hres]
theorem aN (x:A0) (h:HP):CS cx.P 333 [.d (x.dd false),.d (zT.dd false)] h (dB' (CI x)) h:=by
 refine Ze func333 rfl 24 ?_
 apply Zr;intros
 iterate 3 (refine Zo ?_ (by simp[zT]<;>omega);simp[zT])
 exact Zx
 refine W.seq ?_
 refine W.regJ0 (D:=_) rfl fun _ K hD hK=> ?_
 iterate 6 (refine Zo ?_ (by simp[zT]<;>omega);simp[zT])
 refine WL.split 10 _ rfl (fun g10=> ?_) fun g10=> ?_<;>try simp at g10
 simp[zT]
 iterate 5 (refine ZG' ?_ (by simp[zT]<;>omega);simp[zT])
 iterate 2 (refine Zo ?_ (by simp[zT]<;>omega);simp[zT])
 refine WL.split 17 _ rfl (fun g17=> ?_) fun g17=> ?_<;>try simp at g17
 simp[zT]
 iterate 4 (refine ZG' ?_ (by simp[zT]<;>omega);simp[zT])
 refine Zk hD rfl rfl [] rfl func389 (gO x.AB 333 _) ?_ (by simp[zT]);simp[zT]
 iterate 2 (refine Zo ?_ (by simp[zT]<;>omega);simp[zT])
 refine WL.nil (hK _ ?_)
 refine W.ret (Zq ?_)
 simp[f333,CI,g10,g17]
 simp[zT]
 iterate 5 (refine ZN' ?_;simp[zT])
 iterate 2 (refine Zo ?_ (by simp[zT]<;>omega);simp[zT])
 refine WL.nil (hK _ ?_)
 refine W.ret (Zq ?_)
 simp[f333,CI,g10,g17]
 simp[zT]
 iterate 5 (refine ZN' ?_;simp[zT])
 iterate 2 (refine Zo ?_ (by simp[zT]<;>omega);simp[zT])
 iterate 5 (refine ZN' ?_;simp[zT])
 iterate 2 (refine Zo ?_ (by simp[zT]<;>omega);simp[zT])
 refine WL.nil (hK _ ?_)
 refine W.ret (Zq ?_)
 simp[f333,CI,g10]
theorem aM (x:AG) (h:HP):CS cx.P 372 [.d (x.dd false),.d (zX.dd false)] h (dB' (Dl x)) h:=by
 refine Ze func372 rfl 52 ?_
 apply Zr;intros
 iterate 3 (refine Zo ?_ (by simp[zX]<;>omega);simp[zX])
 exact Zx
 refine W.seq ?_
 refine W.regJ0 (D:=_) rfl fun _ K hD hK=> ?_
 iterate 6 (refine Zo ?_ (by simp[zX]<;>omega);simp[zX])
 refine WL.split 10 _ rfl (fun g10=> ?_) fun g10=> ?_<;>try simp at g10
 simp[zX]
 iterate 5 (refine ZG' ?_ (by simp[zX]<;>omega);simp[zX])
 iterate 2 (refine Zo ?_ (by simp[zX]<;>omega);simp[zX])
 refine WL.split 17 _ rfl (fun g17=> ?_) fun g17=> ?_<;>try simp at g17
 simp[zX]
 iterate 5 (refine ZG' ?_ (by simp[zX]<;>omega);simp[zX])
 iterate 2 (refine Zo ?_ (by simp[zX]<;>omega);simp[zX])
 refine WL.split 24 _ rfl (fun g24=> ?_) fun g24=> ?_<;>try simp at g24
 simp[zX]
 iterate 5 (refine ZG' ?_ (by simp[zX]<;>omega);simp[zX])
 iterate 2 (refine Zo ?_ (by simp[zX]<;>omega);simp[zX])
 refine WL.split 31 _ rfl (fun g31=> ?_) fun g31=> ?_<;>try simp at g31
 simp[zX]
 iterate 4 (refine ZG' ?_ (by simp[zX]<;>omega);simp[zX])
 refine Zk hD rfl rfl [] rfl func333 (aN x.AM _) ?_ (by simp[zX]);simp[zX]
 iterate 2 (refine Zo ?_ (by simp[zX]<;>omega);simp[zX])
 refine WL.split 38 _ rfl (fun g38=> ?_) fun g38=> ?_<;>try simp at g38
 simp[zX]
 iterate 4 (refine ZG' ?_ (by simp[zX]<;>omega);simp[zX])
 refine Zk hD rfl rfl [] rfl func417 (gM x.AB 372 _) ?_ (by simp[zX]);simp[zX]
 iterate 2 (refine Zo ?_ (by simp[zX]<;>omega);simp[zX])
 refine WL.split 45 _ rfl (fun g45=> ?_) fun g45=> ?_<;>try simp at g45
 simp[zX]
 iterate 4 (refine ZG' ?_ (by simp[zX]<;>omega);simp[zX])
 refine Zk hD rfl rfl [] rfl func418 (gP x.Af 419 _) ?_ (by simp[zX]);simp[zX]
 iterate 2 (refine Zo ?_ (by simp[zX]<;>omega);simp[zX])
 refine WL.nil (hK _ ?_)
 refine W.ret (Zq ?_)
 simp[f372,Dl,noS,g10,g17,g24,g31,g38,g45]
 simp[zX]
 iterate 5 (refine ZN' ?_;simp[zX])
 iterate 2 (refine Zo ?_ (by simp[zX]<;>omega);simp[zX])
 refine WL.nil (hK _ ?_)
 refine W.ret (Zq ?_)
 simp[f372,Dl,noS,g10,g17,g24,g31,g38,g45]
 simp[zX]
 iterate 5 (refine ZN' ?_;simp[zX])
 iterate 2 (refine Zo ?_ (by simp[zX]<;>omega);simp[zX])
 iterate 5 (refine ZN' ?_;simp[zX])
 iterate 2 (refine Zo ?_ (by simp[zX]<;>omega);simp[zX])
 refine WL.nil (hK _ ?_)
 refine W.ret (Zq ?_)
 simp[f372,Dl,noS,g10,g17,g24,g31,g38]
 simp[zX]
 iterate 5 (refine ZN' ?_;simp[zX])
 iterate 2 (refine Zo ?_ (by simp[zX]<;>omega);simp[zX])
 iterate 5 (refine ZN' ?_;simp[zX])
 iterate 2 (refine Zo ?_ (by simp[zX]<;>omega);simp[zX])
 iterate 5 (refine ZN' ?_;simp[zX])
 iterate 2 (refine Zo ?_ (by simp[zX]<;>omega);simp[zX])
 refine WL.nil (hK _ ?_)
 refine W.ret (Zq ?_)
 simp[f372,Dl,noS,g10,g17,g24,g31]
 simp[zX]
 iterate 5 (refine ZN' ?_;simp[zX])
 iterate 2 (refine Zo ?_ (by simp[zX]<;>omega);simp[zX])
 iterate 5 (refine ZN' ?_;simp[zX])
 iterate 2 (refine Zo ?_ (by simp[zX]<;>omega);simp[zX])
 iterate 5 (refine ZN' ?_;simp[zX])
 iterate 2 (refine Zo ?_ (by simp[zX]<;>omega);simp[zX])
 iterate 5 (refine ZN' ?_;simp[zX])
 iterate 2 (refine Zo ?_ (by simp[zX]<;>omega);simp[zX])
 refine WL.nil (hK _ ?_)
 refine W.ret (Zq ?_)
 simp[f372,Dl,noS,g10,g17,g24]
 simp[zX]
 iterate 5 (refine ZN' ?_;simp[zX])
 iterate 2 (refine Zo ?_ (by simp[zX]<;>omega);simp[zX])
 iterate 5 (refine ZN' ?_;simp[zX])
 iterate 2 (refine Zo ?_ (by simp[zX]<;>omega);simp[zX])
 iterate 5 (refine ZN' ?_;simp[zX])
 iterate 2 (refine Zo ?_ (by simp[zX]<;>omega);simp[zX])
 iterate 5 (refine ZN' ?_;simp[zX])
 iterate 2 (refine Zo ?_ (by simp[zX]<;>omega);simp[zX])
 iterate 5 (refine ZN' ?_;simp[zX])
 iterate 2 (refine Zo ?_ (by simp[zX]<;>omega);simp[zX])
 refine WL.nil (hK _ ?_)
 refine W.ret (Zq ?_)
 simp[f372,Dl,noS,g10,g17]
 simp[zX]
 iterate 5 (refine ZN' ?_;simp[zX])
 iterate 2 (refine Zo ?_ (by simp[zX]<;>omega);simp[zX])
 iterate 5 (refine ZN' ?_;simp[zX])
 iterate 2 (refine Zo ?_ (by simp[zX]<;>omega);simp[zX])
 iterate 5 (refine ZN' ?_;simp[zX])
 iterate 2 (refine Zo ?_ (by simp[zX]<;>omega);simp[zX])
 iterate 5 (refine ZN' ?_;simp[zX])
 iterate 2 (refine Zo ?_ (by simp[zX]<;>omega);simp[zX])
 iterate 5 (refine ZN' ?_;simp[zX])
 iterate 2 (refine Zo ?_ (by simp[zX]<;>omega);simp[zX])
 iterate 5 (refine ZN' ?_;simp[zX])
 iterate 2 (refine Zo ?_ (by simp[zX]<;>omega);simp[zX])
 refine WL.nil (hK _ ?_)
 refine W.ret (Zq ?_)
 simp[f372,Dl,noS,g10]
theorem kP (x:AG) (h:HP):CS cx.P 312 [.d (x.dd false)] h (dB' (Dl x)) h:=by
 refine Ze func312 rfl 6 ?_
 apply Zr;intros
 iterate 2 (refine Zo ?_ (by simp[zX,zT]<;>omega);simp[zX,zT])
 exact Zx
 apply Zr;intros
 iterate 2 (refine Zo ?_ (by simp[zX,zT]<;>omega);simp[zX,zT])
 refine Zl [] rfl func372 (aM x _) ?_ (by simp[zX,zT]);simp[zX,zT]
 refine Zo ?_ (by simp[zX,zT]<;>omega);simp[zX,zT]
 exact Zx
 refine W.ret (Zq ?_)
 simp[f312]
theorem M6 (x:A0) (v:List BA') (hm:v.length≤134217728) (hz:x.sz≤134217728) (h:HP):CS cx.P 225 [.d (x.dd false),.d (.sl false .one (v.map dS))] h (dB' (Bl x v)) h:=by
 have hlen:(tv x).length≤1+x.sz:=by have h1:=Ga x [];have h2:=DG x;unfold tv;simp at h1;omega
 refine Ze func225 rfl 13 ?_
 refine Zw ?_
 refine W.seq ?_
 refine W.regJ0 (D:=_) rfl fun _ K hD hK=> ?_
 refine Zo ?_;simp
 refine Zl [] rfl func315 (Hu x hz _) ?_;simp
 refine Zo ?_;simp
 refine WL.split 7 _ rfl (fun g7=> ?_) fun g7=> ?_<;>try simp at g7
 simp
 refine ZG' ?_;simp
 refine Zk hD rfl rfl [] rfl func227 (R7 x hz _) ?_;simp
 refine ZG' ?_;simp
 refine Zk hD rfl rfl [] rfl func76 (EG (tv x) v (by omega) (by omega) _) ?_;simp
 iterate 2 (refine Zo ?_;simp)
 refine WL.nil (hK _ ?_)
 refine W.ret (Zq ?_)
 simp[f225,Bl,g7]
 simp
 iterate 4 (refine ZN' ?_;simp)
 iterate 2 (refine Zo ?_;simp)
 refine WL.nil (hK _ ?_)
 refine W.ret (Zq ?_)
 simp[f225,Bl,g7]
theorem Sn (v:List BA') (hm:v.length≤134217728) (x:A0) (hz:x.sz≤134217728) (lv k:Nat) (h:HP) (hcap:hpg h lv k=some (.d (.sl false .one (v.map dS)))):CS cx.P 314 [.d (x.dd false),.pt lv k []] h (dB' (!Bl x v)) h:=by
 have hc2:=Dh hcap
 refine Ze func314 rfl 8 ?_
 apply Zr;intros
 iterate 2 (refine Zo ?_ (by simp[hc2]<;>omega);simp[hc2])
 exact Zx
 apply Zr;intros
 iterate 2 (refine Zo ?_ (by simp[hc2]<;>omega);simp[hc2])
 refine Zl [] rfl func225 (M6 x v hm hz _) ?_ (by simp[hc2]);simp[hc2]
 iterate 2 (refine Zo ?_ (by simp[hc2]<;>omega);simp[hc2])
 exact Zx
 refine W.ret (Zq ?_)
 simp[f314]
theorem Nr (l:List A0) (v:List BA') (hm:v.length≤134217728) (hl:l.length≤134217728) (hs:∀y∈l,y.sz≤134217728) (h:HP):CS cx.P 224 [.d (.sl false Ai (l.map (A0.dd false))),.d (.sl false .one (v.map dS))] h (dB' (En l v)) h:=by
 refine Ze func224 rfl 9 ?_
 refine Zw ?_
 apply Zr;intros
 iterate 2 (refine Zo ?_;simp)
 refine Zl [] rfl func313 (G7 l (by omega) 314 f314 _ ⟨func314,rfl,rfl⟩ (fun y=> !Bl y v) 3 (.sl false .one (v.map dS)) 0 (fun y hy lv h hc=>Sn v hm y (hs y hy) lv 3 h hc) _ (by simp)) ?_;simp
 iterate 2 (refine Zo ?_;simp)
 exact Zx
 refine W.ret (Zq ?_)
 simp[f224,En]
def acL (k:Int):Int:=if k=4∨k=6 then 0 else if k=5 then 1 else if k=7∨k=11∨k=12 then 1 else if k=8∨k=10 then 2 else if k=9 then 3 else 0
def acH (k:Int):Int:=if k=4∨k=6 then 300 else if k=5 then 300 else if k=7∨k=11∨k=12 then 1 else if k=8∨k=10 then 2 else if k=9 then 3 else 0
theorem hZ (k:Int):0≤acL k∧acL k≤3∧0≤acH k∧acH k≤300:=by
 unfold acL acH
 repeat' split
 all_goals omega
def if1 (x:AG):Bool:=Ap x.AH 1 12 && decide (acL x.AH≤x.AB.length) && decide ((x.AB.length:Int)≤acH x.AH)
def ifT (x:AG):Bool:=if x.AH=5∨x.AH=11 then BV x.AK else noS x.AK
def ifN (x:AG):Bool:=if x.AH=3∨x.AH=4∨x.AH=6∨x.AH=8∨x.AH=5 then BV x.A5 else if x.AH=10 then B7 D5 x.A5 else noS x.A5
def ifI (x:AG):Bool:=if x.AH=1 then Ap x.fN (-999999) 999999 else if x.AH=2 then Ap x.fN 0 1 else decide (x.fN=0)
def ifY (x:AG):Bool:=(decide (x.AH=12) != !CI x.AM)||(decide (x.AH=12) && !Bx x.AM)
def iF0 (x:AG):Bool:=if1 x && !ifY x && ifT x && ifN x && ifI x && (decide (x.AH=7)==decide (0<x.Af.length))
mutual
def iF:AG→Bool
 |⟨k,t,n,i,y,al,rl⟩=>iF0 ⟨k,t,n,i,y,al,rl⟩ && iFs al && iFr rl
def iFs:List AG→Bool
 |[]=>true
 |x::l=>iF x && iFs l
def iFa:Ac→Bool
 |⟨c,vs,b⟩=>BV c && (dst vs && nms vs) && iF b
def iFr:List Ac→Bool
 |[]=>true
 |x::l=>iFa x && iFr l
end
theorem RA:∀l:List AG,iFs l= !(l.any fun y=> !iF y)
 |[]=>rfl
 |x::l=>by simp only[iFs,RA l,List.any_cons];cases iF x<;>simp
theorem RD:∀l:List Ac,iFr l= !(l.any fun y=> !iFa y)
 |[]=>rfl
 |x::l=>by simp only[iFr,RD l,List.any_cons];cases iFa x<;>simp
theorem cQ (x:AG):iF x=(iF0 x && !(x.AB.any fun y=> !iF y) && !(x.Af.any fun y=> !iFa y)):=by cases x;simp only[iF,RA,RD]
theorem PE (x:Ac):iFa x=(BV x.AZ && (dst x.Aa && nms x.Aa) && iF x.Ab):=by cases x;simp only[iFa]
theorem gw (n:Int) (h:HP):CS cx.P 444 [dI' n] h (.tp [dI' (acL n),dI' (acH n)]) h:=by
 refine Ze func444 rfl 19 ?_
 refine Zw ?_
 refine W.seq ?_
 refine Zw ?_
 refine W.block ?_
 refine W.seq ?_
 refine Zw ?_
 refine Zc rfl ?_ ?_<;>intro hb0<;>try simp at hb0
 refine W.skip ?_
 refine W.condT (by simp[hb0]) trivial ?_
 refine Zw ?_
 refine W.ret (Zq ?_)
 simp[f444,acL,acH,hb0]
 apply Zs;intros
 iterate 2 (refine Zo ?_;simp)
 exact Zx
 refine Zc rfl ?_ ?_<;>intro hb1<;>try simp at hb1
 refine Zw ?_
 refine W.ret (Zq ?_)
 simp[f444,acL,acH,hb0,hb1]
 refine Zw ?_
 refine Zc rfl ?_ ?_<;>intro hb2<;>try simp at hb2
 refine Zw ?_
 refine W.ret (Zq ?_)
 simp[f444,acL,acH,hb0,hb1,hb2]
 refine W.seq ?_
 refine Zw ?_
 refine Zc rfl ?_ ?_<;>intro hb3<;>try simp at hb3
 refine W.skip ?_
 refine W.condT (by simp[hb3]) trivial ?_
 refine Zw ?_
 refine W.ret (Zq ?_)
 simp[f444,acL,acH,hb0,hb1,hb2,hb3]
 refine Zw ?_
 refine Zc rfl ?_ ?_<;>intro hb4<;>try simp at hb4
 refine W.skip ?_
 refine W.condT (by simp[hb4]) trivial ?_
 refine Zw ?_
 refine W.ret (Zq ?_)
 simp[f444,acL,acH,hb0,hb1,hb2,hb3,hb4]
 apply Zs;intros
 iterate 2 (refine Zo ?_;simp)
 exact Zx
 refine Zc rfl ?_ ?_<;>intro hb5<;>try simp at hb5
 refine Zw ?_
 refine W.ret (Zq ?_)
 simp[f444,acL,acH,hb0,hb1,hb2,hb3,hb4,hb5]
 refine W.seq ?_
 refine Zw ?_
 refine Zc rfl ?_ ?_<;>intro hb6<;>try simp at hb6
 refine W.skip ?_
 refine W.condT (by simp[hb6]) trivial ?_
 refine Zw ?_
 refine W.ret (Zq ?_)
 simp[f444,acL,acH,hb0,hb1,hb2,hb3,hb4,hb5,hb6]
 apply Zs;intros
 iterate 2 (refine Zo ?_;simp)
 exact Zx
 refine Zc rfl ?_ ?_<;>intro hb7<;>try simp at hb7
 refine Zw ?_
 refine W.ret (Zq ?_)
 simp[f444,acL,acH,hb0,hb1,hb2,hb3,hb4,hb5,hb6,hb7]
 refine Zw ?_
 refine Zc rfl ?_ ?_<;>intro hb8<;>try simp at hb8
 refine Zw ?_
 refine W.ret (Zq ?_)
 simp[f444,acL,acH,hb0,hb1,hb2,hb3,hb4,hb5,hb6,hb7,hb8]
 refine W.skip ?_
 refine Zw ?_
 refine W.ret (Zq ?_)
 simp[f444,acL,acH,hb0,hb1,hb2,hb3,hb4,hb5,hb6,hb7,hb8]
theorem XJ (v:List BA') (hm:v.length≤134217728) (x:A9) (hz:x.sz≤134217728) (lv k:Nat) (h:HP) (hcap:hpg h lv k=some (.d (.sl false .one (v.map dS)))):CS cx.P 318 [.d (x.dd false),.pt lv k []] h (dB' (Eb x v)) h:=by
 have hc2:=Dh hcap
 have hz2:=x.sz_eq
 have hlen:(tv x.AM).length≤1+x.AM.sz:=by have h1:=Ga x.AM [];have h2:=DG x.AM;unfold tv;simp at h1;omega
 refine Ze func318 rfl 20 ?_
 apply Zr;intros
 iterate 2 (refine Zo ?_ (by simp[hc2]<;>omega);simp[hc2])
 exact Zx
 refine W.seq ?_
 refine W.regDJ0 (D:=_) rfl rfl fun K hD hK=> ?_
 refine Yo ?_ (by simp[hc2]<;>omega);simp[hc2]
 refine Yl [] rfl func319 (TC x (by omega)) ?_ (by simp[hc2]);simp[hc2]
 iterate 2 (refine Yo ?_ (by simp[hc2]<;>omega);simp[hc2])
 refine DL.split 7 _ rfl (fun g7=> ?_) fun g7=> ?_<;>try simp at g7
 simp[hc2]
 iterate 3 (refine Yn hD rfl rfl ?_;simp[hc2])
 iterate 2 (refine Yo ?_ (by simp[hc2]<;>omega);simp[hc2])
 iterate 6 (refine Yn hD rfl rfl ?_;simp[hc2])
 iterate 2 (refine Yo ?_ (by simp[hc2]<;>omega);simp[hc2])
 refine DL.nil rfl (hK _ ?_)
 refine W.ret (Zq ?_)
 simp[f318,Eb,Bl,g7]<;>grind
 simp[hc2]
 iterate 2 (refine Yg hD rfl rfl ?_ (by simp[hc2]<;>omega);simp[hc2])
 refine Yk hD rfl rfl [] rfl func226 (cO x.AM (by omega)) ?_ (by simp[hc2]);simp[hc2]
 iterate 2 (refine Yo ?_ (by simp[hc2]<;>omega);simp[hc2])
 refine DL.split 12 _ rfl (fun g12=> ?_) fun g12=> ?_<;>try simp at g12
 simp[hc2]
 iterate 6 (refine Yn hD rfl rfl ?_;simp[hc2])
 iterate 2 (refine Yo ?_ (by simp[hc2]<;>omega);simp[hc2])
 refine DL.nil rfl (hK _ ?_)
 refine W.ret (Zq ?_)
 simp[f318,Eb,Bl,g7,g12]<;>grind
 simp[hc2]
 iterate 2 (refine Yg hD rfl rfl ?_ (by simp[hc2]<;>omega);simp[hc2])
 refine Yk hD rfl rfl [] rfl func227 (R7 x.AM (by omega)) ?_ (by simp[hc2]);simp[hc2]
 refine DL.opGs [] hD 8 12 false rfl rfl (by simp) (by simp[hc2]<;>omega) rfl _ (dw hc2 rfl rfl rfl rfl) ?_;simp[hc2]
 refine Yk hD rfl rfl [] rfl func76 (EG (tv x.AM) v (by omega) (by omega)) ?_ (by simp[hc2]);simp[hc2]
 refine Yg hD rfl rfl ?_ (by simp[hc2]<;>omega);simp[hc2]
 iterate 2 (refine Yo ?_ (by simp[hc2]<;>omega);simp[hc2])
 refine DL.nil rfl (hK _ ?_)
 refine W.ret (Zq ?_)
 simp[f318,Eb,Bl,g7,g12]<;>grind
theorem ZY (l:List A9) (v:List BA') (hm:v.length≤134217728) (hl:l.length≤134217728) (hs:∀y∈l,y.sz≤134217728) (h:HP):CS cx.P 228 [.d (.sl false BC (l.map (A9.dd false))),.d (.sl false .one (v.map dS))] h (dB' (KO l v)) h:=by
 refine Ze func228 rfl 14 ?_
 refine Zw ?_
 refine W.seq ?_
 refine W.regJ0 (D:=_) rfl fun _ K hD hK=> ?_
 iterate 4 (refine Zo ?_;simp)
 refine WL.split 8 _ rfl (fun g8=> ?_) fun g8=> ?_<;>try simp at g8
 simp
 iterate 2 (refine ZG' ?_;simp)
 refine Zk hD rfl rfl [] rfl func170 (Fr l (by omega) 318 f318 _ ⟨func318,rfl,rfl⟩ (fun y=>Eb y v) 3 (.sl false .one (v.map dS)) 0 (fun y hy lv h hc=>XJ v hm y (hs y hy) lv 3 h hc) _ (by simp)) ?_;simp
 refine ZG' ?_;simp
 iterate 2 (refine Zo ?_;simp)
 refine WL.nil (hK _ ?_)
 refine W.ret (Zq ?_)
 simp[f228,KO,g8]<;>first|omega|grind
 simp
 iterate 4 (refine ZN' ?_;simp)
 iterate 2 (refine Zo ?_;simp)
 refine WL.nil (hK _ ?_)
 refine W.ret (Zq ?_)
 simp[f228,KO,g8]<;>first|omega|grind
mutual
theorem YU:∀x:AG,0<szX x
 |⟨_,_,_,_,_,_,_⟩=>by simp only[szX];omega
theorem N9:∀l:List AG,l.length≤EH l
 |[]=>by simp
 |x::l=>by have:=YU x;have:=N9 l;simp only[EH,List.length_cons];omega
end
theorem Fe (s:BA'):noS s=s.toList.isEmpty:=by unfold noS;cases s.toList<;>rfl
theorem VQ {s:BA'} (h:noS s=true):BV s=false:=by
 unfold noS at h
 have h3:s.toList=[]:=by simpa using h
 have h4:=dZ s
 rw[h3] at h4
 have h5:s.size=0:=by simpa using h4.symm
 unfold BV Ap
 simp[h5]
theorem YQ {x:A0} (h:CI x=true):Bx x=false:=by
 unfold CI at h
 simp at h
 cases x with
 |mk k n l=>
  simp only at h
  obtain⟨⟨h1, -⟩, -⟩:=h
  subst h1
  unfold Bx
  simp[CK,Cf]
theorem Zi {x:AG} (h:x.AB.length≤300):iF0 x=exH x:=by
 by_cases hr:1≤x.AH∧x.AH≤12
 ·have ht:=@VQ x.AK
  have hn:=@VQ x.A5
  have hy:=@YQ x.AM
  have hnl:x.AB=[]↔x.AB.length=0:=List.length_eq_zero_iff.symm
  have hk:x.AH=1∨x.AH=2∨x.AH=3∨x.AH=4∨x.AH=5∨x.AH=6∨x.AH=7∨x.AH=8∨x.AH=9∨x.AH=10∨x.AH=11∨x.AH=12:=by omega
  generalize hq1:noS x.AK=q1 at*
  generalize hq2:BV x.AK=q2 at*
  generalize hq3:noS x.A5=q3 at*
  generalize hq4:BV x.A5=q4 at*
  generalize hq5:CI x.AM=q5 at*
  generalize hq6:Bx x.AM=q6 at*
  generalize hq7:B7 D5 x.A5=q7 at*
  rcases hk with e|e|e|e|e|e|e|e|e|e|e|e<;>simp only[iF0,if1,ifT,ifN,ifI,ifY,exH,xf1,xf2,xf3,xf4,EY,G1,G2,GC,G0,EJ,acL,acH,Ap,hq1,hq2,hq3,hq4,hq5,hq6,hq7,e]<;>simp<;>grind
 ·have h1:if1 x=false:=by unfold if1 Ap;simp;omega
  have h2:xf1 x=false:=by unfold xf1 Ap;simp;omega
  unfold iF0 exH;rw[h1,h2];simp
mutual
theorem PF:∀x:AG,szX x≤300→iF x=exF x
 |⟨k,t,n,i,y,al,rl⟩,h=>by
  simp only[szX] at h
  have h1:=N9 al
  have h2:=R9 al (by omega)
  have h3:=RC rl (by omega)
  have h4:=Zi (x:=⟨k,t,n,i,y,al,rl⟩) (by show al.length≤300;omega)
  simp only[iF,exF,h2,h3,h4]
theorem R9:∀l:List AG,EH l≤300→iFs l=PM l
 |[],_=>by simp only[iFs,PM]
 |x::l,h=>by
  simp only[EH] at h
  simp only[iFs,PM,PF x (by omega),R9 l (by omega)]
theorem Zh:∀x:Ac,KT x≤300→iFa x=IY x
 |⟨c,vs,b⟩,h=>by
  simp only[KT] at h
  simp only[iFa,IY,PF b h]
  cases BV c<;>cases dst vs<;>cases nms vs<;>rfl
theorem RC:∀l:List Ac,EW l≤300→iFr l=PN l
 |[],_=>by simp only[iFr,PN]
 |x::l,h=>by
  simp only[EW] at h
  simp only[iFr,PN,Zh x (by omega),RC l (by omega)]
end
theorem WP (x:AG):exV x=(decide (szX x≤300) && iF x):=by
 unfold exV
 by_cases h:szX x≤300
 ·rw[PF x h]
 ·simp[h]
theorem fQ (x:AG) (hz:x.sz≤134217728) (hc:∀y∈x.AB,∀h,CS cx.P 377 [.d (y.dd false)] h (dI' ((szX y:Nat):Int)) h) (hc2:∀a∈x.Af,∀h,CS cx.P 377 [.d (a.Ab.dd false)] h (dI' ((szX a.Ab:Nat):Int)) h) (h:HP):CS cx.P 377 [.d (x.dd false)] h (dI' ((szX x:Nat):Int)) h:=by
 have hz2:=x.sz_eq;unfold szs at hz2
 have hsx:=Hc x
 have hx0:=Mj x 0
 refine Ze func377 rfl 34 ?_
 refine Zw ?_
 refine Zw ?_
 refine W.seq ?_
 refine Zw ?_
 refine W.block ?_
 refine W.loopk [1,9,10] [1] (fun k0=>[(11,dI' k0),(3,dI' ((xk x k0:Nat):Int))]) (fun _=>[]) x.AB.length rfl (by simp[Pl]) fun k0 hk0 T hT=> ?_
 simp at hT;subst hT
 refine Zw ?_
 refine Zv rfl ?_ ?_<;>intro hb0<;>try simp at hb0
 have hx:=B2 hb0 (by omega)
 have h3:=Tj hb0
 have h4:=Tk x (k0+1)
 have hw:IntKind.i64.wrap ((xk x k0:Int)+(szX x.AB[k0]:Int))=(xk x (k0+1):Int):=by rw[BH (by omega) (by omega)];omega
 refine W.skip ?_
 refine Zb ?_
 apply Zr;intros
 refine Zo ?_ (by simp[hb0,hx,hw]<;>omega);simp[hb0,hx,hw]
 refine Zm [14] ?_ (by simp[hb0,hx,hw]<;>omega);simp[hb0,hx,hw]
 iterate 2 (refine Zo ?_ (by simp[hb0,hx,hw]<;>omega);simp[hb0,hx,hw])
 exact Zx
 apply Zs;intros
 iterate 2 (refine Zo ?_ (by simp[hb0,hx,hw]<;>omega);simp[hb0,hx,hw])
 refine Zl [] rfl func377 (hc x.AB[k0] (gm hb0) _) ?_ (by simp[hb0,hx,hw]);simp[hb0,hx,hw]
 iterate 2 (refine Zo ?_ (by simp[hb0,hx,hw]<;>omega);simp[hb0,hx,hw])
 exact Zx
 apply Zs;intros
 iterate 2 (refine Zo ?_ (by simp[hb0,hx,hw]<;>omega);simp[hb0,hx,hw])
 exact Zx
 refine⟨hb0,Wz.to rfl rfl rfl ?_⟩
 simp[hw]
 have hkl:k0=x.AB.length:=by omega
 subst hkl
 refine W.exit ?_
 refine W.seq ?_
 refine Zw ?_
 refine W.block ?_
 refine W.loopk [21,22] [] (fun k1=>[(23,dI' k1),(3,dI' ((xr x k1:Nat):Int))]) (fun _=>[]) x.Af.length rfl (by simp[LO]) fun k1 hk1 T hT=> ?_
 simp at hT;subst hT
 refine Zw ?_
 refine Zv rfl ?_ ?_<;>intro hb1<;>try simp at hb1
 have hx:=B2 hb1 (by omega)
 have h3:=Ti hb1
 have h4:=Mj x (k1+1)
 have hw:IntKind.i64.wrap ((xr x k1:Int)+(szX x.Af[k1].Ab:Int))=(xr x (k1+1):Int):=by rw[BH (by omega) (by omega)];omega
 refine W.skip ?_
 refine Zb ?_
 apply Zr;intros
 refine Zo ?_ (by simp[hb1,hx,hw]<;>omega);simp[hb1,hx,hw]
 refine Zm [26] ?_ (by simp[hb1,hx,hw]<;>omega);simp[hb1,hx,hw]
 iterate 2 (refine Zo ?_ (by simp[hb1,hx,hw]<;>omega);simp[hb1,hx,hw])
 exact Zx
 apply Zs;intros
 iterate 3 (refine Zo ?_ (by simp[hb1,hx,hw]<;>omega);simp[hb1,hx,hw])
 refine Zl [] rfl func377 (hc2 x.Af[k1] (gm hb1) _) ?_ (by simp[hb1,hx,hw]);simp[hb1,hx,hw]
 iterate 2 (refine Zo ?_ (by simp[hb1,hx,hw]<;>omega);simp[hb1,hx,hw])
 exact Zx
 apply Zs;intros
 iterate 2 (refine Zo ?_ (by simp[hb1,hx,hw]<;>omega);simp[hb1,hx,hw])
 exact Zx
 refine⟨hb1,Wz.to rfl rfl rfl ?_⟩
 simp[hw]
 have hkl:k1=x.Af.length:=by omega
 subst hkl
 have hres:=LP x
 refine W.exit ?_
 refine Zw ?_
 refine W.ret (Zq ?_)
 simp[f377,hres]
theorem PD (x:AG) (hz:x.sz≤134217728) (h:HP):CS cx.P 377 [.d (x.dd false)] h (dI' ((szX x:Nat):Int)) h:=fQ x hz (fun y hy h=>PD y (by have h1:=Ae AG.sz hy;have h2:=x.sz_eq;unfold szs at h2;omega) h) (fun a ha h=>PD a.Ab (by have h1:=Ae Ac.sz ha;have h2:=x.sz_eq;have h3:=a.sz_eq;unfold szs at h2;omega) h) h
termination_by SizeOf.sizeOf x
decreasing_by
 ·have:=List.sizeOf_lt_of_mem hy;have:=x.lt_fArgs;omega
 ·have:=List.sizeOf_lt_of_mem ha;have:=x.lt_fArms;have:=a.lt_fBody;omega
def EI:BA':=⟨#[43,45,42,60,61]⟩
def ixO (n:Int):Int:=Lib.indexByte EI.data.toList n.toNat.toUInt8
theorem Qz:∀k:Fin 256,(-1≤ixO (k.val:Int)∧ixO (k.val:Int)<5)∧decide (0≤ixO (k.val:Int))=B7 D5 ⟨#[UInt8.ofNat k.val]⟩:=by decide+kernel
theorem Kw {s:BA'} (h:B7 D5 s=true):s.size=1:=by
 unfold B7 D5 at h
 simp at h
 rcases h with h|h|h|h|h<;>subst h<;>rfl
theorem f4 {s:BA'} (h:s.size=1):s=⟨#[UInt8.ofNat (bt s 0)]⟩:=by
 cases s with
 |mk d=>
  have h1:d.size=1:=h
  have h2:d= #[d[0]]:=by
   refine Array.ext (by simp[h1]) fun i h3 h4=> ?_
   have:i=0:=by omega
   subst this;simp
  have h3:bt ⟨d⟩ 0=d[0].toNat:=by
   unfold bt
   simp[Array.getD_eq_getD_getElem?,Array.getElem?_eq_getElem (show 0<d.size by omega)]
  rw[h3,UInt8.ofNat_toNat]
  exact congrArg ByteArray.mk h2
theorem T7 {s:BA'} (h:s.size=1):decide (0≤ixO ((bt s 0:Nat):Int))=B7 D5 s:=by
 have:=(Qz ⟨bt s 0,cp s 0⟩).2
 rw[←f4 h] at this
 exact this
theorem PC (k:Fin 256) (h:HP):CS cx.P 452 [dS' EI,.d (.lf (.int .u8 (k.val:Int)))] h (dI' (ixO (k.val:Int))) h:=by
 refine CS.ofVal (c:=cx) (args:=[.lf (.string EI),.lf (.int .u8 (k.val:Int))]) (v:=.int .i64 (ixO (k.val:Int))) (fun w F=>⟨?_,rfl⟩) (fun w vs ⟨F,_,_,hl,hv⟩=> ?_) h
 ·have:=(Qz k).1
  simp only[rp,BK,RK,RJ]
  exact⟨trivial,by omega,trivial⟩
 ·obtain⟨c0,h0,e0⟩:=hv 0 _ rfl
  obtain⟨c1,h1,e1⟩:=hv 1 _ rfl
  simp only[DD.vw,rp] at h0 h1
  obtain⟨rfl, -⟩:=h0
  obtain⟨rfl, -⟩:=h1
  match vs,hl,e0,e1 with
  |[a,b],_,e0,e1=>
   simp[DD.mk] at e0 e1
   subst e0;subst e1
   refine(Vp EI (k.val:Int) w).mono fun e w' ⟨h1,h2⟩=>⟨h1,?_⟩
   subst h2;exact Below.refl _ _
theorem dt (s:BA') (hs:s.size=1) (h:HP):CS cx.P 451 [dS' EI,dS' s] h (dI' (ixO ((bt s 0:Nat):Int))) h:=by
 refine Ze func451 rfl 143 ?_
 refine Zw ?_
 refine Zw ?_
 refine Zb ?_
 refine W.seq ?_
 refine W.regJ0 (D:=_) rfl fun _ K hD hK=> ?_
 iterate 3 (refine Zo ?_;simp)
 refine WL.split 19 _ rfl (fun g19=> ?_) fun g19=> ?_<;>try simp at g19
 simp
 iterate 3 (refine ZN' ?_;simp)
 iterate 2 (refine Zo ?_;simp)
 refine WL.nil (hK _ ?_)
 refine W.condT rfl trivial ?_
 refine Zw ?_
 refine W.ret (Zq ?_)
 first|(exfalso;rw[g19] at hs;revert hs;decide)|simp[f451]
 simp
 iterate 3 (refine ZG' ?_;simp)
 iterate 2 (refine Zo ?_;simp)
 refine WL.nil (hK _ ?_)
 refine Zc rfl ?_ ?_<;>intro hb0<;>try simp at hb0
 exfalso
 subst hb0
 revert hs
 decide
 refine Zw ?_
 refine Zc rfl ?_ ?_<;>intro hb1<;>try simp at hb1
 apply Zr;intros
 iterate 3 (refine Zo ?_;simp)
 refine Zl [] rfl func452 (PC ⟨bt s 0,cp s 0⟩ _) ?_;simp
 refine Zo ?_;simp
 exact Zx
 refine W.ret (Zq ?_)
 first|(exfalso;rw[g19] at hs;revert hs;decide)|simp[f451]
 exfalso;omega
theorem YZ (s:BA') (hs:s.size=1) (h:HP):CS cx.P 450 [dS' EI,dS' s] h (dI' (ixO ((bt s 0:Nat):Int))) h:=by
 refine Ze func450 rfl 8 ?_
 refine Zw ?_
 apply Zr;intros
 iterate 2 (refine Zo ?_;simp)
 refine Zl [] rfl func451 (dt s hs _) ?_;simp
 refine Zo ?_;simp
 exact Zx
 refine W.ret (Zq ?_)
 simp[f450]
theorem lA (s:BA') (hs:s.size=1) (h:HP):CS cx.P 449 [dS' EI,dS' s] h (dB' (B7 D5 s)) h:=by
 have hp:=T7 hs
 refine Ze func449 rfl 9 ?_
 refine Zw ?_
 apply Zr;intros
 iterate 2 (refine Zo ?_;simp)
 refine Zl [] rfl func450 (YZ s hs _) ?_;simp
 iterate 2 (refine Zo ?_;simp)
 exact Zx
 refine W.ret (Zq ?_)
 simp[f449,hp]
theorem fI (s:BA') (_:s.size≤134217728) (h:HP):CS cx.P 445 [dS' s] h (dB' (B7 D5 s)) h:=by
 refine Ze func445 rfl 10 ?_
 apply Zr;intros
 refine Zo ?_ (by simp[EI]<;>omega);simp[EI]
 exact Zx
 refine W.seq ?_
 refine W.regJ0 (D:=_) rfl fun _ K hD hK=> ?_
 iterate 4 (refine Zo ?_ (by simp[EI]<;>omega);simp[EI])
 refine WL.split 6 _ rfl (fun g6=> ?_) fun g6=> ?_<;>try simp at g6
 simp[EI]
 refine ZG' ?_ (by simp[EI]<;>omega);simp[EI]
 refine Zk hD rfl rfl [] rfl func449 (lA s (by omega) _) ?_ (by simp[EI]);simp[EI]
 iterate 2 (refine Zo ?_ (by simp[EI]<;>omega);simp[EI])
 refine WL.nil (hK _ ?_)
 refine W.ret (Zq ?_)
 simp[f445]<;>(try (have:=Kw (s:=s);grind))
 simp[EI]
 iterate 2 (refine ZN' ?_;simp[EI])
 iterate 2 (refine Zo ?_ (by simp[EI]<;>omega);simp[EI])
 refine WL.nil (hK _ ?_)
 refine W.ret (Zq ?_)
 simp[f445]<;>(try (have:=Kw (s:=s);grind))
theorem fm (x:AG) (hz:x.sz≤134217728) (h:HP):CS cx.P 422 [.d (x.dd false)] h (dB' (iF0 x)) h:=by
 have hz2:=x.sz_eq;unfold szs at hz2
 have hac:=hZ x.AH
 refine Ze func422 rfl 131 ?_
 refine Zw ?_
 apply Zr;intros
 iterate 2 (refine Zo ?_;simp)
 refine Zl [] rfl func444 (gw x.AH _) ?_;simp
 iterate 5 (refine Zo ?_;simp)
 exact Zx
 refine W.seq ?_
 refine W.seq ?_
 refine W.regJ (D:=_) [1] [1] [(35,.d (.lf (.bool (!if1 x))))] [] rfl (fun _ K hD hK=> ?_) fun T hT=> ?_
 iterate 4 (refine Zo ?_;simp)
 refine WL.split 17 _ rfl (fun g17=> ?_) fun g17=> ?_<;>try simp at g17
 simp
 iterate 3 (refine ZN' ?_;simp)
 iterate 2 (refine Zo ?_;simp)
 iterate 5 (refine ZN' ?_;simp)
 iterate 2 (refine Zo ?_;simp)
 iterate 5 (refine ZN' ?_;simp)
 refine Zo ?_;simp
 refine WL.nil (hK _ (Wz.to rfl rfl rfl ?_))
 simp[if1,Ap,g17]<;>first|omega|grind
 simp
 iterate 3 (refine ZG' ?_;simp)
 iterate 2 (refine Zo ?_;simp)
 refine WL.split 22 _ rfl (fun g22=> ?_) fun g22=> ?_<;>try simp at g22
 simp
 iterate 5 (refine ZN' ?_;simp)
 iterate 2 (refine Zo ?_;simp)
 iterate 5 (refine ZN' ?_;simp)
 refine Zo ?_;simp
 refine WL.nil (hK _ (Wz.to rfl rfl rfl ?_))
 simp[if1,Ap,g17,g22]<;>first|omega|grind
 simp
 iterate 5 (refine ZG' ?_;simp)
 iterate 2 (refine Zo ?_;simp)
 refine WL.split 29 _ rfl (fun g29=> ?_) fun g29=> ?_<;>try simp at g29
 simp
 iterate 5 (refine ZN' ?_;simp)
 refine Zo ?_;simp
 refine WL.nil (hK _ (Wz.to rfl rfl rfl ?_))
 simp[if1,Ap,g17,g22,g29]<;>first|omega|grind
 simp
 iterate 5 (refine ZG' ?_;simp)
 refine Zo ?_;simp
 refine WL.nil (hK _ (Wz.to rfl rfl rfl ?_))
 simp[if1,Ap,g17,g22,g29]<;>first|omega|grind
 simp at hT;subst hT
 refine Zc rfl ?_ ?_<;>intro hb0<;>try simp at hb0
 have hres:iF0 x=false:=by unfold iF0;rw[show if1 x=false by simpa using hb0];simp
 refine Zw ?_
 refine W.ret (Zq ?_)
 simp[f422,hres]<;>grind
 have h1:if1 x=true:=by simpa using hb0
 refine W.skip ?_
 apply Yr rfl;intro K hK
 iterate 8 (refine Yo ?_;simp)
 exact DL.nil rfl hK
 refine W.seq ?_
 refine Zw ?_
 refine W.join [1] [1] [(5,.d (.lf (.bool (ifT x)))),(6,.d (.lf (.bool (ifN x))))] [] ?_ fun T hT=> ?_
 refine W.block ?_
 refine W.seq ?_
 refine Zw ?_
 refine Zc rfl ?_ ?_<;>intro hb1<;>try simp at hb1
 refine W.skip ?_
 refine W.condT (by simp[hb1]) trivial ?_
 apply Zs;intros
 iterate 2 (refine Zo ?_;simp)
 refine Zl [] rfl func145 (CW x.A5 (by omega) _) ?_;simp
 refine Zo ?_;simp
 exact Zx
 refine Wz.to rfl rfl rfl ?_
 simp[ifT,ifN,Fe,hb0,hb1]
 refine Zw ?_
 refine Zc rfl ?_ ?_<;>intro hb2<;>try simp at hb2
 refine W.skip ?_
 refine W.condT (by simp[hb2]) trivial ?_
 apply Zs;intros
 iterate 2 (refine Zo ?_;simp)
 refine Zl [] rfl func145 (CW x.A5 (by omega) _) ?_;simp
 refine Zo ?_;simp
 exact Zx
 refine Wz.to rfl rfl rfl ?_
 simp[ifT,ifN,Fe,hb0,hb1,hb2]
 refine Zw ?_
 refine Zc rfl ?_ ?_<;>intro hb3<;>try simp at hb3
 refine W.skip ?_
 refine W.condT (by simp[hb3]) trivial ?_
 apply Zs;intros
 iterate 2 (refine Zo ?_;simp)
 refine Zl [] rfl func145 (CW x.A5 (by omega) _) ?_;simp
 refine Zo ?_;simp
 exact Zx
 refine Wz.to rfl rfl rfl ?_
 simp[ifT,ifN,Fe,hb0,hb1,hb2,hb3]
 apply Zs;intros
 iterate 2 (refine Zo ?_;simp)
 exact Zx
 refine Zc rfl ?_ ?_<;>intro hb4<;>try simp at hb4
 apply Zs;intros
 iterate 2 (refine Zo ?_;simp)
 refine Zl [] rfl func145 (CW x.A5 (by omega) _) ?_;simp
 refine Zo ?_;simp
 exact Zx
 refine Wz.to rfl rfl rfl ?_
 simp[ifT,ifN,Fe,hb0,hb1,hb2,hb3,hb4]
 refine Zw ?_
 refine Zc rfl ?_ ?_<;>intro hb5<;>try simp at hb5
 apply W.regSD rfl;intro K hK
 iterate 2 (refine Yo ?_;simp)
 refine Yl [] rfl func145 (CW x.AK (by omega)) ?_;simp
 iterate 2 (refine Yo ?_;simp)
 refine Yl [] rfl func145 (CW x.A5 (by omega)) ?_;simp
 iterate 2 (refine Yo ?_;simp)
 exact DL.nil rfl hK
 refine Wz.to rfl rfl rfl ?_
 simp[ifT,ifN,Fe,hb0,hb1,hb2,hb3,hb4,hb5]
 refine Zw ?_
 refine Zc rfl ?_ ?_<;>intro hb6<;>try simp at hb6
 apply Zs;intros
 iterate 2 (refine Zo ?_;simp)
 refine Zl [] rfl func445 (fI x.A5 (by omega) _) ?_;simp
 refine Zo ?_;simp
 exact Zx
 refine Wz.to rfl rfl rfl ?_
 simp[ifT,ifN,Fe,hb0,hb1,hb2,hb3,hb4,hb5,hb6]
 refine Zw ?_
 refine Zc rfl ?_ ?_<;>intro hb7<;>try simp at hb7
 apply Zs;intros
 iterate 2 (refine Zo ?_;simp)
 refine Zl [] rfl func145 (CW x.AK (by omega) _) ?_;simp
 refine Zo ?_;simp
 exact Zx
 refine Wz.to rfl rfl rfl ?_
 simp[ifT,ifN,Fe,hb0,hb1,hb2,hb3,hb4,hb5,hb6,hb7]
 refine W.skip ?_
 refine Wz.to rfl rfl rfl ?_
 simp[ifT,ifN,Fe,hb0,hb1,hb2,hb3,hb4,hb5,hb6,hb7]
 simp at hT;subst hT
 refine Zw ?_
 refine W.seq ?_
 refine Zw ?_
 refine W.join [1,5,6] [1] [(7,.d (.lf (.bool (ifI x))))] [] ?_ fun T hT=> ?_
 refine W.block ?_
 refine Zw ?_
 refine Zc rfl ?_ ?_<;>intro hb8<;>try simp at hb8
 refine W.regJ0 (D:=_) rfl fun _ K hD hK=> ?_
 iterate 4 (refine Zo ?_;simp)
 refine WL.split 80 _ rfl (fun g80=> ?_) fun g80=> ?_<;>try simp at g80
 simp
 iterate 3 (refine ZG' ?_;simp)
 iterate 2 (refine Zo ?_;simp)
 refine WL.nil (hK _ ?_)
 refine Wz.to rfl rfl rfl ?_
 simp[ifI,Ap,hb0,hb8,g80]<;>first|omega|grind
 simp
 iterate 3 (refine ZN' ?_;simp)
 iterate 2 (refine Zo ?_;simp)
 refine WL.nil (hK _ ?_)
 refine Wz.to rfl rfl rfl ?_
 simp[ifI,Ap,hb0,hb8,g80]<;>first|omega|grind
 refine Zw ?_
 refine Zc rfl ?_ ?_<;>intro hb9<;>try simp at hb9
 refine W.regJ0 (D:=_) rfl fun _ K hD hK=> ?_
 iterate 4 (refine Zo ?_;simp)
 refine WL.split 90 _ rfl (fun g90=> ?_) fun g90=> ?_<;>try simp at g90
 simp
 iterate 3 (refine ZN' ?_;simp)
 iterate 2 (refine Zo ?_;simp)
 refine WL.nil (hK _ ?_)
 refine Wz.to rfl rfl rfl ?_
 simp[ifI,Ap,hb0,hb8,hb9,g90]<;>first|omega|grind
 simp
 iterate 3 (refine ZG' ?_;simp)
 iterate 2 (refine Zo ?_;simp)
 refine WL.nil (hK _ ?_)
 refine Wz.to rfl rfl rfl ?_
 simp[ifI,Ap,hb0,hb8,hb9,g90]<;>first|omega|grind
 refine W.skip ?_
 refine Wz.to rfl rfl rfl ?_
 simp[ifI,Ap,hb0,hb8,hb9]<;>first|omega|grind
 simp at hT;subst hT
 refine W.seq ?_
 refine W.seq ?_
 refine W.regDJ (D:=_) rfl [1,5,6,7] [1] [(113,.d (.lf (.bool (ifY x))))] [] rfl (fun K hD hK=> ?_) fun T hT=> ?_
 iterate 5 (refine Yo ?_;simp)
 refine Yl [] rfl func229 (Nq x.AM) ?_;simp
 iterate 3 (refine Yo ?_;simp)
 refine DL.split 103 _ rfl (fun g103=> ?_) fun g103=> ?_<;>try simp at g103
 simp
 iterate 9 (refine Yn hD rfl rfl ?_;simp)
 refine Yo ?_;simp
 refine DL.nil rfl (hK _ (Wz.to rfl rfl rfl ?_))
 simp[ifY,g103]<;>grind
 simp
 iterate 4 (refine Yg hD rfl rfl ?_;simp)
 refine DL.split 107 _ rfl (fun g107=> ?_) fun g107=> ?_<;>try simp at g107
 simp
 iterate 2 (refine Yg hD rfl rfl ?_;simp)
 refine Yk hD rfl rfl [] rfl func315 (Hu x.AM (by omega)) ?_;simp
 iterate 2 (refine Yg hD rfl rfl ?_;simp)
 refine Yo ?_;simp
 refine DL.nil rfl (hK _ (Wz.to rfl rfl rfl ?_))
 simp[ifY,g103,g107]<;>grind
 simp
 iterate 4 (refine Yn hD rfl rfl ?_;simp)
 refine Yg hD rfl rfl ?_;simp
 refine Yo ?_;simp
 refine DL.nil rfl (hK _ (Wz.to rfl rfl rfl ?_))
 simp[ifY,g103,g107]<;>grind
 simp at hT;subst hT
 refine Zc rfl ?_ ?_<;>intro hb10<;>try simp at hb10
 have hres:iF0 x=false:=by unfold iF0;rw[show ifY x=true by simpa using hb10];simp
 refine Zw ?_
 refine W.ret (Zq ?_)
 simp[f422,hres]<;>grind
 have h2:ifY x=false:=by simpa using hb10
 have hres:iF0 x=(ifT x && ifN x && ifI x && (decide (x.AH=7)==decide (0<x.Af.length))):=by unfold iF0;rw[h1,h2];simp
 refine W.skip ?_
 refine W.seq ?_
 refine W.regJ0 (D:=_) rfl fun _ K hD hK=> ?_
 iterate 2 (refine Zo ?_;simp)
 refine WL.split 115 _ rfl (fun g115=> ?_) fun g115=> ?_<;>try simp at g115
 simp
 refine ZG' ?_;simp
 iterate 2 (refine Zo ?_;simp)
 refine WL.split 118 _ rfl (fun g118=> ?_) fun g118=> ?_<;>try simp at g118
 simp
 refine ZG' ?_;simp
 iterate 2 (refine Zo ?_;simp)
 refine WL.split 121 _ rfl (fun g121=> ?_) fun g121=> ?_<;>try simp at g121
 simp
 iterate 8 (refine ZG' ?_;simp)
 iterate 2 (refine Zo ?_;simp)
 refine WL.nil (hK _ ?_)
 refine W.ret (Zq ?_)
 simp[f422,hres,g115,g118,g121]<;>grind
 simp
 iterate 8 (refine ZN' ?_;simp)
 iterate 2 (refine Zo ?_;simp)
 refine WL.nil (hK _ ?_)
 refine W.ret (Zq ?_)
 simp[f422,hres,g115,g118,g121]<;>grind
 simp
 refine ZN' ?_;simp
 iterate 2 (refine Zo ?_;simp)
 iterate 8 (refine ZN' ?_;simp)
 iterate 2 (refine Zo ?_;simp)
 refine WL.nil (hK _ ?_)
 refine W.ret (Zq ?_)
 simp[f422,hres,g115,g118]<;>grind
 simp
 refine ZN' ?_;simp
 iterate 2 (refine Zo ?_;simp)
 refine ZN' ?_;simp
 iterate 2 (refine Zo ?_;simp)
 iterate 8 (refine ZN' ?_;simp)
 iterate 2 (refine Zo ?_;simp)
 refine WL.nil (hK _ ?_)
 refine W.ret (Zq ?_)
 simp[f422,hres,g115]<;>grind
theorem d5 (x:AG) (hc:∀h,CS cx.P 378 [.d (x.dd false)] h (dB' (iF x)) h) (h:HP):CS cx.P 424 [.d (x.dd false)] h (dB' (!iF x)) h:=by
 refine Ze func424 rfl 6 ?_
 refine Zw ?_
 apply Zr;intros
 refine Zo ?_;simp
 refine Zl [] rfl func378 (hc _) ?_;simp
 iterate 2 (refine Zo ?_;simp)
 exact Zx
 refine W.ret (Zq ?_)
 simp[f424]
theorem i6 (x:Ac) (hz:x.sz≤134217728) (hc:∀h,CS cx.P 378 [.d (x.Ab.dd false)] h (dB' (iF x.Ab)) h) (h:HP):CS cx.P 426 [.d (x.dd false)] h (dB' (!iFa x)) h:=by
 have hz2:=x.sz_eq;unfold szs at hz2
 have hvs:∀s∈x.Aa,s.size≤134217728:=fun s hs=>by have:=Ae ByteArray.size hs;omega
 refine Ze func426 rfl 19 ?_
 refine Zw ?_
 refine W.seq ?_
 refine W.regJ0 (D:=_) rfl fun _ K hD hK=> ?_
 iterate 2 (refine Zo ?_;simp)
 refine Zl [] rfl func145 (CW x.AZ (by omega) _) ?_;simp
 iterate 2 (refine Zo ?_;simp)
 refine WL.split 7 _ rfl (fun g7=> ?_) fun g7=> ?_<;>try simp at g7
 simp
 iterate 4 (refine ZN' ?_;simp)
 iterate 2 (refine Zo ?_;simp)
 iterate 4 (refine ZN' ?_;simp)
 iterate 2 (refine Zo ?_;simp)
 refine WL.nil (hK _ ?_)
 refine W.ret (Zq ?_)
 simp[f426,PE,g7]<;>grind
 simp
 iterate 2 (refine ZG' ?_;simp)
 refine Zk hD rfl rfl [] rfl func146 (GH x.Aa hvs (by omega) _) ?_;simp
 refine ZG' ?_;simp
 iterate 2 (refine Zo ?_;simp)
 refine WL.split 13 _ rfl (fun g13=> ?_) fun g13=> ?_<;>try simp at g13
 simp
 iterate 4 (refine ZN' ?_;simp)
 iterate 2 (refine Zo ?_;simp)
 refine WL.nil (hK _ ?_)
 refine W.ret (Zq ?_)
 simp[f426,PE,g7,g13]<;>grind
 simp
 iterate 2 (refine ZG' ?_;simp)
 refine Zk hD rfl rfl [] rfl func378 (hc _) ?_;simp
 refine ZG' ?_;simp
 iterate 2 (refine Zo ?_;simp)
 refine WL.nil (hK _ ?_)
 refine W.ret (Zq ?_)
 simp[f426,PE,g7,g13]<;>grind
theorem kM (x:AG) (hz:x.sz≤134217728) (hc:∀y∈x.AB,∀h,CS cx.P 378 [.d (y.dd false)] h (dB' (iF y)) h) (hc2:∀a∈x.Af,∀h,CS cx.P 378 [.d (a.Ab.dd false)] h (dB' (iF a.Ab)) h) (h:HP):CS cx.P 378 [.d (x.dd false)] h (dB' (iF x)) h:=by
 have hz2:=x.sz_eq;unfold szs at hz2
 refine Ze func378 rfl 15 ?_
 refine Zw ?_
 refine W.seq ?_
 refine W.seq ?_
 refine W.regJ (D:=_) [1] [1] [(10,.d (.lf (.bool (!(iF0 x && !(x.AB.any fun y=> !iF y))))))] [] rfl (fun _ K hD hK=> ?_) fun T hT=> ?_
 refine Zo ?_;simp
 refine Zl [] rfl func422 (fm x hz _) ?_;simp
 iterate 2 (refine Zo ?_;simp)
 refine WL.split 6 _ rfl (fun g6=> ?_) fun g6=> ?_<;>try simp at g6
 simp
 iterate 3 (refine ZN' ?_;simp)
 refine Zo ?_;simp
 refine WL.nil (hK _ (Wz.to rfl rfl rfl ?_))
 simp[g6]<;>grind
 simp
 iterate 2 (refine ZG' ?_;simp)
 refine Zk hD rfl rfl [] rfl func423 (GQ x.AB (by omega) 424 f424 _ ⟨func424,rfl,rfl⟩ (fun y=> !iF y) (fun y hy h=>d5 y (hc y hy) h) _) ?_;simp
 refine Zo ?_;simp
 refine WL.nil (hK _ (Wz.to rfl rfl rfl ?_))
 simp[g6]<;>grind
 simp at hT;subst hT
 refine Zc rfl ?_ ?_<;>intro hb0<;>try simp at hb0
 have hres:iF x=false:=by rw[cQ];simp at hb0 ⊢;grind
 refine Zw ?_
 refine W.ret (Zq ?_)
 simp[f378,hres]
 have hres:iF x= !(x.Af.any fun y=> !iFa y):=by rw[cQ];simp at hb0 ⊢;grind
 refine W.skip ?_
 apply Zr;intros
 iterate 2 (refine Zo ?_;simp)
 refine Zl [] rfl func425 (HU x.Af (by omega) 426 f426 _ ⟨func426,rfl,rfl⟩ (fun y=> !iFa y) (fun y hy h=>i6 y (by have:=Ae Ac.sz hy;omega) (hc2 y hy) h) _) ?_;simp
 iterate 2 (refine Zo ?_;simp)
 exact Zx
 refine W.ret (Zq ?_)
 simp[f378,hres]
theorem Vk (x:AG) (hz:x.sz≤134217728) (h:HP):CS cx.P 378 [.d (x.dd false)] h (dB' (iF x)) h:=kM x hz (fun y hy h=>Vk y (by have h1:=Ae AG.sz hy;have h2:=x.sz_eq;unfold szs at h2;omega) h) (fun a ha h=>Vk a.Ab (by have h1:=Ae Ac.sz ha;have h2:=x.sz_eq;have h3:=a.sz_eq;unfold szs at h2;omega) h) h
termination_by SizeOf.sizeOf x
decreasing_by
 ·have:=List.sizeOf_lt_of_mem hy;have:=x.lt_fArgs;omega
 ·have:=List.sizeOf_lt_of_mem ha;have:=x.lt_fArms;have:=a.lt_fBody;omega
theorem TB (x:AG) (hz:x.sz≤134217728) (h:HP):CS cx.P 320 [.d (x.dd false)] h (dB' (exV x)) h:=by
 refine Ze func320 rfl 10 ?_
 refine Zw ?_
 refine W.seq ?_
 refine W.regJ0 (D:=_) rfl fun _ K hD hK=> ?_
 refine Zo ?_;simp
 refine Zl [] rfl func377 (PD x hz _) ?_;simp
 iterate 2 (refine Zo ?_;simp)
 refine WL.split 6 _ rfl (fun g6=> ?_) fun g6=> ?_<;>try simp at g6
 simp
 refine ZG' ?_;simp
 refine Zk hD rfl rfl [] rfl func378 (Vk x hz _) ?_;simp
 iterate 2 (refine Zo ?_;simp)
 refine WL.nil (hK _ ?_)
 refine W.ret (Zq ?_)
 simp[f320,WP,g6]<;>omega
 simp
 iterate 2 (refine ZN' ?_;simp)
 iterate 2 (refine Zo ?_;simp)
 refine WL.nil (hK _ ?_)
 refine W.ret (Zq ?_)
 simp[f320,WP,g6]<;>omega
theorem Ut (N:Nat) (ii:∀(k:Int) (n:BA') (l:List A0) (k2:Int) (n2:BA') (l2:List A0) (s:List A6),Ct cx 448 [.d (uK k n l),.d (uK k2 n2 l2),.d (.sl true BB ((s).map (A6.dd true)))] (AR (⟨k,n,l⟩:A0)<N∧A0.wd (⟨k2,n2,l2⟩:A0)∧bOk s (AR (⟨k,n,l⟩:A0))) (mtR (mtT (⟨k,n,l⟩:A0) (⟨k2,n2,l2⟩:A0) s))):∀(p a:List A0) (s:List A6),Ct cx 443 [.d (.sl false Ai ((p).map (A0.dd false))),.d (.sl false Ai ((a).map (A0.dd false))),.d (.sl true BB ((s).map (A6.dd true)))] (Ag p<N∧p.length=a.length∧(∀y∈a,y.wd)∧bOk s (Ag p)) (mtR (DJ p a s)):=fun p a s=>by
 refine Xi func443 35 [.tmp 6,.tmp 7] [17,26,28,32,33,34] [26] AN (@Na) ?_;intro hp h M G H E
 have gx:∀k (hk:k<p.length),AR p[k]<N:=fun k hk=>by have:=Bo hk;have:=hp.1;omega
 have hr1:=@Bw;have hr2:=CB;replace H:=AI hr1 (AI hr2 H)
 have hlen:=hp.2.1
 repeat' (first|(refine iT ?_;refine XkB 7 ?_)|(refine RTW.mk ?_;refine GN ?_)|(refine iWL ?_;refine Cs M ?_)|(refine iDL ?_;refine CE M ?_)|(refine IN.mk ?_;intros)|(refine iTw ?_;refine T2 ?_ ?_<;>((try clear H);intro hb H)<;>try (first|exact hb.elim|(exfalso;omega)))|(refine LF.mk ?_;exact LX)|refine GN ?_|(refine XL [0,1] [] (fun k0 _=>[(8,dI' k0),(2,.d (.sl true BB (((mtK p a s k0)).map (A6.dd true))))]) (fun _ _=>[]) (p.length) (fun k0 _=>mtI p a s k0) rU ?_ (i0:=Nb p a s);intro k0 hk0 s0 hi0;by_cases hkk:k0<p.length;rotate_left;have hme:=Qt hlen hi0 (by omega);replace H:=AI hme H;rotate_left;(have hka:k0<a.length:=by omega);have hok:=VU hi0 hkk hp.2.2.1 hp.2.2.2;have hwk:=hp.2.2.1 _ (gm hka);have hsk:=gx k0 hkk;replace H:=AI hok (AI hwk (AI hsk H));rcases hq:mtT p[k0] a[k0] (mtK p a s k0) with _|s1<;>replace H:=AI hq H;have hno:=VV hlen hi0 hkk hq;replace H:=AI hno H;rotate_left;have hye:=Qs hlen hi0 hkk hq;replace H:=AI hye.2 H;have hi1:=hye.1;rotate_left)|fail)
theorem jq:∀(N:Nat),∀(k:Int) (n:BA') (l:List A0) (k2:Int) (n2:BA') (l2:List A0) (s:List A6),Ct cx 448 [.d (uK k n l),.d (uK k2 n2 l2),.d (.sl true BB ((s).map (A6.dd true)))] (AR (⟨k,n,l⟩:A0)<N∧A0.wd (⟨k2,n2,l2⟩:A0)∧bOk s (AR (⟨k,n,l⟩:A0))) (mtR (mtT (⟨k,n,l⟩:A0) (⟨k2,n2,l2⟩:A0) s)):=by
 intro N
 induction N with
 |zero=>intro k n l k2 n2 l2 s;exact⟨fk1 func448,fun hp=>absurd hp.1 (Nat.not_lt_zero _)⟩
 |succ N ih=>
 intro k n l k2 n2 l2 s
 have jj:=Ut N ih
 refine Xi func448 63 [.tmp 6,.tmp 7] [13,18,21,25,54,59,61] [59] AN trivial ?_;intro hp h M G H E
 have he:=VT ⟨k,n,l⟩ ⟨k2,n2,l2⟩ s;simp only at he
 have hsl:Ag l<N:=by have:=BG ⟨k,n,l⟩;have:=hp.1;simp only at*;omega
 have hwm:=Bj hp.2.1;have hbs:=hp.2.2.1;have hbl:=hp.2.2.2;have hb2:bOk s (Ag l):=⟨hbs,by have:=BG ⟨k,n,l⟩;simp only at*;omega⟩;replace H:=AI hsl (AI hwm (AI hb2 (AI hbs H)))
 have hr1:=@Bw;have hr2:=CB;replace H:=AI hr1 (AI hr2 H)
 rcases hq:DJ l l2 s with _|s1<;>replace H:=AI hq H
 repeat' (first|exact true|(refine iT ?_;refine XkB 7 ?_)|(refine RTW.mk ?_;refine GN ?_)|(refine iWL ?_;refine Cs M ?_)|(refine iDL ?_;refine CE M ?_)|(refine IN.mk ?_;intros)|(refine iTw ?_;refine T2 ?_ ?_<;>((try clear H);intro hb H)<;>try exact hb.elim)|(refine LF.mk ?_;exact LX)|refine BO.mk ?_ ?_|(apply iPJ;exact NPJ)|apply PXs.of|refine GN ?_)
instance jp (p a:List A0) (s:List A6):Ct cx 443 [.d (.sl false Ai ((p).map (A0.dd false))),.d (.sl false Ai ((a).map (A0.dd false))),.d (.sl true BB ((s).map (A6.dd true)))] (p.length=a.length∧(∀y∈a,y.wd)∧bOk s (Ag p)) (mtR (DJ p a s)):=⟨fk1 func443,fun hp h=>(Ut _ (jq _) p a s).cs ⟨Nat.lt_succ_self _,hp⟩ h⟩
instance sMt0 (p a:List A0):Ct cx 443 [.d (.sl false Ai ((p).map (A0.dd false))),.d (.sl false Ai ((a).map (A0.dd false))),.d (.sl true BB [])] (p.length=a.length∧(∀y∈a,y.wd)∧bOk [] (Ag p)) (mtR (DJ p a [])):=⟨(jp p a []).ok,fun hp h=>by have q:=(jp p a []).cs hp h;first|exact q|simpa using q⟩
instance eN (p a:List A0):Ct cx 413 [.d (.sl false Ai ((p).map (A0.dd false))),.d (.sl false Ai ((a).map (A0.dd false)))] ((∀y∈a,y.wd)∧Ag p≤134217728) (.tp [.d (.sl true BB ((((FF p a []).getD [])).map (A6.dd true))),dB' ((FF p a []).isSome)]):=by
 refine Xi func413 25 [.tmp 4,.tmp 5] [14,17,19,24] [17] AN (@FF.eq_1) ?_;intro hp h M G H E
 have hr1:=@Bw;have hr2:=CB;replace H:=AI hr1 (AI hr2 H)
 have hb0:=Ru hp.2;have hwa:=hp.1;replace H:=AI hb0 (AI hwa H)
 rcases hq:DJ p a [] with _|s1<;>replace H:=AI hq H
 all_goals exact GA6
instance sOrph (w:A1) (o:A3):Ct cx 65 [.d (Au w),.d (FU o)] (w.sz≤134217728∧inR w o) (dB' (Fc w o)):=by
 refine Xi func65 42 [.tmp 4] [] [] AN (@Fc.eq_1) ?_;intro hp h M G H E
 have hip:=hp.2;replace H:=AI hip H
 all_goals exact GA1
instance od (s:BA'):Ct cx 236 [dS' s] (True) (dB' (Cq s)):=⟨fk1 func236,fun hp h=>by have q:=EL s h;first|exact q|simpa using q⟩
instance iDyn (w:A1) (v:List Nat) (s:BA'):Ct cx 238 [.d (.st [Au w,.sl false .one (v.map dN)]),dS' s] (w.sz≤134217728) (dI' (ckD w v s)):=by
 refine Xi func238 18 [.tmp 4] [] [] AN (@ckD.eq_1) ?_;intro hp h M G H E
 have ht:=EV w
 all_goals exact GA0
instance iOwn (w:A1) (v:List Nat) (k:Int) (s:BA') (l:List A0):Ct cx 157 [.d (.st [Au w,.sl false .one (v.map dN)]),.d (uK k s l)] (w.sz≤134217728) (dI' (ckH w v k s l.length)):=by
 refine Xi func157 54 [.tmp 4] [] [] AN (@ckH.eq_1) ?_;intro hp h M G H E
 all_goals exact GA0
