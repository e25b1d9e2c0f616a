/- Part 31. No condition. -/
import Derived.Test.YtgihkamifpmfdaaGreatDoorM26
import Derived.Test.YtgihkamifpmfdaaGreatDoorM28
import Derived.Test.YtgihkamifpmfdaaGreatDoorM30
namespace Go.Proofs.YtgihkamifpmfdaaGreatDoor
open Go.RowKit Tryz
set_option linter.unusedVariables false
set_option maxRecDepth 10000
set_option linter.unusedSimpArgs false
set_option maxHeartbeats 4000000
def eqT (x y:A0):Bool:=decide (x=y)
def eqG (x y:A9):Bool:=decide (x=y)
theorem Kf (x y:A0):eqT x y=(decide (x.AH=y.AH) && decide (x.A5=y.A5) && decide (x.AB=y.AB)):=by
  unfold eqT;rw[Bool.eq_iff_iff];cases x;cases y;simp[and_assoc]
theorem LI (x y:A9):eqG x y=(decide (x.AK=y.AK) && eqT x.AM y.AM):=by
  unfold eqG eqT;rw[Bool.eq_iff_iff];cases x;cases y;simp
theorem L1 {α:Type} [DecidableEq α] {l m:List α} (h:¬l.length=m.length):decide (l=m)=false:=decide_eq_false fun e=>h (by rw[e])
def drE {α:Type} [DecidableEq α] (l m:List α) (k:Nat):Bool:=decide (l.drop k=m.drop k)
theorem Ea {α:Type} [DecidableEq α] {l m:List α} {k:Nat} (h:k<l.length) (h2:k<m.length):drE l m k=(decide (l[k]=m[k]) && drE l m (k+1)):=by
  unfold drE;rw[Bool.eq_iff_iff,List.drop_eq_getElem_cons h,List.drop_eq_getElem_cons h2];simp only[decide_eq_true_eq,Bool.and_eq_true,List.cons.injEq]
theorem Db {α:Type} [DecidableEq α] {l m:List α} {k:Nat} (h:l.length≤k) (h2:m.length≤k):drE l m k=true:=by
  unfold drE;rw[List.drop_eq_nil_of_le h,List.drop_eq_nil_of_le h2];simp
theorem Yx (n:Nat) (ii:∀(k1:Int) (n1:BA') (l1:List A0) (k2:Int) (n2:BA') (l2:List A0),Ct cx 209 [.d (uK k1 n1 l1),.d (uK k2 n2 l2)] (AR (⟨k1,n1,l1⟩:A0)<n) (dB' (eqT (⟨k1,n1,l1⟩:A0) (⟨k2,n2,l2⟩:A0)))) (l m:List A0) (hl:Ag l<n) (h:HP):CS cx.P 298 [.d (.sl false Ai ((l).map (A0.dd false))),.d (.sl false Ai ((m).map (A0.dd false)))] h (dB' (decide (l=m))) h:=by
 have gx:=@Bo
 refine Xe func298 rfl 27 [.tmp 4] ?_
 let M:List Nat:=[]
 let G:List Nat:=[]
 have H:=AN
 repeat' (first|refine GO ?_|(refine Two.mk ?_ ?_<;>intro hb<;>(try simp at hb)<;>(try norm_cast at hb)<;>try replace H:=HN hb H)|(refine RG.mk ?_;(try clear hK hD);first|intro _ K hD hK|intro K hD hK)|(refine RF.mk ?_;intro hr)|(refine LF.mk ?_;(try clear hK hD);first|rfl|(simp[L1, *];done)|(simp_all [L1];done)|grind [L1]))
 have hlp:LF (l.length=m.length):=⟨‹_›⟩;clear ‹l.length=m.length›
 refine W.loopR [0,1] [] (fun k0 _=>[(5,dI' k0)]) (fun _ _=>[]) (l.length) (fun k0 _=>decide (l=m)=drE l m k0) (fun S=>()) rfl (by simp) (by first|trivial|rfl|(simp;done)|(simp[Ea,Db,eqT];done)|(simp_all [Ea,Db,eqT];done)) ?_
 intro k0 hk0 s0 hi0 T hT;simp at hT;subst hT
 have hlq:k0<l.length→k0<m.length:=fun h=>by have:=hlp.r;omega
 have hlr:l.length≤k0→m.length≤k0:=fun h=>by have:=hlp.r;omega
 replace H:=AI hlq H
 repeat' (first|refine GO ?_|(refine Two.mk ?_ ?_<;>intro hb<;>(try simp at hb)<;>(try norm_cast at hb)<;>try replace H:=HN hb H)|(refine RG.mk ?_;(try clear hK hD);first|intro _ K hD hK|intro K hD hK)|(refine RF.mk ?_;intro hr)|(refine LF.mk ?_;(try clear hK hD);first|rfl|(simp[Ea,Db,eqT, *];done)|(simp_all [Ea,Db,eqT];done)|grind [Ea,Db,eqT]))
theorem eQ:∀(n:Nat) (x y:A0),AR x<n→∀h:HP,CS cx.P 209 [.d ((x).dd false),.d ((y).dd false)] h (dB' (eqT x y)) h:=by
 intro n
 induction n with
 |zero=>intro x y hx;omega
 |succ n ih=>
 intro x y hx h
 have hsx:Ag x.AB<n:=by have:=BG x;omega
 have ii:∀(k1:Int) (n1:BA') (l1:List A0) (k2:Int) (n2:BA') (l2:List A0),Ct cx 209 [.d (uK k1 n1 l1),.d (uK k2 n2 l2)] (AR (⟨k1,n1,l1⟩:A0)<n) (.d (.lf (.bool (eqT (⟨k1,n1,l1⟩:A0) (⟨k2,n2,l2⟩:A0))))):=fun k1 n1 l1 k2 n2 l2=>⟨fk1 func209,fun hp h=>by have q:=ih (⟨k1,n1,l1⟩:A0) (⟨k2,n2,l2⟩:A0) hp h;first|exact q|simpa using q⟩
 have ij:∀l m:List A0,Ct cx 298 [.d (.sl false Ai ((l).map (A0.dd false))),.d (.sl false Ai ((m).map (A0.dd false)))] (Ag l<n) (.d (.lf (.bool (decide (l=m))))):=fun l m=>⟨fk1 func298,fun hl h=>by have q:=Yx n ii l m hl h;first|exact q|simpa using q⟩
 refine Xe func209 rfl 24 [.tmp 4] ?_
 let M:List Nat:=[]
 let G:List Nat:=[]
 have H:=AN
 repeat' (first|refine GO ?_|(refine Two.mk ?_ ?_<;>intro hb<;>(try simp at hb)<;>(try norm_cast at hb)<;>try replace H:=HN hb H)|(refine RG.mk ?_;(try clear hK hD);first|intro _ K hD hK|intro K hD hK)|(refine RF.mk ?_;intro hr)|(refine LF.mk ?_;(try clear hK hD);first|rfl|(simp[Kf, *];done)|(simp_all [Kf];done)|grind [Kf]))
instance nZ (k1:Int) (n1:BA') (l1:List A0) (k2:Int) (n2:BA') (l2:List A0):Ct cx 209 [.d (uK k1 n1 l1),.d (uK k2 n2 l2)] True (dB' (eqT (⟨k1,n1,l1⟩:A0) (⟨k2,n2,l2⟩:A0))):=⟨fk1 func209,fun _ h=>by have q:=eQ _ (⟨k1,n1,l1⟩:A0) (⟨k2,n2,l2⟩:A0) (Nat.lt_succ_self _) h;first|exact q|simpa using q⟩
theorem nc (a b:A9) (h:HP):CS cx.P 139 [.d ((a).dd false),.d ((b).dd false)] h (dB' (eqG a b)) h:=by
 refine Xe func139 rfl 17 [.tmp 4] ?_
 let M:List Nat:=[]
 let G:List Nat:=[]
 have H:=AN
 repeat' (first|refine GO ?_|(refine Two.mk ?_ ?_<;>intro hb<;>(try simp at hb)<;>(try norm_cast at hb)<;>try replace H:=HN hb H)|(refine RG.mk ?_;(try clear hK hD);first|intro _ K hD hK|intro K hD hK)|(refine RF.mk ?_;intro hr)|(refine LF.mk ?_;(try clear hK hD);first|rfl|(simp[LI, *];done)|(simp_all [LI];done)|grind [LI]))
instance na (s1 s2:BA') (k1:Int) (n1:BA') (l1:List A0) (k2:Int) (n2:BA') (l2:List A0):Ct cx 139 [.d (.st [.lf (.string s1),uK k1 n1 l1]),.d (.st [.lf (.string s2),uK k2 n2 l2])] True (dB' (eqG (⟨s1,⟨k1,n1,l1⟩⟩:A9) (⟨s2,⟨k2,n2,l2⟩⟩:A9))):=⟨fk1 func139,fun _ h=>by have q:=nc (⟨s1,⟨k1,n1,l1⟩⟩:A9) (⟨s2,⟨k2,n2,l2⟩⟩:A9) h;first|exact q|simpa using q⟩
theorem Er (m:List A0) (s:List A6):DJ [] m s=some s:=by cases m<;>simp[DJ]
def mtK (p a:List A0) (s:List A6) (k:Nat):List A6:=(DJ (p.take k) (a.take k) s).getD []
theorem Na (p a:List A0) (s:List A6):mtK p a s 0=s:=by simp[mtK,Er]
theorem JZ:∀(p1 a1 p2 a2:List A0) (s:List A6),p1.length=a1.length→DJ (p1++p2) (a1++a2) s=(DJ p1 a1 s).bind (fun s1=>DJ p2 a2 s1)
 |[],[],p2,a2,s,_=>by simp[Er]
 |x::p1,y::a1,p2,a2,s,h=>by
  simp only[List.cons_append,DJ]
  cases mtT x y s with
  |none=>rfl
  |some s1=>exact JZ p1 a1 p2 a2 s1 (by simpa using h)
 |[],_::_,_,_,_,h=>by simp at h
 |_::_,[],_,_,_,h=>by simp at h
def mtI (p a:List A0) (s:List A6) (k:Nat):Prop:=DJ (p.take k) (a.take k) s=some (mtK p a s k)
theorem Nb (p a:List A0) (s:List A6):mtI p a s 0:=by simp[mtI,mtK,Er]
theorem Nf {p a:List A0} {s:List A6} {k:Nat} (hl:p.length=a.length) (h:mtI p a s k) (hk:k<p.length):DJ (p.take (k+1)) (a.take (k+1)) s=mtT p[k] (a[k]'(by omega)) (mtK p a s k):=by
 rw[Y' hk,Y' (show k<a.length by omega),JZ _ _ _ _ _ (by simp;omega),h,Option.bind_some]
 simp only[DJ]
 cases mtT p[k] (a[k]'(by omega)) (mtK p a s k)<;>simp[Er]
theorem Qs {p a:List A0} {s s1:List A6} {k:Nat} (hl:p.length=a.length) (h:mtI p a s k) (hk:k<p.length) (e:mtT p[k] (a[k]'(by omega)) (mtK p a s k)=some s1):mtI p a s (k+1)∧mtK p a s (k+1)=s1:=by
 have h1:=Nf hl h hk
 rw[e] at h1
 have h2:mtK p a s (k+1)=s1:=by unfold mtK;rw[h1];rfl
 exact⟨by unfold mtI;rw[h1,h2],h2⟩
theorem VV {p a:List A0} {s:List A6} {k:Nat} (hl:p.length=a.length) (h:mtI p a s k) (hk:k<p.length) (e:mtT p[k] (a[k]'(by omega)) (mtK p a s k)=none):DJ p a s=none:=by
 have h1:=Nf hl h hk
 rw[e] at h1
 have h2:=JZ (p.take (k+1)) (a.take (k+1)) (p.drop (k+1)) (a.drop (k+1)) s (by simp;omega)
 rw[List.take_append_drop,List.take_append_drop,h1] at h2
 simpa using h2
theorem Qt {p a:List A0} {s:List A6} {k:Nat} (hl:p.length=a.length) (h:mtI p a s k) (hk:p.length≤k):DJ p a s=some (mtK p a s k):=by
 unfold mtI at h
 rwa [List.take_of_length_le hk,List.take_of_length_le (by omega)] at h
theorem VT (x t:A0) (s:List A6):mtT x t s=if x.AH=1 then (if (lkB s x.A5).isSome=true then (if eqT ((lkB s x.A5).getD zT) t=true then some s else none) else some (s++[⟨x.A5,t⟩]))
  else if x.AH=t.AH∧x.A5=t.A5∧x.AB.length=t.AB.length then DJ x.AB t.AB s else none:=by
 obtain⟨k,n,l⟩:=x
 simp only[mtT]
 by_cases hk:k=1
 ·simp only[if_pos hk]
  cases h:lkB s n<;>simp[eqT]
 ·simp only[if_neg hk]
mutual
theorem Cn:∀x:A0,AR x≤1+x.sz
 |⟨_,_,l⟩=>by simp only[AR,A0.sz];have:=Kj l;omega
theorem Kj:∀l:List A0,Ag l≤l.length+A0.szLs l
 |[]=>by simp[Ag,A0.szLs]
 |x::l=>by simp only[Ag,A0.szLs,List.length_cons];have:=Cn x;have:=Kj l;omega
end
def bOk (s:List A6) (n:Nat):Prop:=(∀b∈s,b.AM.wd)∧s.length+n≤134217728
mutual
theorem f6:∀(x t:A0) (s s1:List A6) (n:Nat),t.wd→bOk s (n+AR x)→mtT x t s=some s1→bOk s1 n
 |⟨k,m,l⟩,t,s,s1,n,ht,hs,h=>by
  simp only[mtT] at h
  simp only[AR] at hs
  split at h
  ·split at h
   ·split at h
    ·cases h;exact⟨hs.1,by have:=hs.2;omega⟩
    ·cases h
   ·cases h
    refine⟨fun b hb=> ?_,by have:=hs.2;simp;omega⟩
    rcases List.mem_append.1 hb with hb|hb
    ·exact hs.1 b hb
    ·simp only[List.mem_singleton] at hb;subst hb;exact ht
  ·split at h
   ·exact Ly l t.AB s s1 n (Bj ht) ⟨hs.1,by have:=hs.2;omega⟩ h
   ·cases h
theorem Ly:∀(l m:List A0) (s s1:List A6) (n:Nat),(∀y∈m,y.wd)→bOk s (n+Ag l)→DJ l m s=some s1→bOk s1 n
 |x::l,y::m,s,s1,n,hm,hs,h=>by
  simp only[DJ] at h
  simp only[Ag] at hs
  cases hq:mtT x y s with
  |none=>rw[hq] at h;cases h
  |some s2=>
   rw[hq] at h
   exact Ly l m s2 s1 n (fun z hz=>hm z (by simp[hz])) (f6 x y s s2 (n+Ag l) (hm y (by simp)) ⟨hs.1,by have:=hs.2;omega⟩ hq) h
 |[],m,s,s1,n,_,hs,h=>by
  rw[Er] at h;cases h;exact⟨hs.1,by have:=hs.2;omega⟩
 |_::_,[],s,s1,n,_,hs,h=>by
  simp[DJ] at h;subst h;exact⟨hs.1,by have:=hs.2;omega⟩
end
theorem VU {p a:List A0} {s:List A6} {k:Nat} (h:mtI p a s k) (hk:k<p.length) (ha:∀y∈a,y.wd) (hs:bOk s (Ag p)):bOk (mtK p a s k) (AR p[k]):=by
 refine Ly (p.take k) (a.take k) s _ _ (fun y hy=>ha y (List.mem_of_mem_take hy)) ⟨hs.1,?_⟩ h
 have h3:=Bk (p.take (k+1)) (p.drop (k+1))
 rw[List.take_append_drop,Y' hk,Bk] at h3
 simp only[Ag] at h3
 have:=hs.2;omega
def mtR (s:Option (List A6)):AV:=match s with
 |some s=> .tp [.d (.sl true BB (s.map (A6.dd true))),.d (.lf (.bool true))]
 |none=> .tp [.un,.d (.lf (.bool false))]
theorem Bw (s:List A6):mtR (some s)=.tp [.d (.sl true BB (s.map (A6.dd true))),dB' true]:=rfl
theorem CB:mtR none=.tp [.un,dB' false]:=rfl
def FF (p a:List A0) (s:List A6):Option (List A6):=if p.length=a.length then DJ p a s else none
theorem L0 (p a:A0):FF [p] [a] []=mtc p a:=by
 simp only[FF,mtc,DJ,List.length_singleton]
 cases mtT p a []<;>simp
theorem Ru {n:Nat} (h:n≤134217728):bOk [] n:=⟨by simp,by simpa using h⟩
theorem Nh {p t:A0}:mtB p t=(mtc p t).isSome:=rfl
theorem ZJ (x t:A0) (s:List A6):mtT x t s=if x.AH=1 then (if (lkB s x.A5).isSome=true then (if eqT ((lkB s x.A5).getD zT) t=true then some s else none) else some (s++[⟨x.A5,t⟩]))
  else if x.AH=t.AH∧x.A5=t.A5 then FF x.AB t.AB s else none:=by
 rw[VT]
 by_cases h1:x.AH=1
 ·simp[h1]
 ·simp only[if_neg h1]
  by_cases h2:x.AH=t.AH∧x.A5=t.A5
  ·rw[if_pos h2];unfold FF;obtain⟨ha,hb⟩:=h2;simp[ha,hb]
  ·rw[if_neg h2,if_neg (fun h=>h2 ⟨h.1,h.2.1⟩)]
def H5 (l:List A9) (b:A9):Bool:=l.any fun x=>eqG x b
def bhK (l:List A9) (b:A9) (k:Nat):Bool:=H5 (l.take k) b
theorem Ob (l:List A9) (b:A9):bhK l b 0=false:=by simp[bhK,H5]
theorem XK {l:List A9} {k:Nat} (b:A9) (h:k<l.length):bhK l b (k+1)=(bhK l b k||eqG l[k] b):=by
 unfold bhK H5;rw[Y' h,List.any_append];simp
theorem Iv {l:List A9} {k:Nat} (b:A9) (h:l.length≤k):bhK l b k=H5 l b:=by unfold bhK;rw[List.take_of_length_le h]
def pj1 (k:Int) (n:BA') (l:List A0) (o:List A9):List A9:=if h:k=3∧0<l.length then (if H5 o ⟨n,l[0]'h.2⟩=true then o else o++[⟨n,l[0]'h.2⟩]) else o
mutual
def pjT:A0→List A9→List A9
 |⟨k,n,l⟩,o=>Hh l (pj1 k n l o)
def Hh:List A0→List A9→List A9
 |[],o=>o
 |x::l,o=>Hh l (pjT x o)
end
theorem Qf {k:Int} {n:BA'} {l:List A0} {o:List A9} (h:k=3) (hl:0<l.length) (e:H5 o ⟨n,l[0]⟩=true):pj1 k n l o=o:=by
 unfold pj1;rw[dif_pos ⟨h,hl⟩,if_pos e]
theorem Qg {k:Int} {n:BA'} {l:List A0} {o:List A9} (h:k=3) (hl:0<l.length) (e:H5 o ⟨n,l[0]⟩=false):pj1 k n l o=o++[⟨n,l[0]⟩]:=by
 unfold pj1;rw[dif_pos ⟨h,hl⟩,if_neg (by rw[e];decide)]
theorem VC {k:Int} {n:BA'} {l:List A0} {o:List A9} (h:¬(k=3∧0<l.length)):pj1 k n l o=o:=by
 unfold pj1;rw[dif_neg h]
theorem Gt (k:Int) (n:BA') (l:List A0) (o:List A9):(pj1 k n l o).length≤o.length+1:=by
 unfold pj1
 split
 ·split<;>simp
 ·omega
mutual
theorem Qd:∀(x:A0) (o:List A9),(pjT x o).length≤o.length+AR x
 |⟨k,n,l⟩,o=>by
  have h1:=Em l (pj1 k n l o)
  have h2:=Gt k n l o
  simp only[pjT,AR];omega
theorem Em:∀(l:List A0) (o:List A9),(Hh l o).length≤o.length+Ag l
 |[],o=>by simp[Hh]
 |x::l,o=>by
  have h1:=Em l (pjT x o)
  have h2:=Qd x o
  simp only[Hh,Ag];omega
end
def pjK (l:List A0) (o:List A9) (k:Nat):List A9:=Hh (l.take k) o
theorem VB (l:List A0) (o:List A9):pjK l o 0=o:=by simp[pjK,Hh]
theorem NS:∀(a b:List A0) (o:List A9),Hh (a++b) o=Hh b (Hh a o)
 |[],_,_=>rfl
 |x::a,b,o=>by simp only[List.cons_append,Hh,NS a b]
theorem P4 {l:List A0} {o:List A9} {k:Nat} (h:k<l.length):pjT l[k] (pjK l o k)=pjK l o (k+1):=by
 unfold pjK;rw[Y' h,NS];rfl
theorem Lp {k0:Int} {n:BA'} {l:List A0} {o:List A9} {k:Nat} (h:l.length≤k):pjK l (pj1 k0 n l o) k=pjT ⟨k0,n,l⟩ o:=by unfold pjK;rw[List.take_of_length_le h];simp only[pjT]
theorem JO {l:List A0} {o:List A9} {k:Nat} (h:k<l.length):(pjK l o k).length+AR l[k]≤o.length+Ag l:=by
 have h1:=Em (l.take k) o
 have h3:=Bk (l.take (k+1)) (l.drop (k+1))
 rw[List.take_append_drop,Y' h,Bk] at h3
 simp only[Ag] at h3
 unfold pjK;omega
def ER (x:AJ):Bool:=(pjT x.B4 []).all fun b=>H5 x.Ah b
def ctK (x:A8) (k:Nat):List BA':=(x.AE.take k).flatMap fun d=>d.A4.map AA.A5
def ctD (x:A8) (k:Nat) (d:AF) (j:Nat):List BA':=ctK x k++Ep d.A4 AA.A5 j
theorem Wp (x:A8):ctK x 0=[]:=rfl
theorem Wr (x:A8) (k:Nat) (d:AF):ctD x k d 0=ctK x k:=by unfold ctD;rw[Hi,List.append_nil]
theorem Ws {x:A8} {k:Nat} {d:AF} {j:Nat} (h:j<d.A4.length):(ctD x k d j).map dS++[.lf (.string d.A4[j].A5)]=(ctD x k d (j+1)).map dS:=by
 unfold ctD;rw[List.map_append,List.append_assoc,Hj AA.A5 h,List.map_append]
theorem Wt {x:A8} {k:Nat} (h:k<x.AE.length):ctD x k x.AE[k] x.AE[k].A4.length=ctK x (k+1):=by
 unfold ctD ctK;rw[Y' h,List.flatMap_append,Eo];simp
theorem Fv:∀l:List AF,(l.flatMap fun d=>d.A4.map AA.A5).length≤szL AF.sz l
 |[]=>by simp
 |d::l=>by
  have h1:=Fv l
  have h2:=d.sz_eq
  unfold szs at h2
  simp only[List.flatMap_cons,List.length_append,List.length_map,szL];omega
theorem af {x:A8} {k:Nat} (h:k<x.AE.length) {j:Nat} (hj:j≤x.AE[k].A4.length):(ctD x k x.AE[k] j).length≤szL AF.sz x.AE:=by
 have h1:=Fv (x.AE.take (k+1))
 have h2:=E7 AF.sz x.AE (k+1)
 rw[Y' h,List.flatMap_append] at h1
 rw[Y' h] at h2
 simp only[List.length_append,List.flatMap_cons,List.flatMap_nil,List.append_nil,List.length_map] at h1
 unfold ctD ctK
 rw[List.length_append,Ff _ hj];omega
theorem ae (x:A8) (k:Nat):(ctK x k).length≤szL AF.sz x.AE:=Nat.le_trans (Fv _) (E7 AF.sz x.AE k)
def C7 (x:A8):List BA':=x.AE.flatMap fun d=>d.A4.map AA.A5
theorem Wq (x:A8):ctK x x.AE.length=C7 x:=by unfold ctK C7;rw[List.take_length]
def F3 (x:A8):Bool:= !(x.Aj.any fun t=> !DC t) && !(x.AE.any fun d=> !D3 d) && !(x.AQ.any fun i=> !instOk i) && !(x.Ad.any fun g=> !O4 g)
def pk1 (x:A8):Bool:=BV x.A5 && CV x.Ba 5 && !B7 x.Ba x.A5 && decide (x.Aj.length+x.AE.length+x.AQ.length+x.Ad.length≤24)
def pk2 (x:A8):Bool:=dst (x.Aj.map AU.A5) && dst (x.AE.map AF.A5) && dst (C7 x) && dst (x.Ad.map AL.A5)
def DS (x:A8):Bool:=pk1 x && pk2 x && F3 x
theorem Zp (n:Nat) (ii:∀(k1:Int) (n1:BA') (l1:List A0) (k2:Int) (n2:BA') (l2:List A0),Ct cx 333 [.d (uK k1 n1 l1),.d (uK k2 n2 l2)] (AR (⟨k1,n1,l1⟩:A0)<n) (dB' (eqT (⟨k1,n1,l1⟩:A0) (⟨k2,n2,l2⟩:A0)))) (l m:List A0) (hl:Ag l<n) (h:HP):CS cx.P 389 [.d (.sl false Ai ((l).map (A0.dd false))),.d (.sl false Ai ((m).map (A0.dd false))),.fn 333 []] h (dB' (decide (l=m))) h:=by
 have gx:=@Bo
 refine Xe func389 rfl 32 [.tmp 6] ?_
 let M:List Nat:=[21,25]
 let G:List Nat:=[]
 have H:=AN
 repeat' (first|refine GO ?_|(refine Two.mk ?_ ?_<;>intro hb<;>(try simp at hb)<;>(try norm_cast at hb)<;>try replace H:=HN hb H)|(refine RG.mk ?_;(try clear hK hD);first|intro _ K hD hK|intro K hD hK)|(refine RF.mk ?_;intro hr)|(refine LF.mk ?_;(try clear hK hD);first|rfl|(simp[L1, *];done)|(simp_all [L1];done)|grind [L1]))
 have hlp:LF (l.length=m.length):=⟨‹_›⟩;clear ‹l.length=m.length›
 refine W.loopR [1,2,15,16] [] (fun k0 _=>[(17,dI' k0)]) (fun _ _=>[]) (l.length) (fun k0 _=>decide (l=m)=drE l m k0) (fun S=>()) rfl (by simp) (by first|trivial|rfl|(simp;done)|(simp[Ea,Db,eqT];done)|(simp_all [Ea,Db,eqT];done)) ?_
 intro k0 hk0 s0 hi0 T hT;simp at hT;subst hT
 have hlq:k0<l.length→k0<m.length:=fun h=>by have:=hlp.r;omega
 have hlr:l.length≤k0→m.length≤k0:=fun h=>by have:=hlp.r;omega
 replace H:=AI hlq H
 repeat' (first|refine GO ?_|(refine Two.mk ?_ ?_<;>intro hb<;>(try simp at hb)<;>(try norm_cast at hb)<;>try replace H:=HN hb H)|(refine RG.mk ?_;(try clear hK hD);first|intro _ K hD hK|intro K hD hK)|(refine RF.mk ?_;intro hr)|(refine LF.mk ?_;(try clear hK hD);first|rfl|(simp[Ea,Db,eqT, *];done)|(simp_all [Ea,Db,eqT];done)|grind [Ea,Db,eqT]))
theorem fb:∀(n:Nat) (x y:A0),AR x<n→∀h:HP,CS cx.P 333 [.d ((x).dd false),.d ((y).dd false)] h (dB' (eqT x y)) h:=by
 intro n
 induction n with
 |zero=>intro x y hx;omega
 |succ n ih=>
 intro x y hx h
 have hsx:Ag x.AB<n:=by have:=BG x;omega
 have ii:∀(k1:Int) (n1:BA') (l1:List A0) (k2:Int) (n2:BA') (l2:List A0),Ct cx 333 [.d (uK k1 n1 l1),.d (uK k2 n2 l2)] (AR (⟨k1,n1,l1⟩:A0)<n) (.d (.lf (.bool (eqT (⟨k1,n1,l1⟩:A0) (⟨k2,n2,l2⟩:A0))))):=fun k1 n1 l1 k2 n2 l2=>⟨fk1 func333,fun hp h=>by have q:=ih (⟨k1,n1,l1⟩:A0) (⟨k2,n2,l2⟩:A0) hp h;first|exact q|simpa using q⟩
 have ij:∀l m:List A0,Ct cx 389 [.d (.sl false Ai ((l).map (A0.dd false))),.d (.sl false Ai ((m).map (A0.dd false))),.fn 333 []] (Ag l<n) (.d (.lf (.bool (decide (l=m))))):=fun l m=>⟨fk1 func389,fun hl h=>by have q:=Zp n ii l m hl h;first|exact q|simpa using q⟩
 refine Xe func333 rfl 24 [.tmp 4] ?_
 let M:List Nat:=[]
 let G:List Nat:=[]
 have H:=AN
 repeat' (first|refine GO ?_|(refine Two.mk ?_ ?_<;>intro hb<;>(try simp at hb)<;>(try norm_cast at hb)<;>try replace H:=HN hb H)|(refine RG.mk ?_;(try clear hK hD);first|intro _ K hD hK|intro K hD hK)|(refine RF.mk ?_;intro hr)|(refine LF.mk ?_;(try clear hK hD);first|rfl|(simp[Kf, *];done)|(simp_all [Kf];done)|grind [Kf]))
instance oR (k1:Int) (n1:BA') (l1:List A0) (k2:Int) (n2:BA') (l2:List A0):Ct cx 333 [.d (uK k1 n1 l1),.d (uK k2 n2 l2)] True (dB' (eqT (⟨k1,n1,l1⟩:A0) (⟨k2,n2,l2⟩:A0))):=⟨fk1 func333,fun _ h=>by have q:=fb _ (⟨k1,n1,l1⟩:A0) (⟨k2,n2,l2⟩:A0) (Nat.lt_succ_self _) h;first|exact q|simpa using q⟩
theorem oT (a b:A9) (h:HP):CS cx.P 254 [.d ((a).dd false),.d ((b).dd false)] h (dB' (eqG a b)) h:=by
 refine Xe func254 rfl 17 [.tmp 4] ?_
 let M:List Nat:=[]
 let G:List Nat:=[]
 have H:=AN
 repeat' (first|refine GO ?_|(refine Two.mk ?_ ?_<;>intro hb<;>(try simp at hb)<;>(try norm_cast at hb)<;>try replace H:=HN hb H)|(refine RG.mk ?_;(try clear hK hD);first|intro _ K hD hK|intro K hD hK)|(refine RF.mk ?_;intro hr)|(refine LF.mk ?_;(try clear hK hD);first|rfl|(simp[LI, *];done)|(simp_all [LI];done)|grind [LI]))
instance oS (s1 s2:BA') (k1:Int) (n1:BA') (l1:List A0) (k2:Int) (n2:BA') (l2:List A0):Ct cx 254 [.d (.st [.lf (.string s1),uK k1 n1 l1]),.d (.st [.lf (.string s2),uK k2 n2 l2])] True (dB' (eqG (⟨s1,⟨k1,n1,l1⟩⟩:A9) (⟨s2,⟨k2,n2,l2⟩⟩:A9))):=⟨fk1 func254,fun _ h=>by have q:=oT (⟨s1,⟨k1,n1,l1⟩⟩:A9) (⟨s2,⟨k2,n2,l2⟩⟩:A9) h;first|exact q|simpa using q⟩
theorem fR (w:A1) (B:Nat) (hB:B≤134217728):∀(n:Nat) (s:BA') (out:List BA'),SP w B n s out→∀h:HP,CS cx.P 166 [.d ((w).dd false),.d (.sl true .one ((out).map (dS))),dS' s] h (.d (.sl true .one (((He w (Al w s) out)).map (dS)))) h:=by
 intro n
 induction n with
 |zero=>intro s out hx;obtain⟨m,hm, -⟩:=hx;omega
 |succ n ih=>
 intro s out hx h
 have ii:∀(s:BA') (out:List BA'),Ct cx 166 [.d (Au w),.d (.sl true .one ((out).map (dS))),.d (.lf (.string (s)))] (SP w B n s out) (.d (.sl true .one (((He w (Al w s) out)).map (dS)))):=fun s out=>⟨fk1 func166,fun hp h=>by have q:=ih s out hp h;first|exact q|simpa using q⟩
 have hst:=SP.start hx
 have hsu:∀s,(trR w s).1.Aq=Al w s:=fun _=>rfl
 have ij:∀(s:BA') (o:List BA') (z:BA'),Ct cx 166 [.d (Au w),.d (.sl true .one (o.map dS++[.lf (.string z)])),.d (.lf (.string (s)))] (SP w B n s (o++[z])) (.d (.sl true .one (((He w (Al w s) (o++[z]))).map (dS)))):=fun s o z=>⟨fk1 func166,fun hp h=>by have q:=ih s (o++[z]) hp h;simpa[dS] using q⟩
 refine Xe func166 rfl 39 [.tmp 6] ?_
 let M:List Nat:=[31,34,38]
 let G:List Nat:=[34]
 have H:=AN
 replace H:=AI hsu H
 repeat' (first|refine GO ?_|(refine Two.mk ?_ ?_<;>intro hb<;>(try simp at hb)<;>(try norm_cast at hb)<;>try replace H:=HN hb H)|(refine RG.mk ?_;(try clear hK hD);first|intro _ K hD hK|intro K hD hK)|(refine RF.mk ?_;intro hr)|(refine LF.mk ?_;(try clear hK hD);first|rfl|(simp[*];done)|(simp_all;done)|grind))
 refine W.loopR [3,20,21] [3] (fun k0 s0=>[(22,dI' k0),(1,.d (.sl true .one ((s0).map (dS))))]) (fun _ _=>[]) ((Al w s).length) (fun k0 s0=>SI w B n (Al w s) (He w (Al w s) out) k0 s0) (fun S=>bC (S.tm 1)) rfl (by simp) (by simpa using hst) ?_
 · intro k0 hk0 s0 hi0 T hT;simp at hT;subst hT
   have hln:=hi0.len
   by_cases hkk:k0<(Al w s).length
   rotate_left
   have hen:=hi0.end (by omega);replace H:=AI hen H
   rotate_left
   have hha:=hi0.has hkk;have hno:=hi0.not hkk;have hn1:=fun e=>(hno e).1;have hn2:=fun e=>(hno e).2;replace H:=AI hn1 (AI hn2 (AI hha H))
   all_goals repeat' (first|refine GO ?_|(refine Two.mk ?_ ?_<;>intro hb<;>(try simp at hb)<;>(try norm_cast at hb)<;>try replace H:=HN hb H)|(refine RG.mk ?_;(try clear hK hD);first|intro _ K hD hK|intro K hD hK)|(refine RF.mk ?_;intro hr)|(refine LF.mk ?_;(try clear hK hD);first|rfl|(simp[*];done)|(simp_all;done)|grind))
def VA (y:A0) (o:List A9):List A9:=pj1 y.AH y.A5 y.AB o
mutual
theorem MJ:∀(x:A0) (o:List A9),ev VA x o=pjT x o
 |⟨k,n,l⟩,o=>by simp only[ev,RY l,pjT,VA]
theorem RY:∀(l:List A0) (o:List A9),evs VA l o=Hh l o
 |[],o=>rfl
 |x::l,o=>by simp only[evs,Hh,MJ x,RY l]
end
theorem Z7 (y:A0) (o:List A9):(VA y o).length≤o.length+1:=Gt _ _ _ _
theorem a7 (l:List A9) (g:A9):(l.any fun y=>eqG y g)=H5 l g:=rfl
instance oN (t:AU) (x:AJ):Ct cx 92 [.d (KQ t),.d (E6 x)] (t.sz≤134217728) (dI' (if Cy t x then 0 else 6)):=by
 refine Xi func92 64 [.tmp 4] [20,48] [] AN (AI @Ja<|AI @m1.eq_1<|AI @m2.eq_1<|AI @Bc<|@BM) ?_;intro hp h M G H E
 have hsw:=@QD t hp;replace H:=AI hsw H
 repeat' (first|exact true|(refine IN.mk ?_;intros)|(refine iTw ?_;refine T2 ?_ ?_<;>((try clear H);intro hb H)<;>try exact hb.elim)|(refine LF.mk ?_;exact LX)|refine BO.mk ?_ ?_|(apply iPJ;exact NPJ)|apply PXs.of|refine GN ?_|(refine XC [2,3,15,16] [2,3] 17 (x.Ar.length) (fun k0=>(x.Ar.all (m1 t))=(x.Ar.drop k0).all (m1 t)) ?_;intro k0 hk0 hi0)|(refine XC [3,43,44] [3] 45 (t.AW.length) (fun k1=>x.Ar.all (m1 t)=true∧t.AW.all (m2 x)=(t.AW.drop k1).all (m2 x)) ?_;intro k1 hk1 hi1)|fail)
