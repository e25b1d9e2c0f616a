/- Part 32. No condition. -/
import Derived.Test.YtdooklofebdknaaGreatM31
namespace Go.Proofs.YtdooklofebdknaaGreat
open Go.RowKit Tryz
set_option linter.unusedVariables false
set_option maxRecDepth 10000
set_option linter.unusedSimpArgs false
set_option maxHeartbeats 4000000
theorem Eo (m:List A0) (s:List A5):DI [] m s=some s:=by cases m<;>simp[DI]
def mtK (p a:List A0) (s:List A5) (k:Nat):List A5:=(DI (p.take k) (a.take k) s).getD []
theorem ND (p a:List A0) (s:List A5):mtK p a s 0=s:=by simp[mtK,Eo]
theorem JG:∀(p1 a1 p2 a2:List A0) (s:List A5),p1.length=a1.length→DI (p1++p2) (a1++a2) s=(DI p1 a1 s).bind (fun s1=>DI p2 a2 s1)
 |[],[],p2,a2,s,_=>by simp[Eo]
 |x::p1,y::a1,p2,a2,s,h=>by
  simp only[List.cons_append,DI]
  cases mtT x y s with
  |none=>rfl
  |some s1=>exact JG p1 a1 p2 a2 s1 (by simpa using h)
 |[],_::_,_,_,_,h=>by simp at h
 |_::_,[],_,_,_,h=>by simp at h
def mtI (p a:List A0) (s:List A5) (k:Nat):Prop:=DI (p.take k) (a.take k) s=some (mtK p a s k)
theorem NE (p a:List A0) (s:List A5):mtI p a s 0:=by simp[mtI,mtK,Eo]
theorem NF {p a:List A0} {s:List A5} {k:Nat} (hl:p.length=a.length) (h:mtI p a s k) (hk:k<p.length):DI (p.take (k+1)) (a.take (k+1)) s=mtT p[k] (a[k]'(by omega)) (mtK p a s k):=by
 rw[Y' hk,Y' (show k<a.length by omega),JG _ _ _ _ _ (by simp;omega),h,Option.bind_some]
 simp only[DI]
 cases mtT p[k] (a[k]'(by omega)) (mtK p a s k)<;>simp[Eo]
theorem QT {p a:List A0} {s s1:List A5} {k:Nat} (hl:p.length=a.length) (h:mtI p a s k) (hk:k<p.length) (e:mtT p[k] (a[k]'(by omega)) (mtK p a s k)=some s1):mtI p a s (k+1)∧mtK p a s (k+1)=s1:=by
 have h1:=NF hl h hk
 rw[e] at h1
 have h2:mtK p a s (k+1)=s1:=by unfold mtK;rw[h1];rfl
 exact⟨by unfold mtI;rw[h1,h2],h2⟩
theorem Uw {p a:List A0} {s:List A5} {k:Nat} (hl:p.length=a.length) (h:mtI p a s k) (hk:k<p.length) (e:mtT p[k] (a[k]'(by omega)) (mtK p a s k)=none):DI p a s=none:=by
 have h1:=NF hl h hk
 rw[e] at h1
 have h2:=JG (p.take (k+1)) (a.take (k+1)) (p.drop (k+1)) (a.drop (k+1)) s (by simp;omega)
 rw[List.take_append_drop,List.take_append_drop,h1] at h2
 simpa using h2
theorem QU {p a:List A0} {s:List A5} {k:Nat} (hl:p.length=a.length) (h:mtI p a s k) (hk:p.length≤k):DI p a s=some (mtK p a s k):=by
 unfold mtI at h
 rwa [List.take_of_length_le hk,List.take_of_length_le (by omega)] at h
theorem Uu (x t:A0) (s:List A5):mtT x t s=if x.AH=1 then (if (lkB s x.A6).isSome=true then (if eqT ((lkB s x.A6).getD zT) t=true then some s else none) else some (s++[⟨x.A6,t⟩]))
  else if x.AH=t.AH∧x.A6=t.A6∧x.AB.length=t.AB.length then DI x.AB t.AB s else none:=by
 obtain⟨k,n,l⟩:=x
 simp only[mtT]
 by_cases hk:k=1
 ·simp only[if_pos hk]
  cases h:lkB s n<;>simp[eqT]
 ·simp only[if_neg hk]
mutual
theorem Cm:∀x:A0,AQ x≤1+x.sz
 |⟨_,_,l⟩=>by simp only[AQ,A0.sz];have:=KO l;omega
theorem KO:∀l:List A0,Ae l≤l.length+A0.szLs l
 |[]=>by simp[Ae,A0.szLs]
 |x::l=>by simp only[Ae,A0.szLs,List.length_cons];have:=Cm x;have:=KO l;omega
end
def bOk (s:List A5) (n:Nat):Prop:=(∀b∈s,b.AM.wd)∧s.length+n≤134217728
mutual
theorem dP:∀(x t:A0) (s s1:List A5) (n:Nat),t.wd→bOk s (n+AQ x)→mtT x t s=some s1→bOk s1 n
 |⟨k,m,l⟩,t,s,s1,n,ht,hs,h=>by
  simp only[mtT] at h
  simp only[AQ] at hs
  split at h
  ·split at h
   ·split at h
    ·cases h;exact⟨hs.1,by have:=hs.2;omega⟩
    ·cases h
   ·cases h
    refine⟨fun b hb=> ?_,by have:=hs.2;simp;omega⟩
    rcases List.mem_append.1 hb with hb|hb
    ·exact hs.1 b hb
    ·simp only[List.mem_singleton] at hb;subst hb;exact ht
  ·split at h
   ·exact Lb l t.AB s s1 n (Bj ht) ⟨hs.1,by have:=hs.2;omega⟩ h
   ·cases h
theorem Lb:∀(l m:List A0) (s s1:List A5) (n:Nat),(∀y∈m,y.wd)→bOk s (n+Ae l)→DI l m s=some s1→bOk s1 n
 |x::l,y::m,s,s1,n,hm,hs,h=>by
  simp only[DI] at h
  simp only[Ae] at hs
  cases hq:mtT x y s with
  |none=>rw[hq] at h;cases h
  |some s2=>
   rw[hq] at h
   exact Lb l m s2 s1 n (fun z hz=>hm z (by simp[hz])) (dP x y s s2 (n+Ae l) (hm y (by simp)) ⟨hs.1,by have:=hs.2;omega⟩ hq) h
 |[],m,s,s1,n,_,hs,h=>by
  rw[Eo] at h;cases h;exact⟨hs.1,by have:=hs.2;omega⟩
 |_::_,[],s,s1,n,_,hs,h=>by
  simp[DI] at h;subst h;exact⟨hs.1,by have:=hs.2;omega⟩
end
theorem Uv {p a:List A0} {s:List A5} {k:Nat} (h:mtI p a s k) (hk:k<p.length) (ha:∀y∈a,y.wd) (hs:bOk s (Ae p)):bOk (mtK p a s k) (AQ p[k]):=by
 refine Lb (p.take k) (a.take k) s _ _ (fun y hy=>ha y (List.mem_of_mem_take hy)) ⟨hs.1,?_⟩ h
 have h3:=Bk (p.take (k+1)) (p.drop (k+1))
 rw[List.take_append_drop,Y' hk,Bk] at h3
 simp only[Ae] at h3
 have:=hs.2;omega
def mtR (s:Option (List A5)):AV:=match s with
 |some s=> .tp [.d (.sl true B9 (s.map (A5.dd true))),.d (.lf (.bool true))]
 |none=> .tp [.un,.d (.lf (.bool false))]
theorem Bw (s:List A5):mtR (some s)=.tp [.d (.sl true B9 (s.map (A5.dd true))),.d (.lf (.bool true))]:=rfl
theorem CB:mtR none=.tp [.un,.d (.lf (.bool false))]:=rfl
def FD (p a:List A0) (s:List A5):Option (List A5):=if p.length=a.length then DI p a s else none
theorem Ke (p a:A0):FD [p] [a] []=mtc p a:=by
 simp only[FD,mtc,DI,List.length_singleton]
 cases mtT p a []<;>simp
theorem RO {n:Nat} (h:n≤134217728):bOk [] n:=⟨by simp,by simpa using h⟩
theorem NG {p t:A0}:mtB p t=(mtc p t).isSome:=rfl
theorem YN (x t:A0) (s:List A5):mtT x t s=if x.AH=1 then (if (lkB s x.A6).isSome=true then (if eqT ((lkB s x.A6).getD zT) t=true then some s else none) else some (s++[⟨x.A6,t⟩]))
  else if x.AH=t.AH∧x.A6=t.A6 then FD x.AB t.AB s else none:=by
 rw[Uu]
 by_cases h1:x.AH=1
 ·simp[h1]
 ·simp only[if_neg h1]
  by_cases h2:x.AH=t.AH∧x.A6=t.A6
  ·rw[if_pos h2];unfold FD;obtain⟨ha,hb⟩:=h2;simp[ha,hb]
  ·rw[if_neg h2,if_neg (fun h=>h2 ⟨h.1,h.2.1⟩)]
theorem Dg {l:List ByteArray} {s:ByteArray}:B6 l s=true↔s∈l:=by unfold B6;simp
def unS (o:List ByteArray) (x:ByteArray):List ByteArray:=if B6 o x then o else o++[x]
def unO (o l:List ByteArray):List ByteArray:=l.foldl unS o
def unK (o l:List ByteArray) (k:Nat):List ByteArray:=unO o (l.take k)
theorem MY (o l:List ByteArray):unK o l 0=o:=by simp[unK,unO]
theorem LC {o l:List ByteArray} {k:Nat} (h:k<l.length):unK o l (k+1)=if B6 (unK o l k) l[k]=true then unK o l k else unK o l k++[l[k]]:=by
 unfold unK;rw[Y' h,unO,List.foldl_append];rfl
theorem LE {o l:List ByteArray} {k:Nat} (h:l.length≤k):unK o l k=unO o l:=by unfold unK;rw[List.take_of_length_le h]
theorem GM:∀(l o:List ByteArray),(unO o l).length≤o.length+l.length
 |[],o=>by simp[unO]
 |x::l,o=>by
  have h:=GM l (unS o x)
  have h2:(unS o x).length≤o.length+1:=by unfold unS;split<;>simp
  simp only[unO,List.foldl_cons,List.length_cons] at h ⊢;omega
theorem LD (o l:List ByteArray) (k:Nat):(unK o l k).length≤o.length+k:=by
 have:=GM (l.take k) o
 unfold unK;simp only[List.length_take] at this;omega
def unN (a b:List ByteArray):List ByteArray:=unO (unO [] a) b
theorem PY (a b:List ByteArray):(unN a b).length≤a.length+b.length:=by
 have h1:=GM a []
 have h2:=GM b (unO [] a)
 unfold unN;simp only[List.length_nil] at h1;omega
theorem PX:∀{l o:List ByteArray} {s:ByteArray},s∈unO o l↔s∈o∨s∈l
 |[],o,s=>by simp[unO]
 |x::l,o,s=>by
  have h:=@PX l (unS o x) s
  simp only[unO,List.foldl_cons] at h ⊢
  rw[h]
  unfold unS
  split
  ·rename_i e;have e:=Dg.1 e
   simp only[List.mem_cons];grind
  ·simp only[List.mem_append,List.mem_singleton,List.mem_cons];grind
def zit:Nat→ByteArray→ByteArray
 |0,s=>s
 |k+1,s=>zsf (zit k s)
theorem FM:∀(k:Nat) (s:ByteArray),(zit k s).size=s.size+k
 |0,s=>rfl
 |k+1,s=>by rw[zit,zsf,ByteArray.size_append,FM k s];rfl
theorem Ew:∀(k:Nat) (s:ByteArray),zit k (zsf s)=zit (k+1) s
 |0,s=>rfl
 |k+1,s=>by rw[zit,Ew k s];rfl
theorem fy (n:Nat) (s:ByteArray) (u:List ByteArray) (h:∀k,k<n→zit k s∈u):n≤u.length:=by
 have hn : ((List.range n).map fun k => zit k s).Nodup := List.pairwise_map.2 (List.nodup_range.imp fun {a b} hab e => hab (by
  have h2:=congrArg ByteArray.size e
  simp only[FM] at h2;omega))
 have := Bu (m := u) hn (fun x hx => by
  obtain⟨k,hk,rfl⟩:=List.mem_map.1 hx
  exact h k (List.mem_range.1 hk))
 simpa using this
theorem aD (u:List ByteArray) (s:ByteArray):∃k,k≤u.length∧B6 u (zit k s)=false:=by
 rcases Classical.em (∃k,k≤u.length∧B6 u (zit k s)=false) with h|h
 ·exact h
 ·have h2 := fy (u.length + 1) s u (fun k hk => by
   rcases hq:B6 u (zit k s) with _|_
   ·exact absurd ⟨k,by omega,hq⟩ h
   ·exact Dg.1 hq)
  omega
def zF (u:List ByteArray):Nat→ByteArray→Nat
 |0,_=>0
 |n+1,s=>if B6 u s then zF u n (zsf s)+1 else 0
theorem aG:∀{u:List ByteArray} {n:Nat} {s:ByteArray} {k:Nat},k<zF u n s→B6 u (zit k s)=true
 |u,0,s,k,h=>by exact absurd h (Nat.not_lt_zero _)
 |u,n+1,s,k,h=>by
  rw[zF] at h
  split at h
  ·rename_i e
   cases k with
   |zero=>exact e
   |succ k=>rw[←Ew];exact aG (n:=n) (by omega)
  ·omega
theorem aF:∀{u:List ByteArray} {n:Nat} {s:ByteArray} {k:Nat},k<n→B6 u (zit k s)=false→B6 u (zit (zF u n s) s)=false
 |u,0,s,k,h,_=>by omega
 |u,n+1,s,k,h,e=>by
  rw[zF]
  split
  ·rename_i e2
   cases k with
   |zero=>rw[zit] at e;rw[e] at e2;cases e2
   |succ k=>rw[←Ew];exact aF (k:=k) (by omega) (by rw[Ew];exact e)
  ·rename_i e2;simpa[zit] using e2
def zN (u:List ByteArray) (s:ByteArray):Nat:=zF u (u.length+1) s
theorem ML {u:List ByteArray} {s:ByteArray} {k:Nat} (h:k<zN u s):B6 u (zit k s)=true:=aG h
theorem T6 (u:List ByteArray) (s:ByteArray):B6 u (zit (zN u s) s)=false:=by
 obtain⟨k,h1,h2⟩:=aD u s
 exact aF (by omega) h2
theorem aE (u:List ByteArray) (s:ByteArray):zN u s≤u.length:=by
 obtain⟨k,h1,h2⟩:=aD u s
 rcases Nat.lt_or_ge k (zN u s) with h|h
 ·rw[ML h] at h2;cases h2
 ·omega
def frN (u:List ByteArray) (s:ByteArray):ByteArray:=zit (zN u s) s
theorem Yz {u:List ByteArray} {s:ByteArray} (h:s∈u):frN u s=frN u (zsf s):=by
 have h1:zN u s=zN u (zsf s)+1:=by
  rcases Nat.lt_trichotomy (zN u s) (zN u (zsf s)+1) with hc|hc|hc
  ·exfalso
   have hn:=T6 u s
   generalize hz:zN u s=m at hc hn
   cases m with
   |zero=>rw[zit,Dg.2 h] at hn;cases hn
   |succ m=>rw[←Ew,ML (show m<zN u (zsf s) by omega)] at hn;cases hn
  ·exact hc
  ·exfalso
   have hn:=T6 u (zsf s)
   rw[Ew,ML hc] at hn;cases hn
 rw[frN,frN,h1,Ew]
def bnB (v:ByteArray) (t:A0) (b:A5):A5:=⟨b.Fj,ap [⟨v,t⟩] b.AM⟩
theorem M7 (s:List A5) (v:ByteArray) (t:A0):bnd s v t=s.map (bnB v t)++[⟨v,t⟩]:=rfl
theorem M6 {v:ByteArray} {t:A0} (h:t.wd):∀b∈([⟨v,t⟩]:List A5),b.AM.wd:=by
 intro b hb;simp only[List.mem_singleton] at hb;subst hb;exact h
def OG (a:List ByteArray) (u:List ByteArray×List A5) (v:ByteArray):List ByteArray×List A5:=
 if B6 a v then (u.1++[frN u.1 (zsf v)],u.2++[⟨v,⟨1,frN u.1 (zsf v),[]⟩⟩]) else u
def apK (a u l:List ByteArray) (k:Nat):List ByteArray×List A5:=(l.take k).foldl (OG a) (u,[])
theorem Kz (a u l:List ByteArray):(apK a u l 0).1=u:=by simp[apK]
theorem Ky (a u l:List ByteArray):(apK a u l 0).2=[]:=by simp[apK]
theorem Hr {a u l:List ByteArray} {k:Nat} (h:k<l.length):apK a u l (k+1)=OG a (apK a u l k) l[k]:=by
 unfold apK;rw[Y' h,List.foldl_append];rfl
theorem RV {a u l:List ByteArray} {k:Nat} (h:k<l.length) (e:B6 a l[k]=true):(apK a u l (k+1)).1=(apK a u l k).1++[frN (apK a u l k).1 (zsf l[k])]∧(apK a u l (k+1)).2=(apK a u l k).2++[⟨l[k],⟨1,frN (apK a u l k).1 (zsf l[k]),[]⟩⟩]:=by
 rw[Hr h,OG,if_pos e];exact⟨rfl,rfl⟩
theorem Wl {a u l:List ByteArray} {k:Nat} (h:k<l.length) (e:B6 a l[k]=false):apK a u l (k+1)=apK a u l k:=by
 rw[Hr h,OG,if_neg (by rw[e];decide)]
theorem RW {a u l:List ByteArray}:∀k,(apK a u l k).1.length≤u.length+k∧(apK a u l k).2.length≤k:=by
 intro k
 induction k with
 |zero=>simp[apK]
 |succ k ih=>
  by_cases h:k<l.length
  ·rw[Hr h,OG]
   split<;>(try simp only[List.length_append,List.length_singleton])<;>omega
  ·unfold apK at ih ⊢
   rw[List.take_of_length_le (by omega)] at ih ⊢;omega
theorem a0 {a u l:List ByteArray}:∀(k:Nat) (s:ByteArray),s∈u→s∈(apK a u l k).1:=by
 intro k
 induction k with
 |zero=>intro s h;simpa[apK] using h
 |succ k ih=>
  intro s h
  by_cases hk:k<l.length
  ·rw[Hr hk,OG]
   split
   ·exact List.mem_append_left _ (ih s h)
   ·exact ih s h
  ·have:=ih s h
   unfold apK at this ⊢
   rw[List.take_of_length_le (by omega)] at this ⊢;exact this
def apR (a l:List ByteArray):List A5:=(apK a (unN a l) l l.length).2
mutual
theorem Te:∀(x:A0) (o:List ByteArray) (B:Nat),x.sz≤B→(∀v∈o,v.size≤B)→∀v∈tvs x o,v.size≤B
 |⟨k,n,l⟩,o,B,h,ho=>by
  simp only[A0.sz] at h
  simp only[tvs]
  refine Pb l _ B (by omega) ?_
  unfold tvS
  split
  ·intro v hv
   rcases List.mem_append.1 hv with hv|hv
   ·exact ho v hv
   ·simp only[List.mem_singleton] at hv;subst hv;omega
  ·exact ho
theorem Pb:∀(l:List A0) (o:List ByteArray) (B:Nat),A0.szLs l≤B→(∀v∈o,v.size≤B)→∀v∈CC l o,v.size≤B
 |[],o,B,_,ho=>by simpa[CC] using ho
 |x::l,o,B,h,ho=>by
  simp only[A0.szLs] at h
  simp only[CC]
  exact Pb l _ B (by omega) (Te x o B (by omega) ho)
end
theorem aN {x:A0} {k:Nat} {B:Nat} (hx:x.sz≤B) (h:k<(tv x).length):(tv x)[k].size≤B:=Te x [] B hx (by simp) _ (gm h)
theorem Mh (x:A0):(tv x).length≤1+x.sz:=by
 have h1:=GV x []
 have h2:=Cm x
 unfold tv;simp only[List.length_nil] at h1;omega
theorem PL {u:List ByteArray} {s:ByteArray} {k:Nat} (h:k=zN u s):zit k s=frN u s:=by rw[frN,h]
theorem VW (u:List ByteArray) (s:ByteArray):B6 u (frN u s)=false:=T6 u s
theorem PE {a u l:List ByteArray}:∀k,∀b∈(apK a u l k).2,b.AM.wd:=by
 intro k
 induction k with
 |zero=>simp[apK]
 |succ k ih=>
  by_cases h:k<l.length
  ·rw[Hr h,OG]
   split
   ·intro b hb
    rcases List.mem_append.1 hb with hb|hb
    ·exact ih b hb
    ·simp only[List.mem_singleton] at hb;subst hb;simp[A0.wd,A0.wds]
   ·exact ih
  ·unfold apK at ih ⊢
   rw[List.take_of_length_le (by omega)] at ih ⊢;exact ih
theorem MK (s:ByteArray):zit 0 s=s:=rfl
theorem T5 (k:Nat) (s:ByteArray):zit (k+1) s=zsf (zit k s):=rfl
theorem PK (s:ByteArray):s++⟨#[122]⟩=zsf s:=rfl
theorem RX {a l:List ByteArray} {k:Nat} (h:k=l.length):(apK a (unN a l) l k).2=apR a l:=by rw[apR,h]
instance gHas (l:List ByteArray) (s:ByteArray):Ct cx 92 [.d (.sl false .one ((l).map (dS))),.d (.lf (.string (s)))] (True) (.d (.lf (.bool (B6 l s)))):=by
 refine Xi func92 18 [.tmp 4] [] [] AN (AI @B6.eq_1<|AI @Ca<|@Bp) ?_;intro hp h M G H E
 repeat' (first|(refine IN.mk ?_;intros)|(refine iTw ?_;refine T2 ?_ ?_<;>((try clear H);intro hb H)<;>try exact hb.elim)|(refine LF.mk ?_;exact LX)|refine GN ?_|(refine XC [0,1] [] 5 (l.length) (fun k0=>B6 l s=(l.drop k0).any fun x=>decide (x=s)) ?_;intro k0 hk0 hi0)|fail)
instance gName (s:ByteArray):Ct cx 90 [.d (.lf (.string (s)))] (True) (.d (.lf (.bool (BU s)))):=by
 refine Xi func90 47 [.tmp 2] [] [] AN (AI @BU.eq_1<|AI @KG.eq_1<|AI @CG.eq_1<|AI @low.eq_1<|AI @dig.eq_1<|AI @Bb<|@BK) ?_;intro hp h M G H E
 repeat' (first|exact true|(refine IN.mk ?_;intros)|(refine iTw ?_;refine T2 ?_ ?_<;>((try clear H);intro hb H)<;>try exact hb.elim)|(refine LF.mk ?_;exact LX)|refine BO.mk ?_ ?_|(apply iPJ;exact NPJ)|apply PXs.of|refine GN ?_|(refine XC [0] [] 3 (s.size) (fun k0=>BU s=((List.range s.size).drop k0).all (CG s)) ?_;intro k0 hk0 hi0)|fail)
instance kJ (l:List ByteArray):Ct cx 159 [.d (.sl false .one ((l).map (dS)))] (True) (.d (.lf (.bool (nms l)))):=by
 refine Xi func159 16 [.tmp 2] [] [] AN (AI @nms.eq_1<|AI @Ca<|@Bp) ?_;intro hp h M G H E
 repeat' (first|(refine IN.mk ?_;intros)|(refine iTw ?_;refine T2 ?_ ?_<;>((try clear H);intro hb H)<;>try exact hb.elim)|(refine LF.mk ?_;exact LX)|refine GN ?_|(refine XC [0] [] 3 (l.length) (fun k0=>nms l= !((l.drop k0).any fun s=> !BU s)) ?_;intro k0 hk0 hi0)|fail)
theorem cg (w:A1) (B:Nat) (hB:B≤134217728):∀(n:Nat) (s:ByteArray) (out:List ByteArray),SP w B n s out→∀h:HP,CS cx.P 202 [.d ((w).dd false),.d (.lf (.string (s))),.d (.sl true .one ((out).map (dS)))] h (.d (.sl true .one (((HX w (Ak w s) out)).map (dS)))) h:=by
 intro n
 induction n with
 |zero=>intro s out hx;obtain⟨m,hm, -⟩:=hx;omega
 |succ n ih=>
 intro s out hx h
 have ii:∀(s:ByteArray) (out:List ByteArray),Ct cx 202 [.d (As w),.d (.lf (.string (s))),.d (.sl true .one ((out).map (dS)))] (SP w B n s out) (.d (.sl true .one (((HX w (Ak w s) out)).map (dS)))):=fun s out=>⟨fk1 func202,fun hp h=>by have q:=ih s out hp h;first|exact q|simpa using q⟩
 have hst:=SP.start hx
 have hsu:∀s,(trR w s).1.Ao=Ak w s:=fun _=>rfl
 have ij:∀(s:ByteArray) (o:List ByteArray) (z:ByteArray),Ct cx 202 [.d (As w),.d (.lf (.string (s))),.d (.sl true .one (o.map dS++[.lf (.string z)]))] (SP w B n s (o++[z])) (.d (.sl true .one (((HX w (Ak w s) (o++[z]))).map (dS)))):=fun s o z=>⟨fk1 func202,fun hp h=>by have q:=ih s (o++[z]) hp h;simpa[dS] using q⟩
 refine Xe func202 rfl 49 [.tmp 6] ?_
 let M:List Nat:=[39,46,48]
 let G:List Nat:=[46]
 have H:=AN
 replace H:=AI hsu H
 repeat' (first|refine GO ?_|(refine Two.mk ?_ ?_<;>intro hb<;>(try simp at hb)<;>(try norm_cast at hb)<;>try replace H:=HN hb H)|(refine RG.mk ?_;(try clear hK hD);first|intro _ K hD hK|intro K hD hK)|(refine RF.mk ?_;intro hr)|(refine LF.mk ?_;(try clear hK hD);first|rfl|(simp[*];done)|(simp_all;done)|grind))
 refine W.loopR [3,7] [3,7] (fun k0 s0=>[(10,.d (.lf (.int .i64 (k0:Int)))),(2,.d (.sl true .one ((s0).map (dS))))]) (fun _ _=>[]) ((Ak w s).length) (fun k0 s0=>SI w B n (Ak w s) (HX w (Ak w s) out) k0 s0) (fun S=>Zu (S.tm 2)) rfl (by simp) (by simpa using hst) ?_
 · intro k0 hk0 s0 hi0 T hT;simp at hT;subst hT
   have hln:=hi0.len
   by_cases hkk:k0<(Ak w s).length
   rotate_left
   have hen:=hi0.end (by omega);replace H:=AI hen H
   rotate_left
   have hha:=hi0.has hkk;have hno:=hi0.not hkk;have hn1:=fun e=>(hno e).1;have hn2:=fun e=>(hno e).2;replace H:=AI hn1 (AI hn2 (AI hha H))
   all_goals repeat' (first|refine GO ?_|(refine Two.mk ?_ ?_<;>intro hb<;>(try simp at hb)<;>(try norm_cast at hb)<;>try replace H:=HN hb H)|(refine RG.mk ?_;(try clear hK hD);first|intro _ K hD hK|intro K hD hK)|(refine RF.mk ?_;intro hr)|(refine LF.mk ?_;(try clear hK hD);first|rfl|(simp[*];done)|(simp_all;done)|grind))
theorem Yf (n:Nat) (ii:∀(k1:Int) (n1:ByteArray) (l1:List A0) (k2:Int) (n2:ByteArray) (l2:List A0),Ct cx 359 [.d (uK k1 n1 l1),.d (uK k2 n2 l2)] (AQ (⟨k1,n1,l1⟩:A0)<n) (.d (.lf (.bool (eqT (⟨k1,n1,l1⟩:A0) (⟨k2,n2,l2⟩:A0)))))) (l m:List A0) (hl:Ae l<n) (h:HP):CS cx.P 406 [.d (.sl false Ag ((l).map (A0.dd false))),.d (.sl false Ag ((m).map (A0.dd false))),.fn 359 []] h (.d (.lf (.bool (decide (l=m))))) h:=by
 have gx:=@Bo
 refine Xe func406 rfl 32 [.tmp 6] ?_
 let M:List Nat:=[21,25]
 let G:List Nat:=[]
 have H:=AN
 repeat' (first|refine GO ?_|(refine Two.mk ?_ ?_<;>intro hb<;>(try simp at hb)<;>(try norm_cast at hb)<;>try replace H:=HN hb H)|(refine RG.mk ?_;(try clear hK hD);first|intro _ K hD hK|intro K hD hK)|(refine RF.mk ?_;intro hr)|(refine LF.mk ?_;(try clear hK hD);first|rfl|(simp[Kf, *];done)|(simp_all [Kf];done)|grind [Kf]))
 have hlp:LF (l.length=m.length):=⟨‹_›⟩;clear ‹l.length=m.length›
 refine W.loopR [1,2,15,16] [] (fun k0 _=>[(17,.d (.lf (.int .i64 (k0:Int))))]) (fun _ _=>[]) (l.length) (fun k0 _=>decide (l=m)=drE l m k0) (fun S=>()) rfl (by simp) (by first|trivial|rfl|(simp;done)|(simp[EY,Da,eqT];done)|(simp_all [EY,Da,eqT];done)) ?_
 intro k0 hk0 s0 hi0 T hT;simp at hT;subst hT
 have hlq:k0<l.length→k0<m.length:=fun h=>by have:=hlp.r;omega
 have hlr:l.length≤k0→m.length≤k0:=fun h=>by have:=hlp.r;omega
 replace H:=AI hlq H
 repeat' (first|refine GO ?_|(refine Two.mk ?_ ?_<;>intro hb<;>(try simp at hb)<;>(try norm_cast at hb)<;>try replace H:=HN hb H)|(refine RG.mk ?_;(try clear hK hD);first|intro _ K hD hK|intro K hD hK)|(refine RF.mk ?_;intro hr)|(refine LF.mk ?_;(try clear hK hD);first|rfl|(simp[EY,Da,eqT, *];done)|(simp_all [EY,Da,eqT];done)|grind [EY,Da,eqT]))
theorem e6:∀(n:Nat) (x y:A0),AQ x<n→∀h:HP,CS cx.P 359 [.d ((x).dd false),.d ((y).dd false)] h (.d (.lf (.bool (eqT x y)))) h:=by
 intro n
 induction n with
 |zero=>intro x y hx;omega
 |succ n ih=>
 intro x y hx h
 have hsx:Ae x.AB<n:=by have:=BE x;omega
 have ii:∀(k1:Int) (n1:ByteArray) (l1:List A0) (k2:Int) (n2:ByteArray) (l2:List A0),Ct cx 359 [.d (uK k1 n1 l1),.d (uK k2 n2 l2)] (AQ (⟨k1,n1,l1⟩:A0)<n) (.d (.lf (.bool (eqT (⟨k1,n1,l1⟩:A0) (⟨k2,n2,l2⟩:A0))))):=fun k1 n1 l1 k2 n2 l2=>⟨fk1 func359,fun hp h=>by have q:=ih (⟨k1,n1,l1⟩:A0) (⟨k2,n2,l2⟩:A0) hp h;first|exact q|simpa using q⟩
 have ij:∀l m:List A0,Ct cx 406 [.d (.sl false Ag ((l).map (A0.dd false))),.d (.sl false Ag ((m).map (A0.dd false))),.fn 359 []] (Ae l<n) (.d (.lf (.bool (decide (l=m))))):=fun l m=>⟨fk1 func406,fun hl h=>by have q:=Yf n ii l m hl h;first|exact q|simpa using q⟩
 refine Xe func359 rfl 24 [.tmp 4] ?_
 let M:List Nat:=[]
 let G:List Nat:=[]
 have H:=AN
 repeat' (first|refine GO ?_|(refine Two.mk ?_ ?_<;>intro hb<;>(try simp at hb)<;>(try norm_cast at hb)<;>try replace H:=HN hb H)|(refine RG.mk ?_;(try clear hK hD);first|intro _ K hD hK|intro K hD hK)|(refine RF.mk ?_;intro hr)|(refine LF.mk ?_;(try clear hK hD);first|rfl|(simp[KK, *];done)|(simp_all [KK];done)|grind [KK]))
instance mR (k1:Int) (n1:ByteArray) (l1:List A0) (k2:Int) (n2:ByteArray) (l2:List A0):Ct cx 359 [.d (uK k1 n1 l1),.d (uK k2 n2 l2)] True (.d (.lf (.bool (eqT (⟨k1,n1,l1⟩:A0) (⟨k2,n2,l2⟩:A0))))):=⟨fk1 func359,fun _ h=>by have q:=e6 _ (⟨k1,n1,l1⟩:A0) (⟨k2,n2,l2⟩:A0) (Nat.lt_succ_self _) h;first|exact q|simpa using q⟩
theorem mT (a b:A9) (h:HP):CS cx.P 294 [.d ((a).dd false),.d ((b).dd false)] h (.d (.lf (.bool (eqG a b)))) h:=by
 refine Xe func294 rfl 17 [.tmp 4] ?_
 let M:List Nat:=[]
 let G:List Nat:=[]
 have H:=AN
 repeat' (first|refine GO ?_|(refine Two.mk ?_ ?_<;>intro hb<;>(try simp at hb)<;>(try norm_cast at hb)<;>try replace H:=HN hb H)|(refine RG.mk ?_;(try clear hK hD);first|intro _ K hD hK|intro K hD hK)|(refine RF.mk ?_;intro hr)|(refine LF.mk ?_;(try clear hK hD);first|rfl|(simp[Kv, *];done)|(simp_all [Kv];done)|grind [Kv]))
instance mS (s1 s2:ByteArray) (k1:Int) (n1:ByteArray) (l1:List A0) (k2:Int) (n2:ByteArray) (l2:List A0):Ct cx 294 [.d (.st [.lf (.string s1),uK k1 n1 l1]),.d (.st [.lf (.string s2),uK k2 n2 l2])] True (.d (.lf (.bool (eqG (⟨s1,⟨k1,n1,l1⟩⟩:A9) (⟨s2,⟨k2,n2,l2⟩⟩:A9))))):=⟨fk1 func294,fun _ h=>by have q:=mT (⟨s1,⟨k1,n1,l1⟩⟩:A9) (⟨s2,⟨k2,n2,l2⟩⟩:A9) h;first|exact q|simpa using q⟩
instance iArmC (y:Ab) (s:ByteArray):Ct cx 331 [.d (bz y),.el (.lf (.string s))] (True) (.d (.lf (.bool (decide (y.AY=s))))):=by
 refine Xi func331 8 [.tmp 3] [] [] AN trivial ?_;intro hp h M G H E
 exact GA0
instance mh (a:List Ab) (s:ByteArray):Ct cx 267 [.d (.sl false BJ ((a).map (Ab.dd false))),.d (.lf (.string (s)))] (True) (.d (.lf (.int .i64 (arI a s)))):=by
 refine Xi func267 8 [.tmp 4] [] [] AN (@arI.eq_1) ?_;intro hp h M G H E
 repeat' (first|(refine W.fzR (id:=1) 3 3 [0] [] ?_)|(refine IN.mk ?_;intros)|(refine iTw ?_;refine T2 ?_ ?_<;>((try clear H);intro hb H)<;>try exact hb.elim)|(refine LF.mk ?_;exact LX)|refine GN ?_)
instance mU (l:List ByteArray):Ct cx 49 [.d (.sl false .one ((l).map (dS)))] (l.length≤134217728) (.d (.lf (.bool (dst l)))):=⟨fk1 func49,fun hp h=>by have q:=Lk l hp h;first|exact q|simpa using q⟩
instance iFit (d:AF) (a:List Ab):Ct cx 197 [.d (Rl d),.d (.sl false BJ ((a).map (Ab.dd false)))] (d.A4.length≤134217728) (.d (.lf (.bool (JY d a)))):=by
 refine Xi func197 50 [.tmp 4] [16,17] [] AN (AI @VZ<|AI @Bb<|AI @BK<|@Int.ofNat_inj) ?_;intro hp h M G H E
 repeat' (first|exact true|(refine IN.mk ?_;intros)|(refine iTw ?_;refine T2 ?_ ?_<;>((try clear H);intro hb H)<;>try (first|exact hb.elim|(exfalso;omega)))|(refine LF.mk ?_;exact LX)|refine BO.mk ?_ ?_|(apply iPJ;exact NPJ)|apply PXs.of|refine GN ?_|(refine XL [1,11,12] [] (fun k0 _=>[(13,.d (.lf (.int .i64 (k0:Int)))),(5,.d (.sl true .one ((mp AA.A6 d.A4 k0).map dS)))]) (fun _ _=>[]) (d.A4.length) (fun k0 _=>d.A4.all (c1 a)=(d.A4.drop k0).all (c1 a)) rU ?_;intro k0 hk0 s0 hi0;have hml:=Bh AA.A6 hk0;have hmz:=YJ d.A4;have hme:d.A4.length≤k0→mp AA.A6 d.A4 k0=nmC d.A4:=YK;by_cases hkk:k0<d.A4.length;rotate_left;(have hme2:=hme (by omega);have hae:d.A4.all (c1 a)=true:=by rw[hi0,BK (by omega)]);clear hi0;replace H:=AI hme2 (AI hmz H);rotate_left;rcases Sv a d.A4[k0] with ⟨hj1,hj2⟩|⟨j,hj,hj1,hj2⟩<;>replace H:=AI hj1 (AI hj2 H))|fail)
