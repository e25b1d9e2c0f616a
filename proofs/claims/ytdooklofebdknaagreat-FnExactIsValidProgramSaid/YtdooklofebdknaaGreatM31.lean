/- Part 31. No condition. -/
import Derived.Test.YtdooklofebdknaaGreatM30
namespace Go.Proofs.YtdooklofebdknaaGreat
open Go.RowKit Tryz
set_option linter.unusedVariables false
set_option maxRecDepth 10000
set_option linter.unusedSimpArgs false
set_option maxHeartbeats 4000000
mutual
def A0.wd:A0→Prop
 |⟨_,_,l⟩=>l.length≤134217728∧A0.wds l
def A0.wds:List A0→Prop
 |[]=>True
 |x::l=>x.wd∧A0.wds l
end
theorem PP:∀{l:List A0},A0.wds l→∀y∈l,y.wd
 |x::l,h,y,hy=>by
  simp only[A0.wds] at h
  rcases List.mem_cons.1 hy with rfl|hy
  ·exact h.1
  ·exact PP h.2 y hy
theorem TH:∀{l:List A0},(∀y∈l,y.wd)→A0.wds l
 |[],_=>trivial
 |x::l,h=>by simp only[A0.wds];exact⟨h x (by simp),TH fun y hy=>h y (by simp[hy])⟩
theorem OJ (x:A0):x.wd↔x.AB.length≤134217728∧∀y∈x.AB,y.wd:=by
 cases x;simp only[A0.wd]
 exact⟨fun h=>⟨h.1,PP h.2⟩,fun h=>⟨h.1,TH h.2⟩⟩
theorem Cz {x:A0} (h:x.wd):x.AB.length≤134217728:=((OJ x).1 h).1
theorem Bj {x:A0} (h:x.wd):∀y∈x.AB,y.wd:=((OJ x).1 h).2
theorem aK:∀(n:Nat) (x:A0),AQ x<n→x.sz≤134217728→x.wd
 |0,x,h,_=>by omega
 |n+1,x,h,hz=>by
  have h1:=BE x
  have h2:=x.sz_eq;unfold szs at h2
  refine(OJ x).2 ⟨by omega,fun y hy=> ?_⟩
  obtain⟨k,hk,rfl⟩:=List.getElem_of_mem hy
  have:=Bo hk
  have:=Ah A0.sz hy
  exact aK n _ (by omega) (by omega)
theorem CK {x:A0} (h:x.sz≤134217728):x.wd:=aK _ x (Nat.lt_succ_self _) h
mutual
theorem MP {s:List A5} (h:∀b∈s,b.AM.wd):∀{t:A0},t.wd→(ap s t).wd
 |⟨k,n,l⟩,ht=>by
  simp only[A0.wd] at ht
  rw[ap]
  split
  ·rename_i u hu
   split at hu
   ·obtain⟨b,h1, -,h3⟩:=F5 hu
    rw[←h3];exact h b h1
   ·cases hu
  ·simp only[A0.wd];refine⟨by rw[ME,List.length_map];exact ht.1,TJ h ht.2⟩
theorem TJ {s:List A5} (h:∀b∈s,b.AM.wd):∀{l:List A0},A0.wds l→A0.wds (aps s l)
 |[],_=>trivial
 |x::l,hl=>by simp only[A0.wds] at hl;simp only[aps,A0.wds];exact⟨MP h hl.1,TJ h hl.2⟩
end
theorem ay {s:List A5} {v:ByteArray} {k:Nat} (h:k<s.length):lkB (s.drop k) v=if s[k].Fj=v then some s[k].AM else lkB (s.drop (k+1)) v:=by
 rw[List.drop_eq_getElem_cons h,lkB]
theorem Ux {s:List A5} {v:ByteArray} {k:Nat} (h:s.length≤k):lkB (s.drop k) v=none:=by rw[List.drop_eq_nil_of_le h];rfl
theorem bR (s:List A5) (x:A0):ap s x=if x.AH=1∧(lkB s x.A6).isSome=true then (lkB s x.A6).getD zT else ⟨x.AH,x.A6,x.AB.map (ap s)⟩:=by
 obtain⟨k,n,l⟩:=x
 rw[ap,ME]
 by_cases hk:k=1
 ·subst hk
  cases h:lkB s n with
  |none=>simp[h]
  |some u=>simp[h]
 ·simp[hk]
instance:DecidableEq A9:=fun x y=>decidable_of_iff (x.AK=y.AK∧x.AM=y.AM) (by cases x;cases y;simp)
def zsf (s:ByteArray):ByteArray:=s++⟨#[122]⟩
def bSm (b:A9) (hd:A0):Bool:=(tv b.AM).all (fun v=>decide (occ v b.AM≤occ v hd)) && decide (AQ b.AM<AQ hd)
def FU (x:AJ):Bool:=x.Af.all fun b=>bSm b x.Ar
noncomputable def asF (w:A1) (i:Nat):List A9→List AD
 |[]=>[]
 |b::l=>⟨b,i,[]⟩::((Cb w b.AK).map fun u=>⟨⟨u,b.AM⟩,(i:Int),(((pth w u 8 b.AK).getD []).map fun (n:Nat)=>(n:Int))⟩)++asF w (i+1) l
noncomputable def asm (w:A1) (l:List A9):List AD:=asF w 0 l
def zRf:A3:=⟨0,0⟩
def apS (e:A7) (l:List Int):A7:=l.foldl (fun e n=>⟨3,n,zRf,[e]⟩) e
def gnd (t:A0):Bool:=decide (tv t=[]) && !Bq t
noncomputable def Sy (w:A1):Bool:=w.A2.all fun p=>p.Ai.all fun t=> !B6 (Cb w t.A6) t.A6
def eqT (x y:A0):Bool:=decide (x=y)
def eqG (x y:A9):Bool:=decide (x=y)
theorem KK (x y:A0):eqT x y=(decide (x.AH=y.AH) && decide (x.A6=y.A6) && decide (x.AB=y.AB)):=by
  unfold eqT;rw[Bool.eq_iff_iff];cases x;cases y;simp[and_assoc]
theorem Kv (x y:A9):eqG x y=(decide (x.AK=y.AK) && eqT x.AM y.AM):=by
  unfold eqG eqT;rw[Bool.eq_iff_iff];cases x;cases y;simp
theorem Kf {α:Type} [DecidableEq α] {l m:List α} (h:¬l.length=m.length):decide (l=m)=false:=decide_eq_false fun e=>h (by rw[e])
def drE {α:Type} [DecidableEq α] (l m:List α) (k:Nat):Bool:=decide (l.drop k=m.drop k)
theorem EY {α:Type} [DecidableEq α] {l m:List α} {k:Nat} (h:k<l.length) (h2:k<m.length):drE l m k=(decide (l[k]=m[k]) && drE l m (k+1)):=by
  unfold drE;rw[Bool.eq_iff_iff,List.drop_eq_getElem_cons h,List.drop_eq_getElem_cons h2];simp only[decide_eq_true_eq,Bool.and_eq_true,List.cons.injEq]
theorem Da {α:Type} [DecidableEq α] {l m:List α} {k:Nat} (h:l.length≤k) (h2:m.length≤k):drE l m k=true:=by
  unfold drE;rw[List.drop_eq_nil_of_le h,List.drop_eq_nil_of_le h2];simp
theorem Y2 (n:Nat) (ii:∀(k1:Int) (n1:ByteArray) (l1:List A0) (k2:Int) (n2:ByteArray) (l2:List A0),Ct cx 283 [.d (uK k1 n1 l1),.d (uK k2 n2 l2)] (AQ (⟨k1,n1,l1⟩:A0)<n) (.d (.lf (.bool (eqT (⟨k1,n1,l1⟩:A0) (⟨k2,n2,l2⟩:A0)))))) (l m:List A0) (hl:Ae l<n) (h:HP):CS cx.P 347 [.d (.sl false Ag ((l).map (A0.dd false))),.d (.sl false Ag ((m).map (A0.dd false)))] h (.d (.lf (.bool (decide (l=m))))) h:=by
 have gx:=@Bo
 refine Xe func347 rfl 27 [.tmp 4] ?_
 let M:List Nat:=[]
 let G:List Nat:=[]
 have H:=AN
 repeat' (first|refine GO ?_|(refine Two.mk ?_ ?_<;>intro hb<;>(try simp at hb)<;>(try norm_cast at hb)<;>try replace H:=HN hb H)|(refine RG.mk ?_;(try clear hK hD);first|intro _ K hD hK|intro K hD hK)|(refine RF.mk ?_;intro hr)|(refine LF.mk ?_;(try clear hK hD);first|rfl|(simp[Kf, *];done)|(simp_all [Kf];done)|grind [Kf]))
 have hlp:LF (l.length=m.length):=⟨‹_›⟩;clear ‹l.length=m.length›
 refine W.loopR [0,1] [] (fun k0 _=>[(5,.d (.lf (.int .i64 (k0:Int))))]) (fun _ _=>[]) (l.length) (fun k0 _=>decide (l=m)=drE l m k0) (fun S=>()) rfl (by simp) (by first|trivial|rfl|(simp;done)|(simp[EY,Da,eqT];done)|(simp_all [EY,Da,eqT];done)) ?_
 intro k0 hk0 s0 hi0 T hT;simp at hT;subst hT
 have hlq:k0<l.length→k0<m.length:=fun h=>by have:=hlp.r;omega
 have hlr:l.length≤k0→m.length≤k0:=fun h=>by have:=hlp.r;omega
 replace H:=AI hlq H
 repeat' (first|refine GO ?_|(refine Two.mk ?_ ?_<;>intro hb<;>(try simp at hb)<;>(try norm_cast at hb)<;>try replace H:=HN hb H)|(refine RG.mk ?_;(try clear hK hD);first|intro _ K hD hK|intro K hD hK)|(refine RF.mk ?_;intro hr)|(refine LF.mk ?_;(try clear hK hD);first|rfl|(simp[EY,Da,eqT, *];done)|(simp_all [EY,Da,eqT];done)|grind [EY,Da,eqT]))
theorem ct:∀(n:Nat) (x y:A0),AQ x<n→∀h:HP,CS cx.P 283 [.d ((x).dd false),.d ((y).dd false)] h (.d (.lf (.bool (eqT x y)))) h:=by
 intro n
 induction n with
 |zero=>intro x y hx;omega
 |succ n ih=>
 intro x y hx h
 have hsx:Ae x.AB<n:=by have:=BE x;omega
 have ii:∀(k1:Int) (n1:ByteArray) (l1:List A0) (k2:Int) (n2:ByteArray) (l2:List A0),Ct cx 283 [.d (uK k1 n1 l1),.d (uK k2 n2 l2)] (AQ (⟨k1,n1,l1⟩:A0)<n) (.d (.lf (.bool (eqT (⟨k1,n1,l1⟩:A0) (⟨k2,n2,l2⟩:A0))))):=fun k1 n1 l1 k2 n2 l2=>⟨fk1 func283,fun hp h=>by have q:=ih (⟨k1,n1,l1⟩:A0) (⟨k2,n2,l2⟩:A0) hp h;first|exact q|simpa using q⟩
 have ij:∀l m:List A0,Ct cx 347 [.d (.sl false Ag ((l).map (A0.dd false))),.d (.sl false Ag ((m).map (A0.dd false)))] (Ae l<n) (.d (.lf (.bool (decide (l=m))))):=fun l m=>⟨fk1 func347,fun hl h=>by have q:=Y2 n ii l m hl h;first|exact q|simpa using q⟩
 refine Xe func283 rfl 24 [.tmp 4] ?_
 let M:List Nat:=[]
 let G:List Nat:=[]
 have H:=AN
 repeat' (first|refine GO ?_|(refine Two.mk ?_ ?_<;>intro hb<;>(try simp at hb)<;>(try norm_cast at hb)<;>try replace H:=HN hb H)|(refine RG.mk ?_;(try clear hK hD);first|intro _ K hD hK|intro K hD hK)|(refine RF.mk ?_;intro hr)|(refine LF.mk ?_;(try clear hK hD);first|rfl|(simp[KK, *];done)|(simp_all [KK];done)|grind [KK]))
instance lb (k1:Int) (n1:ByteArray) (l1:List A0) (k2:Int) (n2:ByteArray) (l2:List A0):Ct cx 283 [.d (uK k1 n1 l1),.d (uK k2 n2 l2)] True (.d (.lf (.bool (eqT (⟨k1,n1,l1⟩:A0) (⟨k2,n2,l2⟩:A0))))):=⟨fk1 func283,fun _ h=>by have q:=ct _ (⟨k1,n1,l1⟩:A0) (⟨k2,n2,l2⟩:A0) (Nat.lt_succ_self _) h;first|exact q|simpa using q⟩
theorem lg (a b:A9) (h:HP):CS cx.P 208 [.d ((a).dd false),.d ((b).dd false)] h (.d (.lf (.bool (eqG a b)))) h:=by
 refine Xe func208 rfl 17 [.tmp 4] ?_
 let M:List Nat:=[]
 let G:List Nat:=[]
 have H:=AN
 repeat' (first|refine GO ?_|(refine Two.mk ?_ ?_<;>intro hb<;>(try simp at hb)<;>(try norm_cast at hb)<;>try replace H:=HN hb H)|(refine RG.mk ?_;(try clear hK hD);first|intro _ K hD hK|intro K hD hK)|(refine RF.mk ?_;intro hr)|(refine LF.mk ?_;(try clear hK hD);first|rfl|(simp[Kv, *];done)|(simp_all [Kv];done)|grind [Kv]))
instance lc (s1 s2:ByteArray) (k1:Int) (n1:ByteArray) (l1:List A0) (k2:Int) (n2:ByteArray) (l2:List A0):Ct cx 208 [.d (.st [.lf (.string s1),uK k1 n1 l1]),.d (.st [.lf (.string s2),uK k2 n2 l2])] True (.d (.lf (.bool (eqG (⟨s1,⟨k1,n1,l1⟩⟩:A9) (⟨s2,⟨k2,n2,l2⟩⟩:A9))))):=⟨fk1 func208,fun _ h=>by have q:=lg (⟨s1,⟨k1,n1,l1⟩⟩:A9) (⟨s2,⟨k2,n2,l2⟩⟩:A9) h;first|exact q|simpa using q⟩
theorem mY (x:A0) (v:ByteArray) (hp:x.sz≤134217728) (h:HP):CS cx.P 289 [.d ((x).dd false),.d (.lf (.string (v)))] h (.d (.lf (.int .i64 ((occ v x:Nat):Int)))) h:=by
 refine Xe func289 rfl 10 [.tmp 4] ?_
 let M:List Nat:=[]
 let G:List Nat:=[]
 have H:=AN
 have hts:=DF x
 repeat' (first|(refine W.fzR (id:=2) 3 3 [2,5] [2,5] ?_)|(refine XlH G func255 (I6 x (by omega) v 357 f357 _ ⟨func357,rfl,rfl⟩ 5 (fun c=> .lf (.int .i64 ((c:Nat):Int))) (cnS v) (fun c=>c) (f8 v) (fun y _ c hc lv h hcap=>ZQ v y c hc lv 5 h hcap) 0 (by show 0+AQ x≤_;omega) 0 _ (by simp)) ?_)|refine GO ?_|(refine Two.mk ?_ ?_<;>intro hb<;>(try simp at hb)<;>(try norm_cast at hb)<;>try replace H:=HN hb H)|(refine RG.mk ?_;(try clear hK hD);first|intro _ K hD hK|intro K hD hK)|(refine RF.mk ?_;intro hr)|(refine LF.mk ?_;(try clear hK hD);first|rfl|(simp[Jc, *];done)|(simp_all [Jc];done)|grind [Jc]))
instance mX (k:Int) (n:ByteArray) (l:List A0) (v:ByteArray):Ct cx 289 [.d (uK k n l),.d (.lf (.string (v)))] (A0.sz ⟨k,n,l⟩≤134217728) (.d (.lf (.int .i64 ((occ v ⟨k,n,l⟩:Nat):Int)))):=⟨fk1 func289,fun hp h=>by have q:=mY ⟨k,n,l⟩ v hp h;first|exact q|simpa using q⟩
theorem mM (v:ByteArray) (x:A0) (hp:x.sz≤134217728) (h:HP):CS cx.P 389 [.d (.lf (.string (v))),.d ((x).dd false)] h (.d (.lf (.bool (decide (0<occ v x))))) h:=by
 refine Xe func389 rfl 9 [.tmp 4] ?_
 let M:List Nat:=[]
 let G:List Nat:=[]
 have H:=AN
 exact GA4
instance mL (v:ByteArray) (k:Int) (n:ByteArray) (l:List A0):Ct cx 389 [.d (.lf (.string (v))),.d (uK k n l)] (A0.sz ⟨k,n,l⟩≤134217728) (.d (.lf (.bool (decide (0<occ v ⟨k,n,l⟩))))):=⟨fk1 func389,fun hp h=>by have q:=mM v ⟨k,n,l⟩ hp h;first|exact q|simpa using q⟩
theorem dr (y:A0) (hp:y.sz≤134217728) (h:HP):CS cx.P 390 [.d ((y).dd false)] h (.d (.lf (.bool (decide (0<occ Eh y))))) h:=by
 refine Xe func390 rfl 5 [.tmp 2] ?_
 let M:List Nat:=[]
 let G:List Nat:=[]
 have H:=AN
 repeat' (first|refine GO ?_|(refine Two.mk ?_ ?_<;>intro hb<;>(try simp at hb)<;>(try norm_cast at hb)<;>try replace H:=HN hb H)|(refine RG.mk ?_;(try clear hK hD);first|intro _ K hD hK|intro K hD hK)|(refine RF.mk ?_;intro hr)|(refine LF.mk ?_;(try clear hK hD);first|rfl|(simp[Eh, *];done)|(simp_all [Eh];done)|grind [Eh]))
instance j2 (y:A0):Ct cx 390 [.d (Md y)] (y.sz≤134217728) (.d (.lf (.bool (decide (0<occ Eh y))))):=⟨fk1 func390,fun hp h=>by have q:=dr y hp h;first|exact q|simpa using q⟩
instance lj (k:Int) (n:ByteArray) (l:List A0) (v:ByteArray):Ct cx 280 [.d (uK k n l),.d (.lf (.string (v)))] (A0.sz ⟨k,n,l⟩≤134217728) (.d (.lf (.int .i64 ((occ v ⟨k,n,l⟩:Nat):Int)))):=⟨fk1 func280,fun hp h=>by have q:=Oa ⟨k,n,l⟩ v hp h;first|exact q|simpa using q⟩
instance sTv_i (k:Int) (n:ByteArray) (l:List A0):Ct cx 277 [.d (uK k n l)] (A0.sz ⟨k,n,l⟩≤134217728) (.d (.sl true .one (((tv ⟨k,n,l⟩)).map (dS)))):=⟨fk1 func277,fun hp h=>by have q:=ae ⟨k,n,l⟩ hp h;first|exact q|simpa using q⟩
instance iTv_i (k:Int) (n:ByteArray) (l:List A0):Ct cx 183 [.d (uK k n l)] (A0.sz ⟨k,n,l⟩≤134217728) (.d (.sl true .one (((tv ⟨k,n,l⟩)).map (dS)))):=⟨fk1 func183,fun hp h=>by have q:=Qh ⟨k,n,l⟩ hp h;first|exact q|simpa using q⟩
instance iSz_i (k:Int) (n:ByteArray) (l:List A0):Ct cx 290 [.d (uK k n l)] (A0.sz ⟨k,n,l⟩≤134217728) (.d (.lf (.int .i64 ((AQ ⟨k,n,l⟩:Nat):Int)))):=⟨fk1 func290,fun hp h=>by have q:=GE ⟨k,n,l⟩ hp h;first|exact q|simpa using q⟩
theorem cf:∀(n:Nat) (x:A0),AQ x<n→x.sz≤134217728→∀h:HP,CS cx.P 281 [.d ((x).dd false)] h (.d (.lf (.int .i64 ((AQ x:Nat):Int)))) h:=by
 intro n
 induction n with
 |zero=>intro x hx;omega
 |succ n ih=>
 intro x hx hz h
 have hsx:Ae x.AB<n:=by have:=BE x;omega
 have gx:=@Bo
 have hzx:=x.sz_eq;unfold szs at hzx
 have gz:∀k (hk:k<x.AB.length),AQ x.AB[k]<n∧(x.AB[k]).sz≤134217728:=fun k hk=>⟨by have:=gx hk;omega,by have:=Ah A0.sz (gm hk);omega⟩
 have ii:∀(k:Int) (s:ByteArray) (l:List A0),Ct cx 281 [.d (uK k s l)] (AQ ⟨k,s,l⟩<n∧A0.sz ⟨k,s,l⟩≤134217728) (.d (.lf (.int .i64 ((AQ ⟨k,s,l⟩:Nat):Int)))):=fun k s l=>⟨fk1 func281,fun hp h=>by have q:=ih ⟨k,s,l⟩ hp.1 hp.2 h;first|exact q|simpa using q⟩
 refine Xe func281 rfl 21 [.tmp 2] ?_
 let M:List Nat:=[]
 let G:List Nat:=[]
 have H:=AN
 replace H:=AI gz H
 repeat' (first|refine GO ?_|(refine Two.mk ?_ ?_<;>intro hb<;>(try simp at hb)<;>(try norm_cast at hb)<;>try replace H:=HN hb H)|(refine RG.mk ?_;(try clear hK hD);first|intro _ K hD hK|intro K hD hK)|(refine RF.mk ?_;intro hr)|(refine LF.mk ?_;(try clear hK hD);first|rfl|(simp[DT, *];done)|(simp_all [DT];done)|grind [DT]))
 refine W.loopR [1] [1] (fun k0 _=>[(4,.d (.lf (.int .i64 (k0:Int)))),(3,.d (.lf (.int .i64 ((DE x.AB k0:Nat):Int))))]) (fun _ _=>[]) (x.AB.length) (fun _ _=>True) (fun S=>()) rfl (by simp[HT]) (by first|trivial|rfl|(simp;done)|(simp[];done)|(simp_all [];done)) ?_
 · intro k0 hk0 s0 hi0 T hT;simp at hT;subst hT
   by_cases hkk:k0<x.AB.length
   rotate_left
   have hke:DE x.AB k0=AQ x:=by rw[show k0=x.AB.length by omega,DT]
   replace H:=AI hke H
   rotate_left
   have hw:=KN hkk (by unfold szs;omega);replace H:=AI hw H
   all_goals repeat' (first|refine GO ?_|(refine Two.mk ?_ ?_<;>intro hb<;>(try simp at hb)<;>(try norm_cast at hb)<;>try replace H:=HN hb H)|(refine RG.mk ?_;(try clear hK hD);first|intro _ K hD hK|intro K hD hK)|(refine RF.mk ?_;intro hr)|(refine LF.mk ?_;(try clear hK hD);first|rfl|(simp[*];done)|(simp_all;done)|grind))
instance lT (k:Int) (n:ByteArray) (l:List A0):Ct cx 281 [.d (uK k n l)] (A0.sz ⟨k,n,l⟩≤134217728) (.d (.lf (.int .i64 ((AQ ⟨k,n,l⟩:Nat):Int)))):=⟨fk1 func281,fun hp h=>by have q:=cf _ ⟨k,n,l⟩ (Nat.lt_succ_self _) hp h;first|exact q|simpa using q⟩
def bs1 (b:A9) (t:A0) (v:ByteArray):Bool:=decide (occ v b.AM≤occ v t)
theorem Ck (b:A9) (t:A0):bSm b t=((tv b.AM).all (bs1 b t) && decide (AQ b.AM<AQ t)):=rfl
theorem lp (b:A9) (t:A0) (hp:b.sz≤134217728∧t.sz≤134217728) (h:HP):CS cx.P 206 [.d ((b).dd false),.d ((t).dd false)] h (.d (.lf (.bool (bSm b t)))) h:=by
 refine Xe func206 rfl 36 [.tmp 4] ?_
 let M:List Nat:=[]
 let G:List Nat:=[]
 have H:=AN
 have hbz:=b.sz_eq
 have htb:b.AM.sz≤134217728:=by have:=hp.1;omega
 have htt:=hp.2
 repeat' (first|refine GO ?_|(refine Two.mk ?_ ?_<;>intro hb<;>(try simp at hb)<;>(try norm_cast at hb)<;>try replace H:=HN hb H)|(refine RG.mk ?_;(try clear hK hD);first|intro _ K hD hK|intro K hD hK)|(refine RF.mk ?_;intro hr)|(refine LF.mk ?_;(try clear hK hD);first|rfl|(simp[Ck,bs1,Bb,BK,Int.ofNat_lt,Int.ofNat_le, *];done)|(simp_all [Ck,bs1,Bb,BK,Int.ofNat_lt,Int.ofNat_le];done)|grind [Ck,bs1,Bb,BK,Int.ofNat_lt,Int.ofNat_le]))
 refine W.loopR [2,3,5] [2,3] (fun k0 _=>[(6,.d (.lf (.int .i64 (k0:Int))))]) (fun _ _=>[]) ((tv b.AM).length) (fun k0 _=>(tv b.AM).all (bs1 b t)=((tv b.AM).drop k0).all (bs1 b t)) (fun S=>()) rfl (by simp) (by first|trivial|rfl|(simp;done)|(simp[Ck,bs1,Bb,BK,Int.ofNat_lt,Int.ofNat_le];done)|(simp_all [Ck,bs1,Bb,BK,Int.ofNat_lt,Int.ofNat_le];done)) ?_
 intro k0 hk0 s0 hi0 T hT;simp at hT;subst hT
 repeat' (first|refine GO ?_|(refine Two.mk ?_ ?_<;>intro hb<;>(try simp at hb)<;>(try norm_cast at hb)<;>try replace H:=HN hb H)|(refine RG.mk ?_;(try clear hK hD);first|intro _ K hD hK|intro K hD hK)|(refine RF.mk ?_;intro hr)|(refine LF.mk ?_;(try clear hK hD);first|rfl|(simp[Ck,bs1,Bb,BK,Int.ofNat_lt,Int.ofNat_le, *];done)|(simp_all [Ck,bs1,Bb,BK,Int.ofNat_lt,Int.ofNat_le];done)|grind [Ck,bs1,Bb,BK,Int.ofNat_lt,Int.ofNat_le]))
theorem S6 (N:Nat) (ii:∀(k:Int) (n:ByteArray) (l:List A0),Ct cx 346 [.d (uK k n l)] (AQ (⟨k,n,l⟩:A0)<N∧A0.wd (⟨k,n,l⟩:A0)) (.d (((⟨k,n,l⟩:A0)).dd true))):∀(l:List A0),Ct cx 397 [.d (.sl false Ag ((l).map (A0.dd false)))] (Ae l<N∧l.length≤134217728∧(∀y∈l,y.wd)) (.d (.sl true Ag (((l)).map (A0.dd true)))):=fun l=>by
 refine Xi func397 21 [.tmp 2] [12,20] [] AN (@Cu) ?_;intro hp h M G H E
 have gx:∀k (hk:k<l.length),AQ l[k]<N∧l[k].wd:=fun k hk=>⟨by have:=Bo hk;have:=hp.1;omega,hp.2.2 _ (gm hk)⟩;replace H:=AI gx H
 repeat' (first|(refine IN.mk ?_;intros)|(refine iTw ?_;refine T2 ?_ ?_<;>((try clear H);intro hb H)<;>try exact hb.elim)|(refine LF.mk ?_;exact LX)|refine GN ?_|(refine XL [0] [] (fun k0 _=>[(4,.d (.lf (.int .i64 (k0:Int)))),(3,.d (.sl true Ag (((mp (fun y:A0=>y) l k0)).map (A0.dd true))))]) (fun _ _=>[]) (l.length) (fun _ _=>True) rU ?_;intro k0 hk0 s0 hi0;have hml:=Bh (fun y:A0=>y) hk0;(have hme:l.length≤k0→mp (fun y:A0=>y) l k0=l:=fun h=>by rw[Ba h];simp);have hmn:∀h:k0<l.length,mp (fun y:A0=>y) l (k0+1)=mp (fun y:A0=>y) l k0++[l[k0]]:=fun h=>Ep h)|fail)
theorem UM:∀(N:Nat) (k:Int) (n:ByteArray) (l:List A0),Ct cx 346 [.d (uK k n l)] (AQ (⟨k,n,l⟩:A0)<N∧A0.wd (⟨k,n,l⟩:A0)) (.d (((⟨k,n,l⟩:A0)).dd true)):=by
 intro N
 induction N with
 |zero=>intro k n l;exact⟨fk1 func346,fun hp=>absurd hp.1 (Nat.not_lt_zero _)⟩
 |succ N ih=>
 intro k n l
 have jj:=S6 N ih
 refine Xi func346 11 [.cell 2 65] [] [] AN trivial ?_;intro hp h M G H E
 have hla:Ae l<N∧l.length≤134217728∧(∀y∈l,y.wd):=⟨by have:=BE ⟨k,n,l⟩;have:=hp.1;simp only at*;omega,Cz hp.2,Bj hp.2⟩;replace H:=AI hla H
 exact GA0
instance li (k:Int) (n:ByteArray) (l:List A0):Ct cx 346 [.d (uK k n l)] (A0.wd (⟨k,n,l⟩:A0)) (.d (((⟨k,n,l⟩:A0)).dd true)):=⟨fk1 func346,fun hp h=>(UM _ k n l).cs ⟨Nat.lt_succ_self _,hp⟩ h⟩
instance sLook (s:List A5) (v:ByteArray):Ct cx 394 [.d (.sl false B9 ((s).map (A5.dd false))),.d (.lf (.string (v)))] (∀b∈s,b.AM.wd) (.tp [.d ((((lkB s v).getD zT)).dd true),.d (.lf (.bool ((lkB s v).isSome)))]):=by
 refine Xi func394 27 [.cell 4 65,.tmp 5] [] [] AN (AI @ay<|AI @Ux<|@zT.eq_1) ?_;intro hp h M G H E
 have hpp:=fun k (h:k<s.length)=>hp _ (gm h);replace H:=AI hpp H
 repeat' (first|(refine IN.mk ?_;intros)|(refine iTw ?_;refine T2 ?_ ?_<;>((try clear H);intro hb H)<;>try exact hb.elim)|(refine LF.mk ?_;exact LX)|refine GN ?_|(refine XC [0,1,4] [4] 6 (s.length) (fun k0=>lkB s v=lkB (s.drop k0) v) ?_;intro k0 hk0 hi0)|fail)
theorem S7 (N:Nat) (ii:∀(s:List A5) (k:Int) (n:ByteArray) (l:List A0),Ct cx 343 [.d (.sl false B9 ((s).map (A5.dd false))),.d (uK k n l)] (AQ (⟨k,n,l⟩:A0)<N∧A0.wd (⟨k,n,l⟩:A0)∧∀b∈s,b.AM.wd) (.d (((ap s (⟨k,n,l⟩:A0))).dd true))):∀(s:List A5) (l:List A0),Ct cx 395 [.d (.sl false B9 ((s).map (A5.dd false))),.d (.sl false Ag ((l).map (A0.dd false)))] (Ae l<N∧l.length≤134217728∧(∀y∈l,y.wd)∧∀b∈s,b.AM.wd) (.d (.sl true Ag (((l.map (ap s))).map (A0.dd true)))):=fun s l=>by
 refine Xi func395 24 [.tmp 4] [14,23] [] AN (@Cu) ?_;intro hp h M G H E
 have gx:∀k (hk:k<l.length),AQ l[k]<N∧l[k].wd:=fun k hk=>⟨by have:=Bo hk;have:=hp.1;omega,hp.2.2.1 _ (gm hk)⟩;replace H:=AI gx H;have hpp:=hp.2.2.2;replace H:=AI hpp H
 repeat' (first|(refine IN.mk ?_;intros)|(refine iTw ?_;refine T2 ?_ ?_<;>((try clear H);intro hb H)<;>try exact hb.elim)|(refine LF.mk ?_;exact LX)|refine GN ?_|(refine XL [0,1] [] (fun k0 _=>[(6,.d (.lf (.int .i64 (k0:Int)))),(5,.d (.sl true Ag (((mp (ap s) l k0)).map (A0.dd true))))]) (fun _ _=>[]) (l.length) (fun _ _=>True) rU ?_;intro k0 hk0 s0 hi0;have hml:=Bh (ap s) hk0;have hme:l.length≤k0→mp (ap s) l k0=l.map (ap s):=fun h=>Ba h;have hmn:∀h:k0<l.length,mp (ap s) l (k0+1)=mp (ap s) l k0++[ap s l[k0]]:=fun h=>Ep h)|fail)
theorem UN:∀(N:Nat) (s:List A5) (k:Int) (n:ByteArray) (l:List A0),Ct cx 343 [.d (.sl false B9 ((s).map (A5.dd false))),.d (uK k n l)] (AQ (⟨k,n,l⟩:A0)<N∧A0.wd (⟨k,n,l⟩:A0)∧∀b∈s,b.AM.wd) (.d (((ap s (⟨k,n,l⟩:A0))).dd true)):=by
 intro N
 induction N with
 |zero=>intro s k n l;exact⟨fk1 func343,fun hp=>absurd hp.1 (Nat.not_lt_zero _)⟩
 |succ N ih=>
 intro s k n l
 have jj:=S7 N ih
 refine Xi func343 28 [.cell 4 65] [10,15,18] [] AN trivial ?_;intro hp h M G H E
 have hla:Ae l<N∧l.length≤134217728∧(∀y∈l,y.wd):=⟨by have:=BE ⟨k,n,l⟩;have:=hp.1;simp only at*;omega,Cz hp.2.1,Bj hp.2.1⟩;replace H:=AI hla H;have hpp:=hp.2.2;replace H:=AI hpp H
 have he:=bR s ⟨k,n,l⟩;simp only at he;replace H:=AI he H
 exact GA2
instance d7 (s:List A5) (k:Int) (n:ByteArray) (l:List A0):Ct cx 343 [.d (.sl false B9 ((s).map (A5.dd false))),.d (uK k n l)] (A0.wd (⟨k,n,l⟩:A0)∧∀b∈s,b.AM.wd) (.d (((ap s (⟨k,n,l⟩:A0))).dd true)):=⟨fk1 func343,fun hp h=>(UN _ s k n l).cs ⟨Nat.lt_succ_self _,hp⟩ h⟩
instance sCtAt (w:A1) (s:ByteArray):Ct cx 311 [.d (As w),.d (.lf (.string (s)))] (True) (.tp [.d (((ctR w s).1).dd false),.d (.lf (.int .i64 (((ctR w s).2.1:Nat):Int))),.d (.lf (.bool ((ctR w s).2.2)))]):=by
 refine Xiv func311 56 [.cell 4 61,.tmp 5,.tmp 6] [37,53] [] AN (AI @ctR.eq_1<|AI @DW.eq_def<|AI @ctF.eq_1<|AI @Aw<|AI @Aq<|@zDa.eq_1) ?_;intro hp h M G H E
 repeat' (first|(refine IN.mk ?_;intros)|(refine iTw ?_;refine T2 ?_ ?_<;>((try clear H);intro hb H)<;>try exact hb.elim)|(refine LF.mk ?_;exact LX)|refine GN ?_|(refine XC [1,2,4] [2,4] 7 (w.A2.length) (fun k0=>fs (ctH s) 0 w.A2=fs (ctH s) k0 (w.A2.drop k0)) ?_;intro k0 hk0 hi0)|(refine XC [1,2,4,7] [2,4] 8 (w.A2[k0].AE.length) (fun k1=>ctH s k0 w.A2[k0]=fs (ctG s) k1 (w.A2[k0].AE.drop k1)) ?_;intro k1 hk1 hi1)|(refine XC [1,2,4,7,8,9] [2,4,9] 10 (w.A2[k0].AE[k1].A4.length) (fun k2=>ctG s k1 w.A2[k0].AE[k1]=fs (ctF s w.A2[k0].AE[k1]) k2 (w.A2[k0].AE[k1].A4.drop k2)) ?_;intro k2 hk2 hi2)|fail)
instance la (w:A1) (o:A3):Ct cx 139 [.d (As w),.d (FR o)] (w.sz≤134217728∧inR w o) (.tp [.d (((Am w o)).dd false),.d (.lf (.bool (true)))]):=by
 refine Xiv func139 41 [.cell 4 69,.tmp 5] [40] [] AN (@DZ) ?_;intro hp h M G H E
 have hwz:=w.sz_eq;unfold szs at hwz
 obtain⟨hz,i,k,hi,hk,rfl⟩:=hp
 have hkz:=Ah A8.sz (gm hi);have hpz:=(w.A2[i]).sz_eq;unfold szs at hpz
 have hI:=DZ hi hk;replace H:=AI hI H
 have hw1:=BF (n:=(w.A2.length:Int) - 1) (by omega) (by omega);have hw2:=BF (n:=(w.A2[i].AO.length:Int) - 1) (by omega) (by omega)
 have hwi:Ay (i:Int) 0 ((w.A2.length:Int) - 1)=true:=by unfold Ay;simp;omega
 have hwk:Ay (k:Int) 0 ((w.A2[i].AO.length:Int) - 1)=true:=by unfold Ay;simp;omega
 replace H:=AI hw1 (AI hw2 (AI hwi (AI hwk H)))
 exact GA1
instance sAllI (w:A1):Ct cx 79 [.d (As w)] (w.sz≤134217728) (.d (.sl true Bc (((BD w)).map (A3.dd true)))):=by
 refine Xi func79 32 [.tmp 2] [25,31] [] AN (AI @Ez<|AI @Jz<|@J3) ?_;intro hp h M G H E
 have hwz:=w.sz_eq;unfold szs at hwz
 repeat' (first|(refine IN.mk ?_;intros)|(refine iTw ?_;refine T2 ?_ ?_<;>((try clear H);intro hb H)<;>try exact hb.elim)|(refine LF.mk ?_;exact LX)|refine GN ?_|(refine XL [1] [1] (fun k0 _=>[(4,.d (.lf (.int .i64 (k0:Int)))),(3,.d (.sl true Bc (((alK w k0)).map (A3.dd true))))]) (fun _ _=>[]) (w.A2.length) (fun _ _=>True) rU ?_;intro k0 hk0 s0 hi0;have hal:=K0 w hk0;have hae:w.A2.length≤k0→alK w k0=BD w:=fun h=>MH (by omega);have han:=K1 w k0)|(refine XL [1,4] [1] (fun k1 _=>[(5,.d (.lf (.int .i64 (k1:Int)))),(3,.d (.sl true Bc (((alK w k0++rfK k0 k1)).map (A3.dd true))))]) (fun _ _=>[]) (w.A2[k0].AO.length) (fun _ _=>True) rU ?_;intro k1 hk1 s1 hi1;have hrl:=Gi k0 k1;have hpg:=PG (w:=w) (k:=k0) (by omega);have hrn:=Ob k0 k1;(have hre:w.A2[k0].AO.length≤k1→rfK k0 k1=rfP w k0:=fun h=>by rw[Ez (by omega),show k1=w.A2[k0].AO.length by omega]))|fail)
theorem VX {α β:Type} {f:α→List β} {g:α→Nat} (h:∀x,(f x).length≤g x):∀l:List α,(l.flatMap f).length≤szL g l
 |[]=>Nat.le_refl _
 |x::l=>by have h1:=VX h l;have h2:=h x;simp only[List.flatMap_cons,List.length_append,szL];omega
theorem U4 (w:A1):(U5 w).length≤w.sz:=by
 have h1 : (U5 w).length ≤ szL A8.sz w.A2 := VX (fun p => by
  have h2:(p.Ai.flatMap AS.Ao).length≤szL AS.sz p.Ai:=VX (fun t=>by have:=t.sz_eq;unfold szs at this;omega) _
  have h3:=p.sz_eq;unfold szs at h3;omega) _
 have h4:=w.sz_eq;unfold szs at h4;omega
theorem Ev (w:A1) (s:ByteArray):(Cb w s).length≤w.sz:=by
 obtain⟨n,h1⟩:=MG w s
 obtain⟨m,r,h2,h3,h4, -⟩:=U3 w (U5 w) (fun s t ht=>Gd ht) _ _ (Ak w s) [] rfl rfl (by simp) (by simp) (fun t ht=>Gd ht)
 rw[Pk h1 h2]
 exact Nat.le_trans (Bu h3 h4) (U4 w)
theorem RY (w:A1) (s:ByteArray):∃n,SP w w.sz n s []:=by
 obtain⟨n,h1⟩:=MG w s
 exact⟨n+1,n,by omega,_,h1,Ev w s⟩
theorem Wn (w:A1) (s:ByteArray):HX w (Ak w s) []=Cb w s:=by
 obtain⟨n,h1⟩:=MG w s
 exact IQ h1
noncomputable def acT (w:A1) (t:AS):Bool:= !B6 (Cb w t.A6) t.A6
noncomputable def acP (w:A1) (p:A8):Bool:=p.Ai.all (acT w)
theorem RZ (w:A1):Sy w=w.A2.all (acP w):=rfl
def ptF (w:A1) (to:ByteArray) (n i:Nat) (t:ByteArray):Option (List Nat):=match n with
 |0=>none
 |m+1=>(pth w to m t).map (i:: ·)
theorem CQ (w:A1) (to s:ByteArray) (n:Nat):pth w to n s=if s=to then some [] else fs (ptF w to n) 0 (Ak w s):=by
 cases n with
 |zero=>
  by_cases h:s=to
  ·simp[pth,h]
  ·simp only[pth,h,if_false];exact(Ic (fun _ _=>rfl)).symm
 |succ m=>simp only[pth];rfl
theorem EV {w:A1} {to:ByteArray} {n:Nat} (h:0<n) (i:Nat) (t:ByteArray):ptF w to n i t=(pth w to (n - 1) t).map (i:: ·):=by
 cases n with
 |zero=>omega
 |succ m=>rfl
theorem F3 {w:A1} {to:ByteArray} {k:Nat} (l:List ByteArray):fs (ptF w to 0) k l=none:=Ic fun _ _=>rfl
theorem IW {w:A1} {to:ByteArray}:∀(n:Nat) (s:ByteArray) (r:List Nat),pth w to n s=some r→r.length≤n
 |0,s,r,h=>by
  rw[CQ] at h
  split at h
  ·cases h;simp
  ·rw[F3] at h;cases h
 |n+1,s,r,h=>by
  rw[CQ] at h
  split at h
  ·cases h;simp
  ·obtain⟨k,hk,h1, -⟩:=Lr h
   simp only[ptF,Nat.zero_add] at h1
   cases hq:pth w to n (Ak w s)[k] with
   |none=>rw[hq] at h1;cases h1
   |some r2=>rw[hq] at h1;simp at h1;subst h1;have:=IW n _ _ hq;simp;omega
instance sDaAt (w:A1) (s:ByteArray):Ct cx 279 [.d (As w),.d (.lf (.string (s)))] (True) (.tp [.d (((daR w s).1).dd false),.d (.lf (.int .i64 (((daR w s).2.1:Nat):Int))),.d (.lf (.bool ((daR w s).2.2)))]):=by
 refine Xiv func279 50 [.cell 4 61,.tmp 5,.tmp 6] [47] [] AN (AI @daR.eq_1<|AI @DW.eq_def<|AI @nmF.eq_1<|AI @Aw<|AI @Aq<|@zDa.eq_1) ?_;intro hp h M G H E
 repeat' (first|(refine IN.mk ?_;intros)|(refine iTw ?_;refine T2 ?_ ?_<;>((try clear H);intro hb H)<;>try exact hb.elim)|(refine LF.mk ?_;exact LX)|refine GN ?_|(refine XC [1,2,4] [2,4] 7 (w.A2.length) (fun k0=>inP A8.AE AF.A6 w s=fs (inF A8.AE AF.A6 s) k0 (w.A2.drop k0)) ?_;intro k0 hk0 hi0)|(refine XC [1,2,4,7] [2,4] 8 (w.A2[k0].AE.length) (fun k1=>inF A8.AE AF.A6 s k0 w.A2[k0]=fs (nmF AF.A6 s k0) k1 (w.A2[k0].AE.drop k1)) ?_;intro k1 hk1 hi1)|fail)
instance sDaV (w:A1) (i:Int) (s:ByteArray):Ct cx 240 [.d (As w),.d (.lf (.int .i64 (i))),.d (.lf (.string (s)))] (w.sz≤134217728) (.tp [.d (((daR w s).1).dd false),.d (.lf (.bool (daV w (vis w i) s)))]):=by
 refine Xiv func240 26 [.cell 6 61,.tmp 7] [18] [] AN (@daV.eq_1) ?_;intro hp h M G H E
 exact GA1
theorem cj (w:A1) (to:ByteArray):∀(N n:Nat),n<N→n≤8→∀(s:ByteArray) (h:HP),CS cx.P 399 [.d ((w).dd false),.d (.lf (.string (s))),.d (.lf (.string (to))),.d (.lf (.int .i64 ((n:Nat):Int)))] h (.tp [.d (.sl true .one ((((pth w to n s).getD [])).map (dN))),.d (.lf (.bool ((pth w to n s).isSome)))]) h:=by
 intro N
 induction N with
 |zero=>intro n hn;omega
 |succ N ih=>
 intro n hn hn8 s h
 have ii:∀(s:ByteArray) (m:Nat),Ct cx 399 [.d (As w),.d (.lf (.string (s))),.d (.lf (.string (to))),.d (.lf (.int .i64 ((m:Nat):Int)))] (m<N∧m≤8) (.tp [.d (.sl true .one ((((pth w to m s).getD [])).map (dN))),.d (.lf (.bool ((pth w to m s).isSome)))]):=fun s m=>⟨fk1 func399,fun hp h=>by have q:=ih m hp.1 hp.2 s h;first|exact q|simpa using q⟩
 have hsu:∀s,(trR w s).1.Ao=Ak w s:=fun _=>rfl
 have hw:0<n→IntKind.i64.wrap ((n:Int) - 1)=((n - 1:Nat):Int):=fun h0=>by rw[BF (by omega) (by omega)];omega
 have hpl:=@IW w to
 refine Xe func399 rfl 57 [.tmp 8,.tmp 9] ?_
 let M:List Nat:=[54]
 let G:List Nat:=[]
 have H:=AN
 have hn0:¬n=0→0<n:=fun e=>by omega
 replace H:=AI hn0 (AI hsu (AI hw H))
 repeat' (first|refine GO ?_|(refine Two.mk ?_ ?_<;>intro hb<;>(try simp at hb)<;>(try norm_cast at hb)<;>try replace H:=HN hb H)|(refine RG.mk ?_;(try clear hK hD);first|intro _ K hD hK|intro K hD hK)|(refine RF.mk ?_;intro hr)|(refine LF.mk ?_;(try clear hK hD);first|rfl|(simp[CQ,F3, *];done)|(simp_all [CQ,F3];done)|grind [CQ,F3]))
 refine W.loopR [2,3,4,10] [4,10] (fun k0 _=>[(13,.d (.lf (.int .i64 (k0:Int))))]) (fun _ _=>[]) ((Ak w s).length) (fun k0 _=>fs (ptF w to n) 0 (Ak w s)=fs (ptF w to n) k0 ((Ak w s).drop k0)) (fun S=>()) rfl (by simp) (by first|trivial|rfl|(simp;done)|(simp[CQ,Aw,EV];done)|(simp_all [CQ,Aw,EV];done)) ?_
 · intro k0 hk0 s0 hi0 T hT;simp at hT;subst hT
   by_cases hkk:k0<(Ak w s).length
   rotate_left
   have hfe:fs (ptF w to n) 0 (Ak w s)=none:=by rw[hi0,Aq _ _ (by omega)]
   clear hi0
   rotate_left
   have hf0:n=0→fs (ptF w to n) 0 (Ak w s)=none:=fun e=>by rw[e,F3]
   rcases hpt:pth w to (n - 1) (Ak w s)[k0] with _|r<;>replace H:=AI hpt H
   all_goals repeat' (first|refine GO ?_|(refine Two.mk ?_ ?_<;>intro hb<;>(try simp at hb)<;>(try norm_cast at hb)<;>try replace H:=HN hb H)|(refine RG.mk ?_;(try clear hK hD);first|intro _ K hD hK|intro K hD hK)|(refine RF.mk ?_;intro hr)|(refine LF.mk ?_;(try clear hK hD);first|rfl|(simp[CQ,Aw,EV, *];done)|(simp_all [CQ,Aw,EV];done)|grind [CQ,Aw,EV]))
instance lV (w:A1) (s to:ByteArray):Ct cx 399 [.d (As w),.d (.lf (.string (s))),.d (.lf (.string (to))),.d (.lf (.int .i64 8))] True (.tp [.d (.sl true .one ((((pth w to 8 s).getD [])).map (dN))),.d (.lf (.bool ((pth w to 8 s).isSome)))]):=⟨fk1 func399,fun _ h=>by have q:=cj w to 9 8 (by omega) (by omega) s h;first|exact q|simpa using q⟩
theorem mf (b:A9) (t:A0) (hp:b.sz≤134217728∧t.sz≤134217728) (h:HP):CS cx.P 216 [.d ((b).dd false),.d ((t).dd false)] h (.d (.lf (.bool (bSm b t)))) h:=by
 refine Xe func216 rfl 30 [.tmp 4] ?_
 let M:List Nat:=[]
 let G:List Nat:=[]
 have H:=AN
 have hbz:=b.sz_eq
 have htb:b.AM.sz≤134217728:=by have:=hp.1;omega
 have htt:=hp.2
 repeat' (first|refine GO ?_|(refine Two.mk ?_ ?_<;>intro hb<;>(try simp at hb)<;>(try norm_cast at hb)<;>try replace H:=HN hb H)|(refine RG.mk ?_;(try clear hK hD);first|intro _ K hD hK|intro K hD hK)|(refine RF.mk ?_;intro hr)|(refine LF.mk ?_;(try clear hK hD);first|rfl|(simp[Ck,bs1,Bb,BK,Int.ofNat_lt,Int.ofNat_le, *];done)|(simp_all [Ck,bs1,Bb,BK,Int.ofNat_lt,Int.ofNat_le];done)|grind [Ck,bs1,Bb,BK,Int.ofNat_lt,Int.ofNat_le]))
 refine W.loopR [2,3,9,10] [2,3] (fun k0 _=>[(11,.d (.lf (.int .i64 (k0:Int))))]) (fun _ _=>[]) ((tv b.AM).length) (fun k0 _=>(tv b.AM).all (bs1 b t)=((tv b.AM).drop k0).all (bs1 b t)) (fun S=>()) rfl (by simp) (by first|trivial|rfl|(simp;done)|(simp[Ck,bs1,Bb,BK,Int.ofNat_lt,Int.ofNat_le];done)|(simp_all [Ck,bs1,Bb,BK,Int.ofNat_lt,Int.ofNat_le];done)) ?_
 intro k0 hk0 s0 hi0 T hT;simp at hT;subst hT
 repeat' (first|refine GO ?_|(refine Two.mk ?_ ?_<;>intro hb<;>(try simp at hb)<;>(try norm_cast at hb)<;>try replace H:=HN hb H)|(refine RG.mk ?_;(try clear hK hD);first|intro _ K hD hK|intro K hD hK)|(refine RF.mk ?_;intro hr)|(refine LF.mk ?_;(try clear hK hD);first|rfl|(simp[Ck,bs1,Bb,BK,Int.ofNat_lt,Int.ofNat_le, *];done)|(simp_all [Ck,bs1,Bb,BK,Int.ofNat_lt,Int.ofNat_le];done)|grind [Ck,bs1,Bb,BK,Int.ofNat_lt,Int.ofNat_le]))
theorem iP (w:A1) (t:A0) (h:HP):CS cx.P 205 [.d ((w).dd false),.d ((t).dd false)] h (.d (.lf (.int .i64 (Fh w t)))) h:=by
 refine Xe func205 rfl 27 [.tmp 4] ?_
 let M:List Nat:=[]
 let G:List Nat:=[]
 have H:=AN
 repeat' (first|refine GO ?_|(refine Two.mk ?_ ?_<;>intro hb<;>(try simp at hb)<;>(try norm_cast at hb)<;>try replace H:=HN hb H)|(refine RG.mk ?_;(try clear hK hD);first|intro _ K hD hK|intro K hD hK)|(refine RF.mk ?_;intro hr)|(refine LF.mk ?_;(try clear hK hD);first|rfl|(simp[Fh, *];done)|(simp_all [Fh];done)|grind [Fh]))
instance ju (w:A1) (k:Int) (s:ByteArray) (l:List A0):Ct cx 205 [.d (As w),.d (uK k s l)] (True) (.d (.lf (.int .i64 (Fh w ⟨k,s,l⟩)))):=⟨fk1 func205,fun hp h=>by have q:=iP w ⟨k,s,l⟩ h;first|exact q|simpa using q⟩
instance lW (v:ByteArray) (k:Int) (n:ByteArray) (l:List A0):Ct cx 233 [.d (.lf (.string (v))),.d (uK k n l)] (A0.sz ⟨k,n,l⟩≤134217728) (.d (.lf (.bool (decide (0<occ v ⟨k,n,l⟩))))):=⟨fk1 func233,fun hp h=>by have q:=KX v ⟨k,n,l⟩ hp h;first|exact q|simpa using q⟩
instance sDynS (t:AS):Ct cx 310 [.d (K5 t)] (t.sz≤134217728) (.d (.lf (.bool (ZC t)))):=by
 refine Xi func310 43 [.tmp 2] [] [] AN (AI @R3<|AI @Sj.eq_1<|AI @Ca<|AI @Bp<|@Eh.eq_1) ?_;intro hp h M G H E
 have qTrait:=AS.sz_eq;have Ot:=@Bm _ AS.sz;unfold szs at qTrait
 have qSignature:=AC.sz_eq;have gSignature:=@Bm _ AC.sz;unfold szs at qSignature
 have qType:=A0.sz_eq;have gType:=@Bm _ A0.sz;unfold szs at qType
 repeat' (first|(refine IN.mk ?_;intros)|(refine iTw ?_;refine T2 ?_ ?_<;>((try clear H);intro hb H)<;>try exact hb.elim)|(refine LF.mk ?_;exact LX)|refine GN ?_|(refine XC [1] [1] 3 (t.AU.length) (fun k0=>t.AU.any Sj=(t.AU.drop k0).any Sj) ?_;intro k0 hk0 hi0)|(refine XC [1,3] [1] 4 (t.AU[k0].Al.length) (fun k1=>(t.AU[k0].Al.any fun p=>decide (0<occ Eh p))=(t.AU[k0].Al.drop k1).any fun p=>decide (0<occ Eh p)) ?_;intro k1 hk1 hi1)|fail)
instance sDyn (w:A1) (i:Int) (s:ByteArray):Ct cx 238 [.d (As w),.d (.lf (.int .i64 (i))),.d (.lf (.string (s)))] (w.sz≤134217728) (.d (.lf (.int .i64 (ckD w (vis w i) s)))):=by
 refine Xi func238 21 [.tmp 6] [] [] AN (@ckD.eq_1) ?_;intro hp h M G H E
 have ht:=ET w
 exact GA0
instance sHere (w:A1) (i:Int) (k:Int) (s:ByteArray) (l:List A0):Ct cx 166 [.d (As w),.d (.lf (.int .i64 (i))),.d (uK k s l)] (w.sz≤134217728) (.d (.lf (.int .i64 (ckH w (vis w i) k s l.length)))):=by
 refine Xi func166 59 [.tmp 6] [] [] AN (@ckH.eq_1) ?_;intro hp h M G H E
 exact GA0
instance sSig (t:AS) (s:ByteArray):Ct cx 169 [.d (K5 t),.d (.lf (.string (s)))] (True) (.tp [.d (((siR t s).1).dd false),.d (.lf (.bool ((siR t s).2.2)))]):=by
 refine Xiv func169 28 [.cell 4 109,.tmp 5] [26] [] AN (AI @siR.eq_1<|AI @byN.eq_1<|AI @DW.eq_def<|AI @byF.eq_1<|AI @Aw<|AI @Aq<|AI @zSi.eq_1<|AI @zT.eq_1<|@zX.eq_1) ?_;intro hp h M G H E
 repeat' (first|(refine IN.mk ?_;intros)|(refine iTw ?_;refine T2 ?_ ?_<;>((try clear H);intro hb H)<;>try exact hb.elim)|(refine LF.mk ?_;exact LX)|refine GN ?_|(refine XC [1,2,4] [2,4] 6 (t.AU.length) (fun k0=>fs (byF AC.A6 s) 0 t.AU=fs (byF AC.A6 s) k0 (t.AU.drop k0)) ?_;intro k0 hk0 hi0)|fail)
instance sCtV (w:A1) (i:Int) (s:ByteArray):Ct cx 242 [.d (As w),.d (.lf (.int .i64 (i))),.d (.lf (.string (s)))] (w.sz≤134217728) (.tp [.d (((ctR w s).1).dd false),.d (.lf (.int .i64 (((ctR w s).2.1:Nat):Int))),.d (.lf (.bool (ctV w (vis w i) s)))]):=by
 refine Xiv func242 40 [.cell 6 61,.tmp 7,.tmp 8] [24,34] [] AN (@ctV.eq_1) ?_;intro hp h M G H E
 exact GA0
theorem SX (N:Nat) (ii:∀(k:Int) (n:ByteArray) (l:List A0),Ct cx 292 [.d (uK k n l)] (AQ (⟨k,n,l⟩:A0)<N∧A0.wd (⟨k,n,l⟩:A0)) (.d (((⟨k,n,l⟩:A0)).dd true))):∀(l:List A0),Ct cx 358 [.d (.sl false Ag ((l).map (A0.dd false)))] (Ae l<N∧l.length≤134217728∧(∀y∈l,y.wd)) (.d (.sl true Ag (((l)).map (A0.dd true)))):=fun l=>by
 refine Xi func358 23 [.tmp 2] [15,22] [] AN trivial ?_;intro hp h M G H E
 have gx:∀k (hk:k<l.length),AQ l[k]<N∧l[k].wd:=fun k hk=>⟨by have:=Bo hk;have:=hp.1;omega,hp.2.2 _ (gm hk)⟩;replace H:=AI gx H
 have hF:TOF (A0.dd true) (.st [.lf (.int .i64 0),.lf (.string ⟨#[]⟩),.sl true Ag []]) Ag l:=⟨A0.sh_dd true,rfl,by decide⟩
 repeat' (first|(refine iE ?_;(obtain rfl:k0=l.length:=(by omega));refine XFb 3 8 l ?_;refine GN ?_)|(refine IN.mk ?_;intros)|(refine iTw ?_;refine T2 ?_ ?_<;>((try clear H);intro hb H)<;>try exact hb.elim)|(refine LF.mk ?_;exact LX)|refine GN ?_|(refine XTb [3,9,10] 11 8 l ?_;intro k0 hk0 hr;have hs:=hr.2.2.1;(try simp at hs);replace H:=AI hr (AI hs H))|fail)
theorem VL:∀(N:Nat) (k:Int) (n:ByteArray) (l:List A0),Ct cx 292 [.d (uK k n l)] (AQ (⟨k,n,l⟩:A0)<N∧A0.wd (⟨k,n,l⟩:A0)) (.d (((⟨k,n,l⟩:A0)).dd true)):=by
 intro N
 induction N with
 |zero=>intro k n l;exact⟨fk1 func292,fun hp=>absurd hp.1 (Nat.not_lt_zero _)⟩
 |succ N ih=>
 intro k n l
 have jj:=SX N ih
 refine Xi func292 8 [.cell 2 65] [7] [] AN trivial ?_;intro hp h M G H E
 have hla:Ae l<N∧l.length≤134217728∧(∀y∈l,y.wd):=⟨by have:=BE ⟨k,n,l⟩;have:=hp.1;simp only at*;omega,Cz hp.2,Bj hp.2⟩;replace H:=AI hla H
 exact GA0
instance e7 (k:Int) (n:ByteArray) (l:List A0):Ct cx 292 [.d (uK k n l)] (A0.wd (⟨k,n,l⟩:A0)) (.d (((⟨k,n,l⟩:A0)).dd true)):=⟨fk1 func292,fun hp h=>(VL _ k n l).cs ⟨Nat.lt_succ_self _,hp⟩ h⟩
instance iLook (s:List A5) (v:ByteArray):Ct cx 402 [.d (.sl false B9 ((s).map (A5.dd false))),.d (.lf (.string (v)))] (∀b∈s,b.AM.wd) (.tp [.d ((((lkB s v).getD zT)).dd true),.d (.lf (.bool ((lkB s v).isSome)))]):=by
 refine Xi func402 23 [.cell 4 65,.tmp 5] [13] [] AN (AI @ay<|AI @Ux<|@zT.eq_1) ?_;intro hp h M G H E
 have hpp:=fun k (h:k<s.length)=>hp _ (gm h);replace H:=AI hpp H
 repeat' (first|(refine IN.mk ?_;intros)|(refine iTw ?_;refine T2 ?_ ?_<;>((try clear H);intro hb H)<;>try exact hb.elim)|(refine LF.mk ?_;exact LX)|refine GN ?_|(refine XC [1,4,8,9] [4] 10 (s.length) (fun k0=>lkB s v=lkB (s.drop k0) v) ?_;intro k0 hk0 hi0)|fail)
def apD (s:List A5) (y:A0):DD:=(ap s y).dd true
theorem a4 (s:List A5) (l:List A0):(l.map (ap s)).map (A0.dd true)=l.map (apD s):=by rw[List.map_map];rfl
theorem SY (N:Nat) (ii:∀(s:List A5) (k:Int) (n:ByteArray) (l:List A0),Ct cx 354 [.d (.sl false B9 ((s).map (A5.dd false))),.d (uK k n l)] (AQ (⟨k,n,l⟩:A0)<N∧A0.wd (⟨k,n,l⟩:A0)∧∀b∈s,b.AM.wd) (.d (((ap s (⟨k,n,l⟩:A0))).dd true))):∀(s:List A5) (l:List A0),Ct cx 403 [.d (.sl false B9 ((s).map (A5.dd false))),.d (.sl false Ag ((l).map (A0.dd false)))] (Ae l<N∧l.length≤134217728∧(∀y∈l,y.wd)∧∀b∈s,b.AM.wd) (.d (.sl true Ag (((l.map (ap s))).map (A0.dd true)))):=fun s l=>by
 refine Xi func403 26 [.tmp 4] [17,25] [] AN trivial ?_;intro hp h M G H E
 have gx:∀k (hk:k<l.length),AQ l[k]<N∧l[k].wd:=fun k hk=>⟨by have:=Bo hk;have:=hp.1;omega,hp.2.2.1 _ (gm hk)⟩;replace H:=AI gx H;have hpp:=hp.2.2.2;replace H:=AI hpp H
 have hF:TOF (apD s) (.st [.lf (.int .i64 0),.lf (.string ⟨#[]⟩),.sl true Ag []]) Ag l:=⟨fun y=>A0.sh_dd true _,rfl,by decide⟩
 have hmd:=a4 s l;replace H:=AI hmd H
 repeat' (first|(refine iE ?_;(obtain rfl:k0=l.length:=(by omega));refine XFb 5 10 l ?_;refine GN ?_)|(refine IN.mk ?_;intros)|(refine iTw ?_;refine T2 ?_ ?_<;>((try clear H);intro hb H)<;>try exact hb.elim)|(refine LF.mk ?_;exact LX)|refine GN ?_|(refine XTb [0,5,11,12] 13 10 l ?_;intro k0 hk0 hr;have hs:=hr.2.2.1;(try simp[apD] at hs);replace H:=AI hr (AI hs H))|fail)
theorem VN:∀(N:Nat) (s:List A5) (k:Int) (n:ByteArray) (l:List A0),Ct cx 354 [.d (.sl false B9 ((s).map (A5.dd false))),.d (uK k n l)] (AQ (⟨k,n,l⟩:A0)<N∧A0.wd (⟨k,n,l⟩:A0)∧∀b∈s,b.AM.wd) (.d (((ap s (⟨k,n,l⟩:A0))).dd true)):=by
 intro N
 induction N with
 |zero=>intro s k n l;exact⟨fk1 func354,fun hp=>absurd hp.1 (Nat.not_lt_zero _)⟩
 |succ N ih=>
 intro s k n l
 have jj:=SY N ih
 refine Xi func354 28 [.cell 4 65] [10,15,18] [] AN trivial ?_;intro hp h M G H E
 have hla:Ae l<N∧l.length≤134217728∧(∀y∈l,y.wd):=⟨by have:=BE ⟨k,n,l⟩;have:=hp.1;simp only at*;omega,Cz hp.2.1,Bj hp.2.1⟩;replace H:=AI hla H;have hpp:=hp.2.2;replace H:=AI hpp H
 have he:=bR s ⟨k,n,l⟩;simp only at he;replace H:=AI he H
 exact GA2
instance eB (s:List A5) (k:Int) (n:ByteArray) (l:List A0):Ct cx 354 [.d (.sl false B9 ((s).map (A5.dd false))),.d (uK k n l)] (A0.wd (⟨k,n,l⟩:A0)∧∀b∈s,b.AM.wd) (.d (((ap s (⟨k,n,l⟩:A0))).dd true)):=⟨fk1 func354,fun hp h=>(VN _ s k n l).cs ⟨Nat.lt_succ_self _,hp⟩ h⟩
theorem dt (w:A1) (to:ByteArray):∀(N n:Nat),n<N→n≤8→∀(s:ByteArray) (h:HP),CS cx.P 413 [.d ((w).dd false),.d (.lf (.string (s))),.d (.lf (.string (to))),.d (.lf (.int .i64 ((n:Nat):Int)))] h (.tp [.d (.sl true .one ((((pth w to n s).getD [])).map (dN))),.d (.lf (.bool ((pth w to n s).isSome)))]) h:=by
 intro N
 induction N with
 |zero=>intro n hn;omega
 |succ N ih=>
 intro n hn hn8 s h
 have ii:∀(s:ByteArray) (m:Nat),Ct cx 413 [.d (As w),.d (.lf (.string (s))),.d (.lf (.string (to))),.d (.lf (.int .i64 ((m:Nat):Int)))] (m<N∧m≤8) (.tp [.d (.sl true .one ((((pth w to m s).getD [])).map (dN))),.d (.lf (.bool ((pth w to m s).isSome)))]):=fun s m=>⟨fk1 func413,fun hp h=>by have q:=ih m hp.1 hp.2 s h;first|exact q|simpa using q⟩
 have hsu:∀s,(trR w s).1.Ao=Ak w s:=fun _=>rfl
 have hw:0<n→IntKind.i64.wrap ((n:Int) - 1)=((n - 1:Nat):Int):=fun h0=>by rw[BF (by omega) (by omega)];omega
 have hpl:=@IW w to
 refine Xe func413 rfl 53 [.tmp 8,.tmp 9] ?_
 let M:List Nat:=[50]
 let G:List Nat:=[]
 have H:=AN
 have hn0:¬n=0→0<n:=fun e=>by omega
 replace H:=AI hn0 (AI hsu (AI hw H))
 repeat' (first|refine GO ?_|(refine Two.mk ?_ ?_<;>intro hb<;>(try simp at hb)<;>(try norm_cast at hb)<;>try replace H:=HN hb H)|(refine RG.mk ?_;(try clear hK hD);first|intro _ K hD hK|intro K hD hK)|(refine RF.mk ?_;intro hr)|(refine LF.mk ?_;(try clear hK hD);first|rfl|(simp[CQ,F3, *];done)|(simp_all [CQ,F3];done)|grind [CQ,F3]))
 refine W.loopR [2,3,4,31,32] [4] (fun k0 _=>[(33,.d (.lf (.int .i64 (k0:Int))))]) (fun _ _=>[]) ((Ak w s).length) (fun k0 _=>fs (ptF w to n) 0 (Ak w s)=fs (ptF w to n) k0 ((Ak w s).drop k0)) (fun S=>()) rfl (by simp) (by first|trivial|rfl|(simp;done)|(simp[CQ,Aw,EV];done)|(simp_all [CQ,Aw,EV];done)) ?_
 · intro k0 hk0 s0 hi0 T hT;simp at hT;subst hT
   by_cases hkk:k0<(Ak w s).length
   rotate_left
   have hfe:fs (ptF w to n) 0 (Ak w s)=none:=by rw[hi0,Aq _ _ (by omega)]
   clear hi0
   rotate_left
   have hf0:n=0→fs (ptF w to n) 0 (Ak w s)=none:=fun e=>by rw[e,F3]
   rcases hpt:pth w to (n - 1) (Ak w s)[k0] with _|r<;>replace H:=AI hpt H
   all_goals repeat' (first|refine GO ?_|(refine Two.mk ?_ ?_<;>intro hb<;>(try simp at hb)<;>(try norm_cast at hb)<;>try replace H:=HN hb H)|(refine RG.mk ?_;(try clear hK hD);first|intro _ K hD hK|intro K hD hK)|(refine RF.mk ?_;intro hr)|(refine LF.mk ?_;(try clear hK hD);first|rfl|(simp[CQ,Aw,EV, *];done)|(simp_all [CQ,Aw,EV];done)|grind [CQ,Aw,EV]))
instance mK (w:A1) (s to:ByteArray):Ct cx 413 [.d (As w),.d (.lf (.string (s))),.d (.lf (.string (to))),.d (.lf (.int .i64 8))] True (.tp [.d (.sl true .one ((((pth w to 8 s).getD [])).map (dN))),.d (.lf (.bool ((pth w to 8 s).isSome)))]):=⟨fk1 func413,fun _ h=>by have q:=dt w to 9 8 (by omega) (by omega) s h;first|exact q|simpa using q⟩
instance iSelf (y:AC):Ct cx 329 [.d (K6 y)] (y.sz≤134217728) (.d (.lf (.bool (Sj y)))):=by
 refine Xi func329 11 [.tmp 2] [] [] AN (AI @Sj.eq_1<|@Eh.eq_1) ?_;intro hp h M G H E
 have qSignature:=AC.sz_eq;have gSignature:=@Bm _ AC.sz;unfold szs at qSignature
 have qType:=A0.sz_eq;have gType:=@Bm _ A0.sz;unfold szs at qType
 have hy:∀z∈y.Al,z.sz≤134217728:=fun z hz=>by have:=Ah A0.sz hz;have:=y.sz_eq;unfold szs at this;omega
 replace H:=AI hy H
 exact GA1
instance iDynS (t:AS):Ct cx 264 [.d (K5 t)] (t.sz≤134217728) (.d (.lf (.bool (ZC t)))):=by
 refine Xi func264 12 [.tmp 2] [] [] AN (@R3) ?_;intro hp h M G H E
 have hy:∀z∈t.AU,z.sz≤134217728:=fun z hz=>by have:=Ah AC.sz hz;have:=t.sz_eq;unfold szs at this;omega
 replace H:=AI hy H
 exact GA1
