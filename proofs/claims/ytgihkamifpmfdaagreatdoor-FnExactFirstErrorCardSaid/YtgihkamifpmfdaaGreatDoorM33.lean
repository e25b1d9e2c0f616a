/- Part 33. No condition. -/
import Derived.Test.YtgihkamifpmfdaaGreatDoorM27
import Derived.Test.YtgihkamifpmfdaaGreatDoorM29
import Derived.Test.YtgihkamifpmfdaaGreatDoorM32
namespace Go.Proofs.YtgihkamifpmfdaaGreatDoor
open Go.RowKit Tryz
set_option linter.unusedVariables false
set_option maxRecDepth 10000
set_option linter.unusedSimpArgs false
set_option maxHeartbeats 4000000
theorem Pm (n:Int):IntKind.i64.wrap n=Int.bmod n 18446744073709551616:=by
 have h:IntKind.i64.wrap n=if n % 18446744073709551616≥9223372036854775808 then n % 18446744073709551616 - 18446744073709551616 else n % 18446744073709551616:=by
  unfold IntKind.wrap;simp[IntKind.bits,IntKind.signed]
 rw[h,Int.bmod]
 split<;>split<;>omega
theorem Mk (a b:Int):IntKind.i64.wrap (IntKind.i64.wrap a+IntKind.i64.wrap b)=IntKind.i64.wrap (a+b):=by
 simp only[Pm,Int.bmod_add_bmod,Int.add_bmod_bmod]
theorem SC (a b:Int):IntKind.i64.wrap (IntKind.i64.wrap a+b)=IntKind.i64.wrap (a+b):=by
 simp only[Pm,Int.bmod_add_bmod]
theorem I6:∀(l:List A0) (x:A0),Ag (l++[x])=Ag l+AR x
 |[],x=>by simp[Ag]
 |y::l,x=>by simp only[List.cons_append,Ag,I6 l x];omega
theorem Kx (v:BA'):∀(l:List A0) (x:A0),DW v (l++[x])=DW v l+occ v x
 |[],x=>by simp[DW]
 |y::l,x=>by simp only[List.cons_append,DW,Kx v l x];omega
def swK (l:List A0) (k:Nat):Int:=IntKind.i64.wrap ((1+Ag (l.take k):Nat):Int)
theorem NB (l:List A0):swK l 0=1:=by simp only[swK,List.take_zero,Ag];exact BH (by decide) (by decide)
theorem Uc {l:List A0} {k:Nat} (h:k<l.length):IntKind.i64.wrap (swK l k+szW l[k])=swK l (k+1):=by
 unfold swK szW
 rw[Mk,Y' h,I6]
 congr 1;omega
theorem Q8 {l:List A0} {k:Nat} (h:l.length≤k) (a:Int) (n:BA'):swK l k=szW ⟨a,n,l⟩:=by
 unfold swK szW;rw[List.take_of_length_le h];rfl
def ocW (v:BA') (x:A0):Int:=IntKind.i64.wrap (occ v x:Int)
theorem VM {v:BA'} {x:A0} (h:AR x<4611686018427387904):ocW v x=(occ v x:Int):=by
 have:=VL v x
 exact BH (by omega) (by omega)
def ocC (v:BA') (c:Nat) (l:List A0) (k:Nat):Int:=IntKind.i64.wrap ((c+DW v (l.take k):Nat):Int)
theorem VN (v:BA') (l:List A0):ocC v 0 l 0=0∧ocC v 1 l 0=1:=by
 simp only[ocC,List.take_zero,DW]
 exact⟨BH (by decide) (by decide),BH (by decide) (by decide)⟩
theorem VO {v:BA'} {c:Nat} {l:List A0} {k:Nat} (h:k<l.length):IntKind.i64.wrap (ocC v c l k+ocW v l[k])=ocC v c l (k+1):=by
 unfold ocC ocW
 rw[Mk,Y' h,Kx]
 congr 1;omega
theorem Qm {v:BA'} {c:Nat} {a:Int} {n:BA'} {l:List A0} {k:Nat} (h:l.length≤k) (hc:(if a=1∧n=v then 1 else 0)=c):ocC v c l k=ocW v ⟨a,n,l⟩:=by
 unfold ocC ocW;rw[List.take_of_length_le h];simp only[occ,hc]
def tvO (x:A0) (o:List BA'):Prop:=x.wd∧∃U:List BA',U.length≤67108864∧vin U x∧o.Nodup∧∀v∈o,v∈U
theorem Oj {U:List BA'} {o:List BA'} {k:Int} {n:BA'} (h:k=1→n∈U) (ho:o.Nodup∧∀v∈o,v∈U):(tvS o k n).Nodup∧∀v∈tvS o k n,v∈U:=by
 unfold tvS
 split
 ·rename_i e
  refine⟨List.nodup_append.2 ⟨ho.1,by simp,fun a ha b hb q=> ?_⟩,fun v hv=> ?_⟩
  ·simp only[List.mem_singleton] at hb;subst hb;subst q
   exact e.2 (Di.2 ha)
  ·rcases List.mem_append.1 hv with hv|hv
   ·exact ho.2 v hv
   ·simp only[List.mem_singleton] at hv;subst hv;exact h e.1
 ·exact ho
mutual
theorem UD {U:List BA'}:∀(x:A0) (o:List BA'),vin U x→(o.Nodup∧∀v∈o,v∈U)→(tvs x o).Nodup∧∀v∈tvs x o,v∈U
 |⟨k,n,l⟩,o,h,ho=>by
  simp only[vin] at h
  simp only[tvs];exact Ie l _ h.2 (Oj h.1 ho)
theorem Ie {U:List BA'}:∀(l:List A0) (o:List BA'),D8 U l→(o.Nodup∧∀v∈o,v∈U)→(CC l o).Nodup∧∀v∈CC l o,v∈U
 |[],o,_,ho=>by simpa[CC] using ho
 |x::l,o,h,ho=>by
  simp only[D8] at h
  simp only[CC];exact Ie l _ h.2 (UD x o h.1 ho)
end
theorem SH {U:List BA'} {l:List A0} (h:D8 U l) (k:Nat):D8 U (l.take k):=LR fun x hx=>E2 h x (List.mem_of_mem_take hx)
def tvk (a:Int) (n:BA') (l:List A0) (o:List BA') (k:Nat):List BA':=CC (l.take k) (tvS o a n)
theorem Q1 {a:Int} {n:BA'} {l:List A0} {o:List BA'} {k:Nat} (h:l.length≤k):tvk a n l o k=tvs ⟨a,n,l⟩ o:=by unfold tvk;rw[List.take_of_length_le h];simp only[tvs]
def tvJ (l:List A0) (o:List BA') (k:Nat):List BA':=CC (l.take k) o
theorem N6 (l:List A0) (o:List BA'):tvJ l o 0=o:=by simp[tvJ,CC]
theorem Ok {l:List A0} {o:List BA'} {k:Nat} (h:k<l.length):tvs l[k] (tvJ l o k)=tvJ l o (k+1):=by
 unfold tvJ;rw[Y' h,GZ];rfl
theorem UG {a:Int} {n:BA'} {l:List A0} {o:List BA'} {k:Nat} (h:tvO ⟨a,n,l⟩ o) (hk:k<l.length):tvO l[k] (tvk a n l o k):=by
 obtain⟨hw,U,h1,h2,h3⟩:=h
 simp only[vin] at h2
 exact⟨Bj hw _ (gm hk),U,h1,E2 h2.2 _ (gm hk),Ie _ _ (SH h2.2 k) (Oj h2.1 h3)⟩
theorem YI {x:A0} {o:List BA'} (h:tvO x o):o.length≤67108864:=by
 obtain⟨hw,U,h1,h2,h3⟩:=h
 have:=Bu h3.1 h3.2;omega
theorem Gc {x:A0} {o:List BA'} (h:tvO x o):(tvs x o).length≤67108864:=by
 obtain⟨hw,U,h1,h2,h3⟩:=h
 have h4:=UD x o h2 h3
 have:=Bu h4.1 h4.2;omega
theorem Ig {x:A0} {U:List BA'} (hw:x.wd) (hU:U.length≤67108864) (h:vin U x):tvO x []:=⟨hw,U,hU,h,by simp,by simp⟩
theorem jx {l:List A0} {k:Nat} (h:k<l.length):D2 (l.drop k)=(Bq l[k]||D2 (l.drop (k+1))):=by
 rw[List.drop_eq_getElem_cons h];simp only[D2]
theorem ec {l:List A0} {k:Nat} (h:l.length≤k):D2 (l.drop k)=false:=by
 rw[List.drop_eq_nil_of_le h];rfl
theorem jw (a:Int) (n:BA') (l:List A0):Bq ⟨a,n,l⟩=(D2 l||decide (a=3)):=by simp only[Bq]
theorem Yq:∀(N:Nat) (k:Int) (n:BA') (l:List A0),Ct cx 207 [.d (uK k n l)] (AR (⟨k,n,l⟩:A0)<N∧A0.wd (⟨k,n,l⟩:A0)) (dI' (szW (⟨k,n,l⟩:A0))):=by
 intro N
 induction N with
 |zero=>intro k n l;exact⟨fk1 func207,fun hp=>absurd hp.1 (Nat.not_lt_zero _)⟩
 |succ N ih=>
 intro k n l
 refine Xi func207 21 [.tmp 2] [] [] AN (@NB) ?_;intro hp h M G H E
 have gs:∀j (hj:j<l.length),AR l[j]<N:=fun j hj=>by have:=Bo hj;have:=BG (⟨k,n,l⟩:A0);have:=hp.1;simp only at*;omega
 have gx:∀j (hj:j<l.length),AR l[j]<N∧l[j].wd:=fun j hj=>⟨gs j hj,Bj hp.2 _ (gm hj)⟩;have hlw:=D0 hp.2;simp only at hlw;replace H:=AI gx (AI hlw H)
 repeat' (first|(refine IN.mk ?_;intros)|(refine iTw ?_;refine T2 ?_ ?_<;>((try clear H);intro hb H)<;>try exact hb.elim)|(refine LF.mk ?_;exact LX)|refine GN ?_|(refine XL [1] [1] (fun k0 _=>[(4,dI' k0),(3,dI' (swK l k0))]) (fun _ _=>[]) (l.length) (fun _ _=>True) rU ?_;intro k0 hk0 s0 hi0;have hse:l.length≤k0→swK l k0=szW (⟨k,n,l⟩:A0):=fun h=>Q8 h k n;have hsn:∀h:k0<l.length,IntKind.i64.wrap (swK l k0+szW l[k0])=swK l (k0+1):=fun h=>Uc h)|fail)
instance (priority:=2000) sTszW (k:Int) (n:BA') (l:List A0):Ct cx 207 [.d (uK k n l)] (A0.wd (⟨k,n,l⟩:A0)) (dI' (szW (⟨k,n,l⟩:A0))):=⟨fk1 func207,fun hp h=>(Yq _ k n l).cs ⟨Nat.lt_succ_self _,hp⟩ h⟩
theorem Yy:∀(N:Nat) (v:BA') (k:Int) (n:BA') (l:List A0),Ct cx 206 [.d (uK k n l),dS' v] (AR (⟨k,n,l⟩:A0)<N∧A0.wd (⟨k,n,l⟩:A0)) (dI' (ocW v (⟨k,n,l⟩:A0))):=by
 intro N
 induction N with
 |zero=>intro v k n l;exact⟨fk1 func206,fun hp=>absurd hp.1 (Nat.not_lt_zero _)⟩
 |succ N ih=>
 intro v k n l
 refine Xi func206 33 [.tmp 4] [] [] AN (@VN) ?_;intro hp h M G H E
 have gs:∀j (hj:j<l.length),AR l[j]<N:=fun j hj=>by have:=Bo hj;have:=BG (⟨k,n,l⟩:A0);have:=hp.1;simp only at*;omega
 have gx:∀j (hj:j<l.length),AR l[j]<N∧l[j].wd:=fun j hj=>⟨gs j hj,Bj hp.2 _ (gm hj)⟩;have hlw:=D0 hp.2;simp only at hlw;replace H:=AI gx (AI hlw H)
 have hoy:k=1∧n=v→(if k=1∧n=v then 1 else 0)=1:=fun h=>if_pos h;have hon:(k=1→¬n=v)→(if k=1∧n=v then 1 else 0)=0:=fun h=>if_neg (fun q=>h q.1 q.2)
 repeat' (first|exact true|(refine IN.mk ?_;intros)|(refine iTw ?_;refine T2 ?_ ?_<;>((try clear H);intro hb H)<;>try exact hb.elim)|(refine LF.mk ?_;exact LX)|refine BO.mk ?_ ?_|(apply iPJ;exact NPJ)|apply PXs.of|refine GN ?_|(have hca:=hoy hb;refine XL [1,2] [2] (fun k0 _=>[(6,dI' k0),(5,dI' (ocC v 1 l k0))]) (fun _ _=>[]) (l.length) (fun _ _=>True) rU ?_;intro k0 hk0 s0 hi0;have hse:l.length≤k0→ocC v 1 l k0=ocW v (⟨k,n,l⟩:A0):=fun h=>Qm h hca;have hsn:∀h:k0<l.length,IntKind.i64.wrap (ocC v 1 l k0+ocW v l[k0])=ocC v 1 l (k0+1):=fun h=>VO h)|(have hca:=hon hb;refine XL [1,2] [2] (fun k0 _=>[(6,dI' k0),(5,dI' (ocC v 0 l k0))]) (fun _ _=>[]) (l.length) (fun _ _=>True) rU ?_;intro k0 hk0 s0 hi0;have hse:l.length≤k0→ocC v 0 l k0=ocW v (⟨k,n,l⟩:A0):=fun h=>Qm h hca;have hsn:∀h:k0<l.length,IntKind.i64.wrap (ocC v 0 l k0+ocW v l[k0])=ocC v 0 l (k0+1):=fun h=>VO h)|fail)
instance (priority:=2000) sCntW (v:BA') (k:Int) (n:BA') (l:List A0):Ct cx 206 [.d (uK k n l),dS' v] (A0.wd (⟨k,n,l⟩:A0)) (dI' (ocW v (⟨k,n,l⟩:A0))):=⟨fk1 func206,fun hp h=>(Yy _ v k n l).cs ⟨Nat.lt_succ_self _,hp⟩ h⟩
instance (priority:=2000) sOccW (v:BA') (k:Int) (n:BA') (l:List A0):Ct cx 281 [dS' v,.d (uK k n l)] (A0.wd (⟨k,n,l⟩:A0)∧AR (⟨k,n,l⟩:A0)<4611686018427387904) (dB' (decide (0<occ v (⟨k,n,l⟩:A0)))):=by
 refine Xi func281 9 [.tmp 4] [] [] AN trivial ?_;intro hp h M G H E
 have hoe:=VM (v:=v) hp.2;have hwd:=hp.1;replace H:=AI hoe (AI hwd H)
 all_goals exact GA0
theorem eE:∀(N:Nat) (o:List BA') (k:Int) (n:BA') (l:List A0),Ct cx 295 [.d (uK k n l),.d (.sl true .one ((o).map (dS)))] (AR (⟨k,n,l⟩:A0)<N∧tvO (⟨k,n,l⟩:A0) o) (.d (.sl true .one (((tvs (⟨k,n,l⟩:A0) o)).map (dS)))):=by
 intro N
 induction N with
 |zero=>intro o k n l;exact⟨fk1 func295,fun hp=>absurd hp.1 (Nat.not_lt_zero _)⟩
 |succ N ih=>
 intro o k n l
 refine Xi func295 36 [.tmp 4] [16,33,35] [33] AN (@N6) ?_;intro hp h M G H E
 have gs:∀j (hj:j<l.length),AR l[j]<N:=fun j hj=>by have:=Bo hj;have:=BG (⟨k,n,l⟩:A0);have:=hp.1;simp only at*;omega
 have hto:=hp.2;have htl:=YI hto;have hte:=Gc hto;have hlw:=D0 hto.1;simp only at hlw;replace H:=AI htl (AI hlw H)
 repeat' (first|exact true|(refine IN.mk ?_;intros)|(refine iTw ?_;refine T2 ?_ ?_<;>((try clear H);intro hb H)<;>try exact hb.elim)|(refine LF.mk ?_;exact LX)|refine BO.mk ?_ ?_|(apply iPJ;exact NPJ)|apply PXs.of|refine GN ?_|(have hca:tvS o k n=(o++[n]):=(by unfold tvS;grind);refine XL [2] [2] (fun k0 _=>[(5,dI' k0),(1,.d (.sl true .one (((tvJ l (o++[n]) k0)).map (dS))))]) (fun _ _=>[]) (l.length) (fun _ _=>True) rU ?_;intro k0 hk0 s0 hi0;(have gx:∀hj:k0<l.length,AR l[k0]<N∧tvO l[k0] (tvJ l (o++[n]) k0):=fun hj=>⟨gs k0 hj,by have:=UG hto hj;unfold tvk at this;rw[hca] at this;exact this⟩);(have hse:l.length≤k0→tvJ l (o++[n]) k0=tvs (⟨k,n,l⟩:A0) o:=fun h=>by have q:=@Q1 k n l o k0 h;unfold tvk at q;rw[hca] at q;exact q);have hsn:∀h:k0<l.length,tvs l[k0] (tvJ l (o++[n]) k0)=tvJ l (o++[n]) (k0+1):=fun h=>Ok h)|(have hca:tvS o k n=o:=(by unfold tvS;grind);refine XL [2] [2] (fun k0 _=>[(5,dI' k0),(1,.d (.sl true .one (((tvJ l o k0)).map (dS))))]) (fun _ _=>[]) (l.length) (fun _ _=>True) rU ?_;intro k0 hk0 s0 hi0;(have gx:∀hj:k0<l.length,AR l[k0]<N∧tvO l[k0] (tvJ l o k0):=fun hj=>⟨gs k0 hj,by have:=UG hto hj;unfold tvk at this;rw[hca] at this;exact this⟩);(have hse:l.length≤k0→tvJ l o k0=tvs (⟨k,n,l⟩:A0) o:=fun h=>by have q:=@Q1 k n l o k0 h;unfold tvk at q;rw[hca] at q;exact q);have hsn:∀h:k0<l.length,tvs l[k0] (tvJ l o k0)=tvJ l o (k0+1):=fun h=>Ok h)|fail)
instance (priority:=2000) jl (o:List BA') (k:Int) (n:BA') (l:List A0):Ct cx 295 [.d (uK k n l),.d (.sl true .one ((o).map (dS)))] (tvO (⟨k,n,l⟩:A0) o) (.d (.sl true .one (((tvs (⟨k,n,l⟩:A0) o)).map (dS)))):=⟨fk1 func295,fun hp h=>(eE _ o k n l).cs ⟨Nat.lt_succ_self _,hp⟩ h⟩
instance (priority:=2000) sTv0 (k:Int) (n:BA') (l:List A0):Ct cx 295 [.d (uK k n l),.d (.sl true .one [])] (tvO (⟨k,n,l⟩:A0) []) (.d (.sl true .one (((tvs (⟨k,n,l⟩:A0) [])).map (dS)))):=⟨(jl [] k n l).ok,fun hp h=>by have q:=(jl [] k n l).cs hp h;first|exact q|simpa using q⟩
instance (priority:=2000) sTypV (k:Int) (n:BA') (l:List A0):Ct cx 202 [.d (uK k n l)] (tvO (⟨k,n,l⟩:A0) []) (.d (.sl true .one (((tv (⟨k,n,l⟩:A0))).map (dS)))):=by
 refine Xi func202 6 [.tmp 2] [4] [4] AN (@tv.eq_1) ?_;intro hp h M G H E
 all_goals exact GA0
theorem eL:∀(N:Nat) (k:Int) (n:BA') (l:List A0),Ct cx 279 [.d (uK k n l)] (AR (⟨k,n,l⟩:A0)<N∧A0.wd (⟨k,n,l⟩:A0)) (dB' (Bq (⟨k,n,l⟩:A0))):=by
 intro N
 induction N with
 |zero=>intro k n l;exact⟨fk1 func279,fun hp=>absurd hp.1 (Nat.not_lt_zero _)⟩
 |succ N ih=>
 intro k n l
 refine Xi func279 20 [.tmp 2] [] [] AN (AI @jw<|AI @jx<|@ec) ?_;intro hp h M G H E
 have gs:∀j (hj:j<l.length),AR l[j]<N:=fun j hj=>by have:=Bo hj;have:=BG (⟨k,n,l⟩:A0);have:=hp.1;simp only at*;omega
 have gx:∀j (hj:j<l.length),AR l[j]<N∧l[j].wd:=fun j hj=>⟨gs j hj,Bj hp.2 _ (gm hj)⟩;have hlw:=D0 hp.2;simp only at hlw;replace H:=AI gx (AI hlw H)
 repeat' (first|(refine IN.mk ?_;intros)|(refine iTw ?_;refine T2 ?_ ?_<;>((try clear H);intro hb H)<;>try exact hb.elim)|(refine LF.mk ?_;exact LX)|refine GN ?_|(refine XC [1] [1] 3 (l.length) (fun k0=>D2 l=D2 (l.drop k0)) ?_;intro k0 hk0 hi0)|fail)
instance (priority:=2000) sPjW (k:Int) (n:BA') (l:List A0):Ct cx 279 [.d (uK k n l)] (A0.wd (⟨k,n,l⟩:A0)) (dB' (Bq (⟨k,n,l⟩:A0))):=⟨fk1 func279,fun hp h=>(eL _ k n l).cs ⟨Nat.lt_succ_self _,hp⟩ h⟩
instance (priority:=2000) sGndW (k:Int) (n:BA') (l:List A0):Ct cx 416 [.d (uK k n l)] (tvO (⟨k,n,l⟩:A0) []) (dB' (gnd (⟨k,n,l⟩:A0))):=by
 refine Xi func416 12 [.tmp 2] [] [] AN (@gnd.eq_1) ?_;intro hp h M G H E
 have hwd:=hp.1;have htl:=Gc hp;have htv:tv (⟨k,n,l⟩:A0)=tvs (⟨k,n,l⟩:A0) []:=rfl;rw[←htv] at htl;replace H:=AI hwd (AI htl H)
 all_goals exact GA1
instance sL6 (s:List A6):Ct cx 363 [.d (.sl true BB ((s).map (A6.dd true)))] ((∀b∈s,b.AM.wd)∧s.length≤134217728) (.d (.sl true BB ((s).map (A6.dd true)))):=by
 refine Xi func363 28 [.tmp 2] [12,27] [] AN (@Cv) ?_;intro hp h M G H E
 have hwb:=fun k (h:k<s.length)=>hp.1 _ (gm h);replace H:=AI hwb H
 repeat' (first|(refine IN.mk ?_;intros)|(refine iTw ?_;refine T2 ?_ ?_<;>((try clear H);intro hb H)<;>try exact hb.elim)|(refine LF.mk ?_;exact LX)|refine GN ?_|(refine XL [0] [] (fun k0 _=>[(4,dI' k0),(3,.d (.sl true BB (((mp (fun b:A6=>b) s k0)).map (A6.dd true))))]) (fun _ _=>[]) (s.length) (fun _ _=>True) rU ?_;intro k0 hk0 s0 hi0;have hml:=Bh (fun b:A6=>b) hk0;(have hme:s.length≤k0→mp (fun b:A6=>b) s k0=s:=fun h=>by rw[Bb h];simp);have hmn:∀h:k0<s.length,mp (fun b:A6=>b) s (k0+1)=mp (fun b:A6=>b) s k0++[s[k0]]:=fun h=>Es h)|fail)
instance sAp1 (v:BA') (k:Int) (n:BA') (l:List A0) (k2:Int) (n2:BA') (l2:List A0):Ct cx 294 [.d (.sl false BB [.st [.lf (.string v),uK k n l]]),.d (uK k2 n2 l2)] (A0.wd (⟨k2,n2,l2⟩:A0)∧A0.wd (⟨k,n,l⟩:A0)) (.d (((ap [⟨v,(⟨k,n,l⟩:A0)⟩] (⟨k2,n2,l2⟩:A0))).dd true)):=⟨fk1 func294,fun hp h=>by have q:=(eX [⟨v,(⟨k,n,l⟩:A0)⟩] k2 n2 l2).cs ⟨hp.1,MT hp.2⟩ h;first|exact q|simpa using q⟩
instance no (s:List A6) (v:BA') (k:Int) (n:BA') (l:List A0):Ct cx 442 [.d (.sl true BB ((s).map (A6.dd true))),dS' v,.d (uK k n l)] ((∀b∈s,b.AM.wd)∧s.length≤134217728∧A0.wd ⟨k,n,l⟩) (.d (.sl true BB (((bnd s v ⟨k,n,l⟩)).map (A6.dd true)))):=by
 refine Xi func442 44 [.tmp 6] [12,21,37] [] AN (@Cv) ?_;intro hp h M G H E
 have hwb:=fun k (h:k<s.length)=>hp.1 _ (gm h);have hw1:=MT (v:=v) hp.2.2;have hw2:=hp.2.2;have hbm:=MU s v ⟨k,n,l⟩;have hbe:∀b,bnB v ⟨k,n,l⟩ b=⟨b.Fl,ap [⟨v,⟨k,n,l⟩⟩] b.AM⟩:=fun _=>rfl;replace H:=AI hwb (AI hw1 (AI hw2 (AI hbm (AI hbe H))))
 repeat' (first|(refine IN.mk ?_;intros)|(refine iTw ?_;refine T2 ?_ ?_<;>((try clear H);intro hb H)<;>try exact hb.elim)|(refine LF.mk ?_;exact LX)|refine GN ?_|(refine XL [0,1,5,8] [5] (fun k0 _=>[(9,dI' k0),(7,.d (.sl true BB (((mp (bnB v ⟨k,n,l⟩) s k0)).map (A6.dd true))))]) (fun _ _=>[]) (s.length) (fun _ _=>True) rU ?_;intro k0 hk0 s0 hi0;have hml:=Bh (bnB v ⟨k,n,l⟩) hk0;have hme:s.length≤k0→mp (bnB v ⟨k,n,l⟩) s k0=s.map (bnB v ⟨k,n,l⟩):=fun h=>Bb h;have hmn:∀h:k0<s.length,mp (bnB v ⟨k,n,l⟩) s (k0+1)=mp (bnB v ⟨k,n,l⟩) s k0++[⟨s[k0].Fl,ap [⟨v,⟨k,n,l⟩⟩] s[k0].AM⟩]:=fun h=>Es h)|fail)
theorem eZ (x:A3):(x.dd true).ow:=by simp[DD.ow,DD.ows]
@[simp] theorem Z4:∀l:List A3,DD.ows (l.map (A3.dd true))
 |[]=>trivial
 |x::l=>by simp only[List.map_cons,DD.ows];exact⟨eZ x,Z4 l⟩
@[simp] theorem lk (a b:List DD):DD.ows (a++b)=(DD.ows a∧DD.ows b):=by
 refine propext ⟨fun h=> ?_,fun h=> ?_⟩
 ·rw[DD.ows_iff] at h
  exact⟨(DD.ows_iff a).2 fun d hd=>h d (List.mem_append_left _ hd),(DD.ows_iff b).2 fun d hd=>h d (List.mem_append_right _ hd)⟩
 ·rw[DD.ows_iff]
  intro d hd
  rcases List.mem_append.1 hd with hd|hd
  ·exact(DD.ows_iff a).1 h.1 d hd
  ·exact(DD.ows_iff b).1 h.2 d hd
section
variable {q:A3→Bool} {l:List A3}
def dlC (q:A3→Bool) (l:List A3) (j:Nat):Nat:=((l.take j).filter q).length
def dlR (q:A3→Bool) (l:List A3) (j:Nat):List A3:=(l.take j).filter q++l.drop (dlC q l j)
theorem PT (q:A3→Bool) (l:List A3) (j:Nat):dlC q l j≤j:=by
 have h:=List.length_filter_le q (l.take j)
 unfold dlC;simp only[List.length_take] at h;omega
theorem MN (q:A3→Bool) (l:List A3) (j:Nat):dlC q l j≤l.length:=by
 have h:=List.length_filter_le q (l.take j)
 unfold dlC;simp only[List.length_take] at h;omega
theorem HG (q:A3→Bool) (l:List A3) (j:Nat):(dlR q l j).length=l.length:=by
 have h:=MN q l j
 unfold dlR;rw[List.length_append,List.length_drop]
 show dlC q l j+_=_
 omega
theorem gU {j:Nat} (h:j<l.length) (h2:j<(dlR q l j).length):(dlR q l j)[j]=l[j]:=by
 have h1:=PT q l j
 have e:(dlR q l j)[j]? =l[j]? :=by
  unfold dlR
  rw[List.getElem?_append_right (by show dlC q l j≤j;exact h1),List.getElem?_drop]
  show l[dlC q l j+(j - dlC q l j)]? =_
  rw[show dlC q l j+(j - dlC q l j)=j by omega]
 rw[List.getElem?_eq_getElem h2,List.getElem?_eq_getElem h] at e
 exact Option.some.inj e
theorem HF {j:Nat} (h:j<l.length):(l.take (j+1)).filter q=(l.take j).filter q++if q l[j]=true then [l[j]] else []:=by
 rw[Y' h,List.filter_append]
 by_cases e:q l[j]=true<;>simp[e]
theorem PS {j:Nat} (h:j<l.length) (e:q l[j]=false):dlC q l (j+1)=dlC q l j:=by unfold dlC;rw[HF h];simp[e]
theorem gS {j:Nat} (h:j<l.length) (e:q l[j]=false):dlR q l (j+1)=dlR q l j:=by unfold dlR;rw[PS h e,HF h];simp[e]
theorem Rf {j:Nat} (h:j<l.length) (e:q l[j]=true):dlC q l (j+1)=dlC q l j+1:=by unfold dlC;rw[HF h];simp[e]
theorem aU {j:Nat} (h:j<l.length) (e:q l[j]=true):dlR q l (j+1)=(dlR q l j).set (dlC q l j) l[j]:=by
 have h1:=PT q l j
 unfold dlR
 rw[Rf h e,HF h,if_pos e,List.set_append_right _ _ (by show dlC q l j≤dlC q l j;omega)]
 show _=_++(l.drop (dlC q l j)).set (dlC q l j - dlC q l j) l[j]
 rw[Nat.sub_self,List.drop_eq_getElem_cons (show dlC q l j<l.length by omega),List.set_cons_zero,List.append_assoc]
 rfl
theorem aW {j:Nat} (h:j<l.length) (h2:j<((dlR q l j).map (A3.dd true)).length):D9 (((dlR q l j).map (A3.dd true))[j]) []=l[j].dd true:=by
 rw[List.getElem_map,gU h];simp[D9]
theorem aV {j:Nat} (h:j<l.length) (e:q l[j]=true) (h2:dlC q l j<((dlR q l j).map (A3.dd true)).length):((dlR q l j).map (A3.dd true)).set (dlC q l j) (Df (((dlR q l j).map (A3.dd true))[dlC q l j]) [] (.st [.lf (.int .i64 l[j].BA),.lf (.int .i64 l[j].fAt)]))=(dlR q l (j+1)).map (A3.dd true):=by
 rw[aU h e,List.map_set]
 cases ((dlR q l j).map (A3.dd true))[dlC q l j]<;>simp[Df]
theorem aX:(dlR q l l.length).take (dlC q l l.length)=l.filter q:=by
 unfold dlR dlC
 rw[List.take_length,List.take_left']
 rfl
theorem Wh {j m:Nat} {z:DD} (h:j=l.length):(((dlR q l j).map (A3.dd true)).take (dlC q l j)++List.replicate m z).take (dlC q l j)=(l.filter q).map (A3.dd true):=by
 subst h
 have h1:=MN q l l.length
 rw[←List.map_take,aX,List.take_left']
 unfold dlC
 simp
theorem Wg (q:A3→Bool) (l:List A3):(CT l (fun y=> !q y)= -1∧l.filter q=l)∨∃i,i<l.length∧CT l (fun y=> !q y)=(i:Int)∧dlC q l (i+1)=i∧dlR q l (i+1)=l:=by
 unfold CT
 cases hq:l.findIdx? fun y=> !q y with
 |none=>
  left
  rw[List.findIdx?_eq_none_iff] at hq
  refine⟨rfl,List.filter_eq_self.2 fun y hy=> ?_⟩
  simpa using hq y hy
 |some i=>
  right
  rw[List.findIdx?_eq_some_iff_getElem] at hq
  obtain⟨h1,h2,h3⟩:=hq
  have h4:(l.take i).filter q=l.take i:=List.filter_eq_self.2 fun y hy=>by
   obtain⟨j,hj,rfl⟩:=List.getElem_of_mem hy
   rw[List.getElem_take]
   simp only[List.length_take] at hj
   simpa using h3 j (by omega)
  have h5:q l[i]=false:=by simpa using h2
  have h6:dlC q l (i+1)=i:=by rw[PS h1 h5];unfold dlC;rw[h4];simp;omega
  refine⟨i,h1,rfl,h6,?_⟩
  unfold dlR
  rw[h6,HF h1,h4]
  simp[h5]
end
theorem cY {α:Type} {P:A0→Prop} {ok:α→Prop} {step:A0→α→α} (hP:∀x,P x→x.AB.length≤134217728∧∀y∈x.AB,P y) (hok:∀y c,P y→ok c→ok (step y c)):∀(n:Nat) (x:A0),AR x<n→P x→∀c,ok c→ok (ev step x c)
 |0,x,h,_=>by omega
 |n+1,⟨a,s,l⟩,h,hx=>fun c hc=>by
  simp only[ev]
  have h1:=BG ⟨a,s,l⟩
  have hl:∀(l:List A0),Ag l<n→(∀y∈l,P y)→∀c,ok c→ok (evs step l c):=by
   intro l
   induction l with
   |nil=>intro _ _ c hc;simpa[evs] using hc
   |cons y l ih=>
    intro hs hy c hc
    simp only[Ag] at hs
    simp only[evs]
    exact ih (by omega) (fun z hz=>hy z (by simp[hz])) _ (cY hP hok n y (by omega) (hy y (by simp)) c hc)
  exact hl l (by simp only at h1;omega) (hP _ hx).2 _ (hok _ _ hx hc)
theorem gD {α:Type} {P:A0→Prop} {ok:α→Prop} {step:A0→α→α} (hP:∀x,P x→x.AB.length≤134217728∧∀y∈x.AB,P y) (hok:∀y c,P y→ok c→ok (step y c)) {x:A0} (hx:P x) {c:α} (hc:ok c) (k:Nat):ok (evK step x c k):=by
 have hl:∀(l:List A0),(∀y∈l,P y)→∀c,ok c→ok (evs step l c):=by
  intro l
  induction l with
  |nil=>intro _ c hc;simpa[evs] using hc
  |cons y l ih=>
   intro hy c hc
   simp only[evs]
   exact ih (fun z hz=>hy z (by simp[hz])) _ (cY hP hok _ y (Nat.lt_succ_self _) (hy y (by simp)) c hc)
 exact hl _ (fun y hy=>(hP x hx).2 y (List.mem_of_mem_take hy)) _ (hok _ _ hx hc)
@[simp] theorem mI (xs:List DD) (a:AV):AV.ups (xs.map AV.el++[a])=xs.map AV.el++[a.up]:=by
 induction xs with
 |nil=>simp[AV.ups]
 |cons x xs ih=>simp only[List.map_cons,List.cons_append,AV.ups,ih,AV.up]
@[simp] theorem mF (xs:List DD) (a:AV):AV.vws (xs.map AV.el++[a])=xs.map AV.el++[a.vw]:=by
 induction xs with
 |nil=>simp[AV.vws]
 |cons x xs ih=>simp only[List.map_cons,List.cons_append,AV.vws,ih,AV.vw]
@[simp] theorem pT (L:List (Nat×AV)) (xs:List DD) (a:AV):AV.cls L (xs.map AV.el++[a])=a.cl L:=by
 induction xs with
 |nil=>simp[AV.cls]
 |cons x xs ih=>simp only[List.map_cons,List.cons_append,AV.cls,ih,AV.cl,true_and]
theorem Za:∀(N:Nat) (k:Int) (n:BA') (l:List A0),Ct cx 249 [.d (uK k n l)] (AR (⟨k,n,l⟩:A0)<N∧A0.wd (⟨k,n,l⟩:A0)) (dI' (szW (⟨k,n,l⟩:A0))):=by
 intro N
 induction N with
 |zero=>intro k n l;exact⟨fk1 func249,fun hp=>absurd hp.1 (Nat.not_lt_zero _)⟩
 |succ N ih=>
 intro k n l
 refine Xi func249 19 [.tmp 2] [12] [] AN (@NB) ?_;intro hp h M G H E
 have gs:∀j (hj:j<l.length),AR l[j]<N:=fun j hj=>by have:=Bo hj;have:=BG (⟨k,n,l⟩:A0);have:=hp.1;simp only at*;omega
 have gx:∀j (hj:j<l.length),AR l[j]<N∧l[j].wd:=fun j hj=>⟨gs j hj,Bj hp.2 _ (gm hj)⟩;have hlw:=D0 hp.2;simp only at hlw;replace H:=AI gx (AI hlw H)
 repeat' (first|(refine IN.mk ?_;intros)|(refine iTw ?_;refine T2 ?_ ?_<;>((try clear H);intro hb H)<;>try exact hb.elim)|(refine LF.mk ?_;exact LX)|refine GN ?_|(refine XL [7,8] [] (fun k0 _=>[(9,dI' k0),(3,dI' (swK l k0))]) (fun _ _=>[]) (l.length) (fun _ _=>True) rU ?_;intro k0 hk0 s0 hi0;have hse:l.length≤k0→swK l k0=szW (⟨k,n,l⟩:A0):=fun h=>Q8 h k n;have hsn:∀h:k0<l.length,IntKind.i64.wrap (swK l k0+szW l[k0])=swK l (k0+1):=fun h=>Uc h)|fail)
instance (priority:=2000) iTszW (k:Int) (n:BA') (l:List A0):Ct cx 249 [.d (uK k n l)] (A0.wd (⟨k,n,l⟩:A0)) (dI' (szW (⟨k,n,l⟩:A0))):=⟨fk1 func249,fun hp h=>(Za _ k n l).cs ⟨Nat.lt_succ_self _,hp⟩ h⟩
theorem aQ {α:Type} (x:A0) (P:A0→Prop) (hP:∀x,P x→x.AB.length≤134217728∧∀y∈x.AB,P y) (g:Nat) (fn:Func) (body:Code) (hg:CU cx.P g fn body) (k:Nat) (xs:List DD) (val:α→DD) (step:A0→α→α) (ok:α→Prop) (hok:∀y c,P y→ok c→ok (step y c)) (hv:∀y,P y→∀c,ok c→∀(lv:Nat) (h:HP),hpg h lv k=some (.d (val c))→CS cx.P g ([.d (y.dd false)]++(xs.map AV.el++[.pt lv k []])) h (.tp []) (hps h lv k (some (.d (val (step y c)))))) (hPx:P x) (c:α) (hc:ok c) (lv:Nat) (ih:∀y∈x.AB,∀c,ok c→∀(lv:Nat) (h:HP),hpg h lv k=some (.d (val c))→CS cx.P 250 [.d (y.dd false),.fn g (xs.map AV.el++[.pt lv k []])] h (.tp []) (hps h lv k (some (.d (val (ev step y c)))))) (h:HP) (hcap:hpg h lv k=some (.d (val c))):CS cx.P 250 [.d (x.dd false),.fn g (xs.map AV.el++[.pt lv k []])] h (.tp []) (hps h lv k (some (.d (val (ev step x c))))):=by
 have hxl:=(hP x hPx).1
 have hc2:=Dh hcap
 refine Ze func250 rfl 20 ?_
 apply Zr;intros
 refine Zo ?_ (by simp[AV.up,AV.vw]<;>omega);simp[AV.up,AV.vw]
 exact Zx
 apply Zr;intros
 iterate 2 (refine Zo ?_ (by simp[AV.up,AV.vw]<;>omega);simp[AV.up,AV.vw])
 refine WL.call [] _ _ _ rfl rfl (by simp) (g:=g) (caps:=(xs.map AV.el++[.pt (lv+1) k []])) (by simp) (by simp) hg rfl (by simp[AV.up,AV.vw]) (by simp) (by simp[AV.up,AV.vw]) (hv x hPx c hc (lv+1) _ (by simpa using hc2)) rfl ?_;simp[AV.up,AV.vw]
 exact Zx
 apply Zr;intros
 iterate 4 (refine Zo ?_ (by simp[AV.up,AV.vw]<;>omega);simp[AV.up,AV.vw])
 exact Zx
 refine W.block ?_
 refine W.loopT [1,10,11] [] (fun k0=>[(12,dI' k0)]) (fun _=>[]) x.AB.length (fun k0=>hps h lv k (some (.d (val (evK step x c k0))))) (by simp[Jw]) (by simp) fun k0 hk0 T hT=> ?_
 simp at hT;subst hT
 apply Zr;intros
 refine Zo ?_ (by simp[AV.up,AV.vw]<;>omega);simp[AV.up,AV.vw]
 exact Zx
 refine Zv rfl ?_ ?_<;>intro hb0<;>try simp at hb0
 have hx:=B2 hb0 (by omega)
 have hs:=Jx (step:=step) (c:=c) hb0
 refine W.skip ?_
 refine Zb ?_
 apply Zr;intros
 refine Zo ?_ (by simp[AV.up,AV.vw,hb0,hx]<;>omega);simp[AV.up,AV.vw,hb0,hx]
 refine Zm [15] ?_ (by simp[AV.up,AV.vw,hb0,hx]<;>omega);simp[AV.up,AV.vw,hb0,hx]
 iterate 2 (refine Zo ?_ (by simp[AV.up,AV.vw,hb0,hx]<;>omega);simp[AV.up,AV.vw,hb0,hx])
 exact Zx
 apply Zs;intros
 iterate 2 (refine Zo ?_ (by simp[AV.up,AV.vw,hb0,hx]<;>omega);simp[AV.up,AV.vw,hb0,hx])
 refine Zl [] rfl func250 (ih x.AB[k0] (gm hb0) (evK step x c k0) (gD hP hok hPx hc k0) (lv+1) _ (by simpa using Dh (Et hcap))) ?_ (by simp[AV.up,AV.vw,hb0,hx]);simp[AV.up,AV.vw,hb0,hx]
 exact Zx
 apply Zs;intros
 iterate 2 (refine Zo ?_ (by simp[AV.up,AV.vw,hb0,hx]<;>omega);simp[AV.up,AV.vw,hb0,hx])
 exact Zx
 refine⟨hb0,Wz.toT (by simp[hs]) rfl ?_⟩
 simp
 have hkl:k0=x.AB.length:=by omega
 subst hkl
 simp only[Jy]
 refine W.exit ?_
 refine⟨.inl rfl,⟨_,rfl⟩,?_⟩
 simp[f250]
theorem HC {α:Type} (x:A0) (P:A0→Prop) (hP:∀x,P x→x.AB.length≤134217728∧∀y∈x.AB,P y) (g:Nat) (fn:Func) (body:Code) (hg:CU cx.P g fn body) (k:Nat) (xs:List DD) (val:α→DD) (step:A0→α→α) (ok:α→Prop) (hok:∀y c,P y→ok c→ok (step y c)) (hv:∀y,P y→∀c,ok c→∀(lv:Nat) (h:HP),hpg h lv k=some (.d (val c))→CS cx.P g ([.d (y.dd false)]++(xs.map AV.el++[.pt lv k []])) h (.tp []) (hps h lv k (some (.d (val (step y c)))))) (hx:P x) (c:α) (hc:ok c) (lv:Nat) (h:HP) (hcap:hpg h lv k=some (.d (val c))):CS cx.P 250 [.d (x.dd false),.fn g (xs.map AV.el++[.pt lv k []])] h (.tp []) (hps h lv k (some (.d (val (ev step x c))))):=aQ x P hP g fn body hg k xs val step ok hok hv hx c hc lv (fun y hy c hc lv h hcap=>HC y P hP g fn body hg k xs val step ok hok hv ((hP x hx).2 y hy) c hc lv h hcap) h hcap
termination_by SizeOf.sizeOf x
decreasing_by have:=List.sizeOf_lt_of_mem hy;have:=x.lt_fArgs;omega
instance iAp1 (v:BA') (k:Int) (n:BA') (l:List A0) (k2:Int) (n2:BA') (l2:List A0):Ct cx 328 [.d (.sl false BB [.st [.lf (.string v),uK k n l]]),.d (uK k2 n2 l2)] (A0.wd (⟨k2,n2,l2⟩:A0)∧A0.wd (⟨k,n,l⟩:A0)) (.d (((ap [⟨v,(⟨k,n,l⟩:A0)⟩] (⟨k2,n2,l2⟩:A0))).dd true)):=⟨fk1 func328,fun hp h=>by have q:=(fh [⟨v,(⟨k,n,l⟩:A0)⟩] k2 n2 l2).cs ⟨hp.1,MT hp.2⟩ h;first|exact q|simpa using q⟩
def IZ (a b:List BA'):List BA':=a++b
theorem XI (a b:List BA'):(IZ a b).length=a.length+b.length:=List.length_append
theorem YE {a b:List BA'} {k:Nat} (h:(IZ a b).length≤k):unK [] (IZ a b) k=unN a b:=by rw[Lb h];exact List.foldl_append
theorem im {o l:List BA'} {k:Nat} (h:k<l.length) (e:B7 (unK o l k) l[k]=true):unK o l (k+1)=unK o l k:=by rw[LY h,if_pos e]
theorem io {o l:List BA'} {k:Nat} (h:k<l.length) (e:B7 (unK o l k) l[k]=false):unK o l (k+1)=unK o l k++[l[k]]:=by rw[LY h,if_neg (by rw[e];decide)]
instance oV (a b:List BA'):Ct cx 428 [.d (.sl false .one [.sl false .one (a.map dS),.sl false .one (b.map dS)])] (a.length+b.length≤536870912) (.d (.sl true .one ((IZ a b).map dS))):=⟨fk1 func428,fun hp h=>by have q:=IL [a,b] (by simp) (by simp[Fy];omega) h;simpa[JI,IZ] using q⟩
instance oG (a b:List BA'):Ct cx 387 [.d (.sl false .one ((a).map (dS))),.d (.sl false .one ((b).map (dS)))] (a.length+b.length≤536870912) (.d (.sl true .one (((unN a b)).map (dS)))):=by
 refine Xi func387 32 [.tmp 4] [11,12,26,31] [] AN (@Mw) ?_;intro hp h M G H E
 have hcl:=XI a b
 repeat' (first|(refine iR (i:=3) ?_;refine XqO 6 ?_;intro v0)|(refine iWL ?_;first|refine XqN ?_|refine Xqm M ?_|refine XqH 6 ?_ (hr:=by first|assumption|rfl)|refine XqP 6 ?_ (hE:=by first|exact Eq.symm (by assumption)|rfl))|(refine IN.mk ?_;intros)|(refine iTw ?_;refine T2 ?_ ?_<;>((try clear H);intro hb H)<;>try (first|exact hb.elim|(exfalso;omega)))|(refine LF.mk ?_;exact LX)|refine GN ?_|(refine XL [14,15] [] (fun k0 _=>[(16,dI' k0),(5,.d (.sl true .one (((unK [] (IZ a b) k0)).map (dS)))),(6,.mn v0 (unK [] (IZ a b) k0))]) (fun _ _=>[]) ((IZ a b).length) (fun _ _=>True) rU ?_;intro k0 hk0 s0 hi0;have hul:=La [] (IZ a b) k0;simp only[List.length_nil,Nat.zero_add] at hul;by_cases hkk:k0<(IZ a b).length;rotate_left;have hue:=YE (a:=a) (b:=b) (k:=k0) (by omega);replace H:=AI hue H;rotate_left;rcases hq:B7 (unK [] (IZ a b) k0) (IZ a b)[k0] with _|_;have hun:=io hkk hq;replace H:=AI hun H;rotate_left;have hun:=im hkk hq;replace H:=AI hun H;rotate_left)|fail)
