/- Part 50. No condition. -/
import Derived.Test.YtgihkamifpmfdaaGreatDoorM44
import Derived.Test.YtgihkamifpmfdaaGreatDoorM51
import Derived.Test.YtgihkamifpmfdaaGreatDoorM48
import Derived.Test.YtgihkamifpmfdaaGreatDoorM49
namespace Go.Proofs.YtgihkamifpmfdaaGreatDoor
open Go.RowKit Tryz
set_option linter.unusedVariables false
set_option maxRecDepth 10000
set_option linter.unusedSimpArgs false
set_option maxHeartbeats 4000000
instance sSolI (w:A1) (F:List AD) (tr:BA') (k:Int) (n:BA') (l:List A0):Ct cx 210 [.d (Au w),.d (.sl false Bf ((F).map (AD.dd false))),.d (.st [.lf (.string tr),uK k n l]),dI' 12] (vP w∧fOk F∧GT 59999964 (⟨k,n,l⟩:A0)) (.tp [.d (((sol w F 12 (⟨tr,(⟨k,n,l⟩:A0)⟩:A9)).1).dd true),dI' ((sol w F 12 (⟨tr,(⟨k,n,l⟩:A0)⟩:A9)).2)]):=⟨fk1 func210,fun hp h=>(eI w F 12 tr k n l 12).cs ⟨rfl,Nat.le_refl _,hp.1,hp.2.1,hp.2.2⟩ h⟩
instance nQ (w:A1) (b:List A9) (tr:BA') (k:Int) (n:BA') (l:List A0):Ct cx 140 [.d (Au w),.d (.sl false BC ((b).map (A9.dd false))),.d (.st [.lf (.string tr),uK k n l])] (vP w∧b.length≤4∧(∀x∈b,x.AM.wd)∧GT 59999964 (⟨k,n,l⟩:A0)) (.tp [.d (((sol w (asm w b) 12 (⟨tr,(⟨k,n,l⟩:A0)⟩:A9)).1).dd true),dI' ((sol w (asm w b) 12 (⟨tr,(⟨k,n,l⟩:A0)⟩:A9)).2)]):=by
 refine Xi func140 16 [.cell 6 211,.tmp 7] [14] [] AN trivial ?_;intro hp h M G H E
 obtain⟨hv,hl4,hwd,hgt⟩:=hp;have hvz:=hv.sz;have hvz2:w.sz≤134217728:=(by omega);have hfo:=Xa hv.sz hl4;replace H:=AI hvz2 (AI hl4 (AI hwd (AI hgt (AI hv (AI hfo H)))))
 all_goals exact GA6
instance sSupE (w:A1) (o:A3):Ct cx 69 [.d (Au w),.d (FU o)] (vP w∧inR w o) (.tp [.d (.sl true Bd (((spE w o)).map (A7.dd true))),dI' ((spC w o))]):=by
 refine Xi func69 64 [.tmp 4,.tmp 5] [40,53,59,60,63] [] AN (@Cv) ?_;intro hp h M G H E
 obtain⟨hv,ho⟩:=hp;have hvz:=hv.sz;have hvz2:w.sz≤134217728:=(by omega);have hwl:=bX hv ho;have hw4:=hwl.1;have hwd:=hwl.2;have hgt:=cR hv ho;replace H:=AI hvz2 (AI hw4 (AI hwd (AI hgt (AI ho (AI hv H)))))
 have hsl:(Al w (Ao w o).AK).length≤134217728:=(by have h1:=EV w (Ao w o).AK;have h2:=(trR w (Ao w o).AK).1.sz_eq;unfold szs at h2;unfold Al;omega);have hsu:(trR w (Ao w o).AK).1.Aq=(Al w (Ao w o).AK):=rfl;replace H:=AI hsu H
 repeat' (first|(refine iWL ?_;refine Cs M ?_)|(refine iDL ?_;refine CE M ?_)|(refine LF.mk ?_;have q:=QA hce;have q2:=Lh w o;simp[q,q2,hce,hme];done)|(refine LF.mk ?_;have hcx:=(hi0.trans (G9 hkk (by rw[hcy];exact hb))).trans hcy;have q:=Ug (w:=w) (o:=o) (by rw[hcx];exact hb);have q2:=Lh w o;simp[q,q2,hcx];done)|(refine LF.mk ?_;exact hi0.trans (IH hkk (hcy.trans hb)))|(refine IN.mk ?_;intros)|(refine iTw ?_;refine T2 ?_ ?_<;>((try clear H);intro hb H)<;>try (first|exact hb.elim|(exfalso;omega)))|(refine LF.mk ?_;exact LX)|refine GN ?_|(refine XL [2,6,8] [2,6,8] (fun k0 _=>[(12,dI' k0),(11,.d (.sl true Bd (((mp (spV w o) (Al w (Ao w o).AK) k0)).map (A7.dd true))))]) (fun _ _=>[]) ((Al w (Ao w o).AK).length) (fun k0 _=>fc (spD w o) (Al w (Ao w o).AK)=fc (spD w o) ((Al w (Ao w o).AK).drop k0)) rU ?_;intro k0 hk0 s0 hi0;have hml:=Bh (spV w o) hk0;by_cases hkk:k0<(Al w (Ao w o).AK).length;rotate_left;(have hce:=hi0.trans (Az (f:=(spD w o)) (show(Al w (Ao w o).AK).length≤k0 by omega));have hme:mp (spV w o) (Al w (Ao w o).AK) k0=(Al w (Ao w o).AK).map (spV w o):=Bb (by omega));rotate_left;have hvy:spV w o (Al w (Ao w o).AK)[k0]=(sol w (asm w (Ao w o).Ah) 12 ⟨(Al w (Ao w o).AK)[k0],(Ao w o).At⟩).1:=rfl;have hcy:spD w o (Al w (Ao w o).AK)[k0]=(sol w (asm w (Ao w o).Ah) 12 ⟨(Al w (Ao w o).AK)[k0],(Ao w o).At⟩).2:=rfl;have hmn:=Es (f:=(spV w o)) hkk;rw[hvy] at hmn;replace H:=AI hmn H)|fail)
instance sCode (w:A1) (o:A3):Ct cx 31 [.d (Au w),.d (FU o),.d (.sl false CX (((over w)).map (A3.dd false)))] (vP w∧inR w o) (dI' ((coC w o))):=by
 refine Xi func31 46 [.tmp 6] [] [] AN trivial ?_;intro hp h M G H E
 obtain⟨hv,ho⟩:=hp;have hvz:=hv.sz;have hvz2:w.sz≤134217728:=(by omega);have hiz:=C9 ho;have hiz2:(Ao w o).sz≤134217728:=(by omega);replace H:=AI hvz2 (AI hiz2 (AI ho (AI hv H)))
 repeat' (first|exact true|(refine LF.mk ?_;have q:=cm (w:=w) (o:=o) hb;simp[q];done)|(refine LF.mk ?_;have q:=ck (w:=w) (o:=o) (by assumption) hb;simp[q];done)|(refine LF.mk ?_;have q:=cj (w:=w) (o:=o) (by assumption) (by assumption) hb;simp[q];done)|(refine LF.mk ?_;have q:=ci (w:=w) (o:=o) (by assumption) (by assumption) (by assumption) hb;simp[q];done)|(refine LF.mk ?_;have q:=cg (w:=w) (o:=o) (by assumption) (by assumption) (by assumption) (by assumption) hb;simp[q];done)|(refine LF.mk ?_;have q:=co (w:=w) (o:=o) (by assumption) (by assumption) (by assumption) (by assumption) hb;simp[q];done)|(refine iWL ?_;refine Cs M ?_)|(refine iDL ?_;refine CE M ?_)|(refine IN.mk ?_;intros)|(refine iTw ?_;refine T2 ?_ ?_<;>((try clear H);intro hb H)<;>try exact hb.elim)|(refine LF.mk ?_;exact LX)|refine BO.mk ?_ ?_|(apply iPJ;exact NPJ)|apply PXs.of|refine GN ?_)
instance sCohE (w:A1):Ct cx 12 [.d (Au w)] (vP w) (.d (.sl true Lj (((GG w)).map (AP.dd true)))):=by
 refine Xi func12 45 [.tmp 2] [12,35,44] [] AN (@ON) ?_;intro hp h M G H E
 have hvz:=hp.sz;have hvz2:w.sz≤134217728:=(by omega);have hrl:=Dj w;replace H:=AI hvz2 (AI hp H)
 repeat' (first|(refine LF.mk ?_;have q:=Wv (w:=w) (by assumption);simp[q];done)|(refine LF.mk ?_;have q:=Ww (w:=w) (by assumption);simp[q,hce];done)|(refine IN.mk ?_;intros)|(refine iTw ?_;refine T2 ?_ ?_<;>((try clear H);intro hb H)<;>try (first|exact hb.elim|(exfalso;omega)))|(refine LF.mk ?_;exact LX)|refine GN ?_|(refine XL [1,4,5] [1] (fun k0 _=>[(6,dI' k0),(3,.d (.sl true Lj (((coK w k0)).map (AP.dd true))))]) (fun _ _=>[]) ((BF w).length) (fun _ _=>True) rU ?_;intro k0 hk0 s0 hi0;have hcl:=Ri w k0;by_cases hkk:k0<(BF w).length;rotate_left;have hce:=Rj (w:=w) (k:=k0) (by omega);rotate_left;have hr0:=Dc (gm hkk);replace H:=AI hr0 H;rcases Classical.em (coC w (BF w)[k0]=0) with hc|hc<;>replace H:=AI hc H;have hcn:=X4 hkk hc;replace H:=AI hcn H;rotate_left;have hcn:=Rh hkk hc;replace H:=AI hcn H;rotate_left)|fail)
instance sFst (w:A1):Ct cx 5 [.d (Au w)] (w.sz≤1048576) (dS' ((IX w))):=by
 refine Xi func5 74 [.tmp 2] [] [] AN (@spB.eq_1) ?_;intro hp h M G H E
 have hz2:w.sz≤134217728:=(by omega);replace H:=AI hz2 H
 rcases hf:feE w with _|⟨e,l⟩<;>replace H:=AI hf H
 have hv:=bZ (by omega) hf;replace H:=AI hv H
 rcases hc:GG w with _|⟨e,l⟩<;>replace H:=AI hc H
 have hr:=cS hf hc;replace H:=AI hr H
 rotate_left
 rcases cU hf hc with ⟨x,rfl,hr⟩|⟨c,n,m,hn,rfl,h6,hm,hr⟩
 replace H:=AI hr H
 rotate_left
 have s1:=X0 c;have s2:=Ln w hn;have s3:=Hq (m:Int) (by omega);have s4:InR (m:Int):=(by unfold InR;have:=RK;have:=RJ;omega);replace H:=AI hr (AI hn (AI h6 (AI s1 (AI s2 (AI s3 (AI s4 H))))))
 rotate_left
 rcases cT hf with ⟨x,rfl,hr⟩|⟨c,n,k,s,hn,rfl,h8,hk,hs,hr⟩
 replace H:=AI hr H
 rotate_left
 have s1:=WF c;have s2:=Ln w hn;replace H:=AI hr (AI hn (AI h8 (AI s1 (AI s2 (AI hk (AI hs H))))))
 repeat' (first|(refine IN.mk ?_;intros)|(refine iTw ?_;refine T2 ?_ ?_<;>((try clear H);intro hb H)<;>try (first|exact hb.elim|(exfalso;omega)))|(refine LF.mk ?_;exact LX)|refine GN ?_)
instance iNewS (w:A1) (b:List A9):Ct cx 255 [.d (Au w),.d (.sl false BC ((b).map (A9.dd false)))] (w.sz≤134217728∧b.length≤4∧(∀x∈b,x.AM.wd)) (.el (.st [Au w,.sl false Bf ((asm w b).map (AD.dd false))])):=by
 refine Xi func255 11 [.tmp 4] [] [] AN trivial ?_;intro hp h M G H E
 have hp1:=hp.1;have hp2:=hp.2.1;have hp3:=hp.2.2;replace H:=AI hp1 (AI hp2 (AI hp3 H))
 repeat' (first|(refine iT ?_;refine W.frzB 4 10 _ [] [] rfl (by simp) rfl rfl (by simp) (by simp) (by simp;rfl) ?_)|(refine IN.mk ?_;intros)|(refine iTw ?_;refine T2 ?_ ?_<;>((try clear H);intro hb H)<;>try exact hb.elim)|(refine LF.mk ?_;exact LX)|refine GN ?_)
instance oI (w:A1) (b:List A9) (tr:BA') (k:Int) (n:BA') (l:List A0):Ct cx 176 [.d (Au w),.d (.sl false BC ((b).map (A9.dd false))),.d (.st [.lf (.string tr),uK k n l])] (vP w∧b.length≤4∧(∀x∈b,x.AM.wd)∧GT 59999964 (⟨k,n,l⟩:A0)) (.tp [.d (((sol w (asm w b) 12 (⟨tr,(⟨k,n,l⟩:A0)⟩:A9)).1).dd true),dI' ((sol w (asm w b) 12 (⟨tr,(⟨k,n,l⟩:A0)⟩:A9)).2)]):=by
 refine Xi func176 15 [.cell 6 211,.tmp 7] [13] [] AN trivial ?_;intro hp h M G H E
 obtain⟨hv,hl4,hwd,hgt⟩:=hp;have hvz:=hv.sz;have hvz2:w.sz≤134217728:=(by omega);have hfo:=Xa hv.sz hl4;replace H:=AI hvz2 (AI hl4 (AI hwd (AI hgt (AI hv (AI hfo H)))))
 all_goals exact GA6
instance iSupE (w:A1) (o:A3):Ct cx 111 [.d (Au w),.d (FU o)] (vP w∧inR w o) (.tp [.d (.sl true Bd (((spE w o)).map (A7.dd true))),dI' ((spC w o))]):=by
 refine Xi func111 60 [.tmp 4,.tmp 5] [40,49,54,55,59] [] AN (@Cv) ?_;intro hp h M G H E
 obtain⟨hv,ho⟩:=hp;have hvz:=hv.sz;have hvz2:w.sz≤134217728:=(by omega);have hwl:=bX hv ho;have hw4:=hwl.1;have hwd:=hwl.2;have hgt:=cR hv ho;replace H:=AI hvz2 (AI hw4 (AI hwd (AI hgt (AI ho (AI hv H)))))
 have hsl:(Al w (Ao w o).AK).length≤134217728:=(by have h1:=EV w (Ao w o).AK;have h2:=(trR w (Ao w o).AK).1.sz_eq;unfold szs at h2;unfold Al;omega);have hsu:(trR w (Ao w o).AK).1.Aq=(Al w (Ao w o).AK):=rfl;replace H:=AI hsu H
 repeat' (first|(refine iWL ?_;refine Cs M ?_)|(refine iDL ?_;refine CE M ?_)|(refine LF.mk ?_;have q:=QA hce;have q2:=Lh w o;simp[q,q2,hce,hme];done)|(refine LF.mk ?_;have hcx:=(hi0.trans (G9 hkk (by rw[hcy];exact hb))).trans hcy;have q:=Ug (w:=w) (o:=o) (by rw[hcx];exact hb);have q2:=Lh w o;simp[q,q2,hcx];done)|(refine LF.mk ?_;exact hi0.trans (IH hkk (hcy.trans hb)))|(refine IN.mk ?_;intros)|(refine iTw ?_;refine T2 ?_ ?_<;>((try clear H);intro hb H)<;>try (first|exact hb.elim|(exfalso;omega)))|(refine LF.mk ?_;exact LX)|refine GN ?_|(refine XL [2,6,34,35] [2,6] (fun k0 _=>[(36,dI' k0),(11,.d (.sl true Bd (((mp (spV w o) (Al w (Ao w o).AK) k0)).map (A7.dd true))))]) (fun _ _=>[]) ((Al w (Ao w o).AK).length) (fun k0 _=>fc (spD w o) (Al w (Ao w o).AK)=fc (spD w o) ((Al w (Ao w o).AK).drop k0)) rU ?_;intro k0 hk0 s0 hi0;have hml:=Bh (spV w o) hk0;by_cases hkk:k0<(Al w (Ao w o).AK).length;rotate_left;(have hce:=hi0.trans (Az (f:=(spD w o)) (show(Al w (Ao w o).AK).length≤k0 by omega));have hme:mp (spV w o) (Al w (Ao w o).AK) k0=(Al w (Ao w o).AK).map (spV w o):=Bb (by omega));rotate_left;have hvy:spV w o (Al w (Ao w o).AK)[k0]=(sol w (asm w (Ao w o).Ah) 12 ⟨(Al w (Ao w o).AK)[k0],(Ao w o).At⟩).1:=rfl;have hcy:spD w o (Al w (Ao w o).AK)[k0]=(sol w (asm w (Ao w o).Ah) 12 ⟨(Al w (Ao w o).AK)[k0],(Ao w o).At⟩).2:=rfl;have hmn:=Es (f:=(spV w o)) hkk;rw[hvy] at hmn;replace H:=AI hmn H)|fail)
theorem kR (U:List BA') (N:Nat) (p a:List A0):Ct cx 432 [.d (.sl true BB []),.d (.sl false Ai ((p).map (A0.dd false))),.d (.sl false Ai ((a).map (A0.dd false)))] (p.length=a.length∧UI U []∧(∀x∈p,UT U x)∧(∀x∈a,UT U x)∧(unL (un tbg N) [] p a).isSome=true∧p≠[]) (uMR (E4 N [] p a)):=⟨fk1 func432,fun hp h=>CS.nil0 (by have q:=(fP U N p a []).cs hp h;simpa using q)⟩
theorem TD (U:List BA') (N:Nat) (p a:List A0):Ct cx 384 [.d (.sl false Ai ((p).map (A0.dd false))),.d (.sl false Ai ((a).map (A0.dd false)))] (p.length=a.length∧UI U []∧(∀x∈p,UT U x)∧(∀x∈a,UT U x)∧(unL (un tbg N) [] p a).isSome=true∧p≠[]) (mtR (E4 N [] p a)):=by
 have jj:=kR U N
 refine Xi func384 16 [.tmp 4,.tmp 5] [14] [] AN trivial ?_;intro hp h M G H E
 have hr1:=@N2;have hr2:=N3;have hr3:=@Bw;have hr4:=CB;replace H:=AI hr1 (AI hr2 (AI hr3 (AI hr4 H)))
 have hp2:=hp;have hlen:=hp.1;replace H:=AI hp2 (AI hlen H)
 rcases hq:E4 N [] p a with _|s1<;>replace H:=AI hq H
 repeat' (first|(refine iT ?_;refine XmF 4 ?_)|(refine iWL ?_;refine Xmw M ?_)|(refine iT ?_;refine XkB 5 ?_)|(refine RTW.mk ?_;refine GN ?_)|(refine iWL ?_;refine Cs M ?_)|(refine iDL ?_;refine CE M ?_)|(refine IN.mk ?_;intros)|(refine iTw ?_;refine T2 ?_ ?_<;>((try clear H);intro hb H)<;>try exact hb.elim)|(refine LF.mk ?_;exact LX)|refine GN ?_)
instance iUniO (k : Int) (n : BA') (l : List A0) (k2 : Int) (n2 : BA') (l2 : List A0) : Ct cx 384 [.d (.sl false Ai [(uK k n l)]), .d (.sl false Ai [(uK k2 n2 l2)])] (uOk (⟨k, n, l⟩ : A0) (⟨k2, n2, l2⟩ : A0) ∧ A0.wd (⟨k, n, l⟩ : A0) ∧ A0.wd (⟨k2, n2, l2⟩ : A0)) (mtR (unR (⟨k, n, l⟩ : A0) (⟨k2, n2, l2⟩ : A0))) := ⟨fk1 func384, fun hp h => by
  obtain⟨N,U,h1,h2,h3,h4,h5⟩:=Pv hp.1 hp.2.1 hp.2.2
  have q:=(TD U N [(⟨k,n,l⟩:A0)] [(⟨k2,n2,l2⟩:A0)]).cs ⟨rfl,h1,by simpa using h2,by simpa using h3,h4,by simp⟩ h
  rw[h5] at q
  simpa using q⟩
instance oH (k:Int) (n:BA') (l:List A0) (k2:Int) (n2:BA') (l2:List A0):Ct cx 327 [.d (uK k n l),.d (uK k2 n2 l2)] (uOk (⟨k,n,l⟩:A0) (⟨k2,n2,l2⟩:A0)∧A0.wd (⟨k,n,l⟩:A0)∧A0.wd (⟨k2,n2,l2⟩:A0)) (mtR (unR (⟨k,n,l⟩:A0) (⟨k2,n2,l2⟩:A0))):=by
 refine Xi func327 13 [.tmp 4,.tmp 5] [11] [] AN trivial ?_;intro hp h M G H E
 have hp1:=hp.1;have hp2:=hp.2.1;have hp3:=hp.2.2;replace H:=AI hp1 (AI hp2 (AI hp3 H))
 have hr1:=@Bw;have hr2:=CB;replace H:=AI hr1 (AI hr2 H)
 rcases hq:unR (⟨k,n,l⟩:A0) (⟨k2,n2,l2⟩:A0) with _|s1<;>replace H:=AI hq H
 repeat' (first|(refine iT ?_;refine XkB 5 ?_)|(refine RTW.mk ?_;refine GN ?_)|(refine iWL ?_;refine Cs M ?_)|(refine iDL ?_;refine CE M ?_)|(refine IN.mk ?_;intros)|(refine iTw ?_;refine T2 ?_ ?_<;>((try clear H);intro hb H)<;>try exact hb.elim)|(refine LF.mk ?_;exact LX)|refine GN ?_)
instance iUnb (k:Int) (n:BA') (l:List A0) (k2:Int) (n2:BA') (l2:List A0):Ct cx 245 [.d (uK k n l),.d (uK k2 n2 l2)] (hdS (⟨k,n,l⟩:A0)∧hdS (⟨k2,n2,l2⟩:A0)∧A0.sz (⟨k,n,l⟩:A0)≤134217727∧A0.sz (⟨k2,n2,l2⟩:A0)≤134217727) (dB' (U3 (⟨k,n,l⟩:A0) (⟨k2,n2,l2⟩:A0))):=by
 refine Xi func245 20 [.tmp 4] [17] [] AN (@U3.eq_1) ?_;intro hp h M G H E
 have hu:=Py hp.1 hp.2.1;have hw1:=CJ (Nat.le_trans hp.2.2.1 (by decide));have hw2:=CJ (Nat.le_trans hp.2.2.2 (by decide));have hw3:=Xj (a:=(⟨k,n,l⟩:A0)) hw2;have hl1:=N5 (⟨k,n,l⟩:A0);have hl2:=N5 (⟨k2,n2,l2⟩:A0);have hz1:=hp.2.2.1;have hz2:=hp.2.2.2;have hae:ap (apR (tv (⟨k,n,l⟩:A0)) (tv (⟨k2,n2,l2⟩:A0))) (⟨k2,n2,l2⟩:A0)=apt (⟨k,n,l⟩:A0) (⟨k2,n2,l2⟩:A0):=rfl;have hto1:tvO (⟨k,n,l⟩:A0) []:=Ig (U:=tv (⟨k,n,l⟩:A0)) hw1 (by have:=hp.1.2;omega) (HW _);replace H:=AI hu (AI hw1 (AI hw2 (AI hw3 (AI hae (AI hto1 H)))))
 have hto2:tvO (⟨k2,n2,l2⟩:A0) []:=Ig (U:=tv (⟨k2,n2,l2⟩:A0)) hw2 (by have:=hp.2.1.2;omega) (HW _);have hrw:=Pe (a:=tv (⟨k,n,l⟩:A0)) (u:=unN (tv (⟨k,n,l⟩:A0)) (tv (⟨k2,n2,l2⟩:A0))) (l:=tv (⟨k2,n2,l2⟩:A0)) (tv (⟨k2,n2,l2⟩:A0)).length;have hrr:(apK (tv (⟨k,n,l⟩:A0)) (unN (tv (⟨k,n,l⟩:A0)) (tv (⟨k2,n2,l2⟩:A0))) (tv (⟨k2,n2,l2⟩:A0)) (tv (⟨k2,n2,l2⟩:A0)).length).2=apR (tv (⟨k,n,l⟩:A0)) (tv (⟨k2,n2,l2⟩:A0)):=rfl;rw[hrr] at hrw;have hda:=hp.1;have hdb:=hp.2.1;replace H:=AI hda (AI hdb (AI hto2 (AI hrw (AI hz1 (AI hz2 H)))))
 have hr1:=@Bw;have hr2:=CB;replace H:=AI hr1 (AI hr2 H)
 rcases hq:unR (⟨k,n,l⟩:A0) (apt (⟨k,n,l⟩:A0) (⟨k2,n2,l2⟩:A0)) with _|s1<;>replace H:=AI hq H
 repeat' (first|(refine iDL ?_;refine CE M ?_)|(refine IN.mk ?_;intros)|(refine iTw ?_;refine T2 ?_ ?_<;>((try clear H);intro hb H)<;>try exact hb.elim)|(refine LF.mk ?_;exact LX)|refine GN ?_)
instance iOvA (a b:AJ):Ct cx 169 [.d (E6 a),.d (E6 b)] (hdS a.At∧hdS b.At∧a.sz≤134217727∧b.sz≤134217727) (dB' (ovA a b)):=by
 refine Xi func169 38 [.tmp 4] [] [] AN (@ovA.eq_1) ?_;intro hp h M G H E
 obtain⟨ho1,ho2,ho3,ho4⟩:=hp;have haz:=a.sz_eq;have hbz:=b.sz_eq;unfold szs at haz hbz;have hz1:a.At.sz≤134217727:=(by omega);have hz2:b.At.sz≤134217727:=(by omega);replace H:=AI ho1 (AI ho2 (AI hz1 (AI hz2 H)))
 all_goals exact GA1
instance iOver (w:A1):Ct cx 108 [.d (Au w)] (vP w) (.d (.sl true CX (((over w)).map (A3.dd true)))):=by
 refine Xi func108 54 [.tmp 2] [47,53] [] AN (@JP) ?_;intro hp h M G H E
 have hvz:=hp.sz;have hvz2:w.sz≤134217728:=(by omega);have hrl:=Dj w;replace H:=AI hvz2 H
 repeat' (first|(refine IN.mk ?_;intros)|(refine iTw ?_;refine T2 ?_ ?_<;>((try clear H);intro hb H)<;>try (first|exact hb.elim|(exfalso;omega)))|(refine LF.mk ?_;exact LX)|refine GN ?_|(refine XL [1,4,16,17] [1] (fun k0 _=>[(18,dI' k0),(3,.d (.sl true CX (((ovK w (BF w) k0)).map (A3.dd true))))]) (fun _ _=>[]) ((BF w).length) (fun _ _=>True) rU ?_;intro k0 hk0 s0 hi0;have hol:=Ls w (BF w) k0;by_cases hkk:k0<(BF w).length;rotate_left;(have hoe:ovK w (BF w) k0=over w:=(by rw[show k0=(BF w).length by omega];rfl);replace H:=AI hoe H);rotate_left;have hr0:=Dc (gm hkk);have hd0:=(hp.hd _ hr0).1;have hs0:=Nat.le_trans (C9 hr0) hvz;replace H:=AI hr0 (AI hd0 (AI hs0 H)))|(refine XC [1,3,4,6,7,16,17,18,31,32] [1,6,7] 33 (k0) (fun k1=>bdA w (BF w)[k0] ((BF w).take k0)=bdA w (BF w)[k0] (((BF w).take k0).drop k1)) ?_ (e:=by intro k;simp[cV, -List.map_take];rfl);intro k1 hk1 hi1;by_cases hkj:k1<k0;rotate_left;have hon:=VJ w hkk (hi1.trans (Rt w _ (by simp;omega)));replace H:=AI hon H;rotate_left;have hkl:k1<(BF w).length:=(by omega);have hbn:=XU w (BF w)[k0] hkj hkl;have hoy:=fun (h:ovA (Ao w (BF w)[k1]) (Ao w (BF w)[k0])=false)=>Qi w hkk (hi1.trans (XR hbn h));have hox:=fun (h:ovA (Ao w (BF w)[k1]) (Ao w (BF w)[k0])=true)=>hi1.trans (XS hbn h);have hr1:=Dc (gm hkl);have hd1:=(hp.hd _ hr1).1;have hs1:=Nat.le_trans (C9 hr1) hvz;replace H:=AI hr1 (AI hd1 (AI hs1 H)))|fail)
instance iChk (w:A1) (o:A3):Ct cx 44 [.d (Au w),.d (FU o)] (vP w∧inR w o) (dI' ((coC w o))):=by
 refine Xi func44 45 [.tmp 4] [] [] AN trivial ?_;intro hp h M G H E
 obtain⟨hv,ho⟩:=hp;have hvz:=hv.sz;have hvz2:w.sz≤134217728:=(by omega);have hiz:=C9 ho;have hiz2:(Ao w o).sz≤134217728:=(by omega);replace H:=AI hvz2 (AI hiz2 (AI ho (AI hv H)))
 repeat' (first|exact true|(refine LF.mk ?_;have q:=cm (w:=w) (o:=o) hb;simp[q];done)|(refine LF.mk ?_;have q:=ck (w:=w) (o:=o) (by assumption) hb;simp[q];done)|(refine LF.mk ?_;have q:=cj (w:=w) (o:=o) (by assumption) (by assumption) hb;simp[q];done)|(refine LF.mk ?_;have q:=ci (w:=w) (o:=o) (by assumption) (by assumption) (by assumption) hb;simp[q];done)|(refine LF.mk ?_;have q:=cg (w:=w) (o:=o) (by assumption) (by assumption) (by assumption) (by assumption) hb;simp[q];done)|(refine LF.mk ?_;have q:=co (w:=w) (o:=o) (by assumption) (by assumption) (by assumption) (by assumption) hb;simp[q];done)|(refine iWL ?_;refine Cs M ?_)|(refine iDL ?_;refine CE M ?_)|(refine IN.mk ?_;intros)|(refine iTw ?_;refine T2 ?_ ?_<;>((try clear H);intro hb H)<;>try exact hb.elim)|(refine LF.mk ?_;exact LX)|refine BO.mk ?_ ?_|(apply iPJ;exact NPJ)|apply PXs.of|refine GN ?_)
instance iCohE (w:A1):Ct cx 19 [.d (Au w)] (vP w) (.d (.sl true Lj (((GG w)).map (AP.dd true)))):=by
 refine Xi func19 33 [.tmp 2] [25,32] [] AN (@ON) ?_;intro hp h M G H E
 have hvz:=hp.sz;have hvz2:w.sz≤134217728:=(by omega);have hrl:=Dj w;replace H:=AI hvz2 (AI hp H)
 repeat' (first|(refine LF.mk ?_;have q:=Wv (w:=w) (by assumption);simp[q];done)|(refine LF.mk ?_;have q:=Ww (w:=w) (by assumption);simp[q,hce];done)|(refine IN.mk ?_;intros)|(refine iTw ?_;refine T2 ?_ ?_<;>((try clear H);intro hb H)<;>try (first|exact hb.elim|(exfalso;omega)))|(refine LF.mk ?_;exact LX)|refine GN ?_|(refine XL [1,14,15] [1] (fun k0 _=>[(16,dI' k0),(3,.d (.sl true Lj (((coK w k0)).map (AP.dd true))))]) (fun _ _=>[]) ((BF w).length) (fun _ _=>True) rU ?_;intro k0 hk0 s0 hi0;have hcl:=Ri w k0;by_cases hkk:k0<(BF w).length;rotate_left;have hce:=Rj (w:=w) (k:=k0) (by omega);rotate_left;have hr0:=Dc (gm hkk);replace H:=AI hr0 H;rcases Classical.em (coC w (BF w)[k0]=0) with hc|hc<;>replace H:=AI hc H;have hcn:=X4 hkk hc;replace H:=AI hcn H;rotate_left;have hcn:=Rh hkk hc;replace H:=AI hcn H;rotate_left)|fail)
instance oP (w:A1):Ct cx 16 [.d (Au w)] (w.sz≤134217728) (.d (.sl true E8 (((feE w)).map (AO.dd true)))):=⟨fk1 func16,fun hp h=>by have q:=kX w hp h;simpa[A1.dd_eq] using q⟩
instance iFst (w:A1):Ct cx 7 [.d (Au w)] (w.sz≤1048576) (dS' ((IX w))):=by
 refine Xi func7 68 [.tmp 2] [] [] AN (@spB.eq_1) ?_;intro hp h M G H E
 have hz2:w.sz≤134217728:=(by omega);replace H:=AI hz2 H
 rcases hf:feE w with _|⟨e,l⟩<;>replace H:=AI hf H
 have hv:=bZ (by omega) hf;replace H:=AI hv H
 rcases hc:GG w with _|⟨e,l⟩<;>replace H:=AI hc H
 have hr:=cS hf hc;replace H:=AI hr H
 rotate_left
 rcases cU hf hc with ⟨x,rfl,hr⟩|⟨c,n,m,hn,rfl,h6,hm,hr⟩
 replace H:=AI hr H
 rotate_left
 have s1:=X0 c;have s2:=Ln w hn;have s3:=Hq (m:Int) (by omega);have s4:InR (m:Int):=(by unfold InR;have:=RK;have:=RJ;omega);replace H:=AI hr (AI hn (AI h6 (AI s1 (AI s2 (AI s3 (AI s4 H))))))
 rotate_left
 rcases cT hf with ⟨x,rfl,hr⟩|⟨c,n,k,s,hn,rfl,h8,hk,hs,hr⟩
 replace H:=AI hr H
 rotate_left
 have s1:=WF c;have s2:=Ln w hn;replace H:=AI hr (AI hn (AI h8 (AI s1 (AI s2 (AI hk (AI hs H))))))
 repeat' (first|(refine IN.mk ?_;intros)|(refine iTw ?_;refine T2 ?_ ?_<;>((try clear H);intro hb H)<;>try (first|exact hb.elim|(exfalso;omega)))|(refine LF.mk ?_;exact LX)|refine GN ?_)
instance oD (w:A1):Ct cx 3 [.d (Ee w)] (True) (dB' true):=by
 refine Xi func3 27 [.tmp 2] [] [] AN trivial ?_;intro hp h M G H E
 have hl0:¬w.sz≤1048576→BW w.sz 1048576= -1:=(fun h=>by unfold BW;rw[if_neg (by omega)])
 have hl1:w.sz≤1048576→BW w.sz 1048576=1048576 - (w.sz:Int):=(fun h=>by unfold BW;rw[if_pos (by omega)])
 rcases Classical.em (w.sz≤1048576) with hz|hz
 have hl:=hl1 hz;have hz1:w.sz≤134217728:=(by omega);have hz2:w.sz≤16777216:=(by omega);replace H:=AI hl (AI hz (AI hz1 (AI hz2 H)))
 rotate_left
 have hl:=hl0 hz;replace H:=AI hl H
 repeat' (first|(refine IN.mk ?_;intros)|(refine iTw ?_;refine T2 ?_ ?_<;>((try clear H);intro hb H)<;>try (first|exact hb.elim|(exfalso;omega)))|(refine LF.mk ?_;exact LX)|refine GN ?_)
