/- Part 38. No condition. -/
import Derived.Test.YtgihkamifpmfdaaGreatDoorM33
import Derived.Test.YtgihkamifpmfdaaGreatDoorM34
import Derived.Test.YtgihkamifpmfdaaGreatDoorM36
namespace Go.Proofs.YtgihkamifpmfdaaGreatDoor
open Go.RowKit Tryz
set_option linter.unusedVariables false
set_option maxRecDepth 10000
set_option linter.unusedSimpArgs false
set_option maxHeartbeats 4000000
theorem IF {α:Type} (g:α→BA') (s:BA'):∀(l:List α) (i:Nat),(fs (byF g s) i l).isSome=l.any fun x=>decide (g x=s)
  |[],_=>rfl
  |x::l,i=>by
    rw[fs,List.any_cons]
    unfold byF
    by_cases h:g x=s
    · simp[h]
    · simp only[h,if_false,decide_false,Bool.false_or];exact IF g s l (i+1)
theorem a8 {α:Type} (z:α):∀o:Option (α×Nat),(DX z o).2.2=o.isSome
  |some (_,_)=>rfl
  |none=>rfl
theorem ZL (x:AJ) (s:BA'):(meR x s).2.2=x.Ar.any fun m=>decide (m.A5=s):=by
  unfold meR byN;rw[a8,IF]
instance ne (w:A1) (i:Int) (d:AF):Ct cx 56 [.d (Au w),dI' i,.d (SL d)] (w.sz≤134217728) (dI' (Fo w (vis w i) d)):=by
 refine Xi func56 28 [.tmp 6] [] [] AN (AI @Fo.eq_1<|AI @BP<|@Az) ?_;intro hp h M G H E
 repeat' (first|(refine IN.mk ?_;intros)|(refine iTw ?_;refine T2 ?_ ?_<;>((try clear H);intro hb H)<;>try exact hb.elim)|(refine LF.mk ?_;exact LX)|refine GN ?_|(refine XC [1,3,5] [3,5] 7 (d.A4.length) (fun k0=>Fo w (vis w i) d=fc (fun c:AA=>fc (ckT w (vis w i)) c.Av) (d.A4.drop k0)) ?_;intro k0 hk0 hi0)|fail)
def m3 (s:BA') (m:AY):Bool:=decide (m.A5=s)
theorem kH (x:AJ) (g:AC):m2 x g=(g.BS||x.Ar.any (m3 g.A5)):=by unfold m2;rw[ZL];rfl
instance eO (t:AU) (x:AJ):Ct cx 131 [.d (KQ t),.d (E6 x)] (t.sz≤134217728) (dB' (Cy t x)):=by
 refine Xi func131 83 [.tmp 4] [] [] AN (AI @Ja<|AI @m1.eq_1<|AI @kH<|AI @m3.eq_1<|AI @Cc<|AI @Bp<|AI @Bc<|@BM) ?_;intro hp h M G H E
 have hsw:=@QD t hp;replace H:=AI hsw H
 repeat' (first|exact true|(refine IN.mk ?_;intros)|(refine iTw ?_;refine T2 ?_ ?_<;>((try clear H);intro hb H)<;>try exact hb.elim)|(refine LF.mk ?_;exact LX)|refine BO.mk ?_ ?_|(apply iPJ;exact NPJ)|apply PXs.of|refine GN ?_|(refine XC [2,3] [2,3] 5 (x.Ar.length) (fun k0=>x.Ar.all (m1 t)=(x.Ar.drop k0).all (m1 t)) ?_;intro k0 hk0 hi0)|(refine XC [2,3] [2,3] 8 (t.AW.length) (fun k1=>x.Ar.all (m1 t)=true∧t.AW.all (m2 x)=(t.AW.drop k1).all (m2 x)) ?_;intro k1 hk1 hi1)|(refine XL [2,3,8] [2,3] (fun k2 s2=>[(10,dI' k2),(9,dB' s2)]) (fun _ _=>[]) (x.Ar.length) (fun k2 s2=>m2 x t.AW[k1]=(s2||(x.Ar.drop k2).any (m3 t.AW[k1].A5))) (fun S=>avB (S.tm 9)) ?_;intro k2 hk2 s2 hi2)|fail)
theorem Vg (r:Int):(if r=0 then 0 else r)=r:=by split<;>simp_all
instance iO (a b:Int):Ct cx 126 [.d (.sl false .one [.lf (.int .i64 a),.lf (.int .i64 b)])] (True) (dI' (or0 a b)):=⟨fk1 func126,fun hp h=>by have q:=(Uu [a,b]).cs trivial h;first|exact q|simpa[fc,or0,dI,Vg] using q⟩
instance iN (a b c:Int):Ct cx 126 [.d (.sl false .one [.lf (.int .i64 a),.lf (.int .i64 b),.lf (.int .i64 c)])] (True) (dI' (or0 a (or0 b c))):=⟨fk1 func126,fun hp h=>by have q:=(Uu [a,b,c]).cs trivial h;first|exact q|simpa[fc,or0,dI,Vg] using q⟩
instance (priority:=10) fi (w:A1):Ct cx 43 [.d (Au w)] (w.sz≤134217728) (.ms CX (((BF w)).map (A3.dd true))):=by
 refine Xi func43 31 [.tmp 2] [22,30] [] AN (AI @F4<|AI @KJ<|@JL) ?_;intro hp h M G H E
 have hwz:=w.sz_eq;unfold szs at hwz
 repeat' (first|(refine iR (i:=2) ?_;refine XmN 3 ?_)|(refine iWL ?_;first|refine Xmw M ?_|refine lR ?_ (hE:=rfl))|(refine IN.mk ?_;intros)|(refine iTw ?_;refine T2 ?_ ?_<;>((try clear H);intro hb H)<;>try exact hb.elim)|(refine LF.mk ?_;exact LX)|refine GN ?_|(refine XL [9,10] [] (fun k0 _=>[(11,dI' k0),(3,.ms CX (((alK w k0)).map (A3.dd true)))]) (fun _ _=>[]) (w.A2.length) (fun _ _=>True) rU ?_;intro k0 hk0 s0 hi0;have hal:=KK w hk0;have hae:w.A2.length≤k0→alK w k0=BF w:=fun h=>Me (by omega);have han:=KL w k0)|(refine XL [4,9,10,11,18] [] (fun k1 _=>[(19,dI' k1),(3,.ms CX (((alK w k0++rfK k0 k1)).map (A3.dd true)))]) (fun _ _=>[]) (w.A2[k0].AQ.length) (fun _ _=>True) rU ?_;intro k1 hk1 s1 hi1;have hrl:=Gq k0 k1;have hpg:=Pg (w:=w) (k:=k0) (by omega);have hrn:=P2 k0 k1;(have hre:w.A2[k0].AQ.length≤k1→rfK k0 k1=rfP w k0:=fun h=>by rw[F4 (by omega),show k1=w.A2[k0].AQ.length by omega]))|fail)
instance iMtO (k:Int) (n:BA') (l:List A0) (k2:Int) (n2:BA') (l2:List A0):Ct cx 401 [.d (.sl true BB []),.d (.sl false Ai [(uK k n l)]),.d (.sl false Ai [(uK k2 n2 l2)])] (A0.wd (⟨k2,n2,l2⟩:A0)∧AR (⟨k,n,l⟩:A0)≤134217728) (mtR (mtc (⟨k,n,l⟩:A0) (⟨k2,n2,l2⟩:A0))):=⟨fk1 func401,fun hp h=>by have q:=(oM [(⟨k,n,l⟩:A0)] [(⟨k2,n2,l2⟩:A0)] []).cs ⟨by simpa using hp.1,by simpa[Ag] using Ru hp.2⟩ h;rw[L0] at q;simpa using q⟩
instance iMtc (k:Int) (n:BA') (l:List A0) (k2:Int) (n2:BA') (l2:List A0):Ct cx 340 [.d (uK k n l),.d (uK k2 n2 l2)] (A0.wd (⟨k2,n2,l2⟩:A0)∧AR (⟨k,n,l⟩:A0)≤134217728) (mtR (mtc (⟨k,n,l⟩:A0) (⟨k2,n2,l2⟩:A0))):=by
 refine Xi func340 13 [.tmp 4,.tmp 5] [11] [] AN trivial ?_;intro hp h M G H E
 have hp1:=hp.1;replace H:=AI hp1 H
 have hr1:=@Bw;have hr2:=CB;replace H:=AI hr1 (AI hr2 H)
 rcases hq:mtc (⟨k,n,l⟩:A0) (⟨k2,n2,l2⟩:A0) with _|s1<;>replace H:=AI hq H
 all_goals exact GA2
instance iMtB (k:Int) (n:BA') (l:List A0) (k2:Int) (n2:BA') (l2:List A0):Ct cx 330 [.d (uK k n l),.d (uK k2 n2 l2)] (A0.wd (⟨k2,n2,l2⟩:A0)∧AR (⟨k,n,l⟩:A0)≤134217728) (dB' (mtB (⟨k,n,l⟩:A0) (⟨k2,n2,l2⟩:A0))):=by
 refine Xi func330 14 [.tmp 4] [11] [] AN (@Nh) ?_;intro hp h M G H E
 have hp1:=hp.1;replace H:=AI hp1 H
 have hr1:=@Bw;have hr2:=CB;replace H:=AI hr1 (AI hr2 H)
 rcases hq:mtc (⟨k,n,l⟩:A0) (⟨k2,n2,l2⟩:A0) with _|s1<;>replace H:=AI hq H
 all_goals exact GA2
instance iMore (k:Int) (n:BA') (l:List A0) (k2:Int) (n2:BA') (l2:List A0):Ct cx 246 [.d (uK k n l),.d (uK k2 n2 l2)] (A0.sz (⟨k,n,l⟩:A0)≤134217727∧A0.sz (⟨k2,n2,l2⟩:A0)≤134217727) (dB' (Gw (⟨k,n,l⟩:A0) (⟨k2,n2,l2⟩:A0))):=by
 refine Xi func246 14 [.tmp 4] [] [] AN (@Gw.eq_1) ?_;intro hp h M G H E
 have hp1:=CJ (Nat.le_trans hp.1 (by decide));have hp2:=CJ (Nat.le_trans hp.2 (by decide));have hs1:AR (⟨k,n,l⟩:A0)≤134217728:=Nat.le_trans (Cn _) (by have:=hp.1;omega);have hs2:AR (⟨k2,n2,l2⟩:A0)≤134217728:=Nat.le_trans (Cn _) (by have:=hp.2;omega);replace H:=AI hp1 (AI hp2 H)
 all_goals exact GA1
instance iVarT (s:BA'):Ct cx 388 [dS' s] (True) (.d (((⟨1,s,[]⟩:A0)).dd true)):=by
 refine Xi func388 5 [.cell 2 85] [] [] AN trivial ?_;intro hp h M G H E
 all_goals exact GA0
instance iTerC (y:A9) (x:AJ):Ct cx 171 [.d (Du y),.el (E6 x)] (y.sz≤134217728∧x.At.sz≤134217728) (dB' (!te1 x y)):=by
 refine Xi func171 9 [.tmp 3] [] [] AN (@te1.eq_1) ?_;intro hp h M G H E
 all_goals exact GA0
instance iTer (x:AJ):Ct cx 109 [.d (E6 x)] (x.sz≤134217728) (dB' (FW x)):=by
 refine Xi func109 8 [.tmp 2] [] [] AN (AI @Kh<|@Mc) ?_;intro hp h M G H E
 have hxz:=x.sz_eq;unfold szs at hxz
 have hbs:∀y∈x.Ah,y.sz≤134217728∧x.At.sz≤134217728:=fun y hy=>⟨by have:=Ae A9.sz hy;omega,by omega⟩
 replace H:=AI hbs H
 repeat' (first|(refine W.fzR (id:=1) 1 1 [] [] ?_)|(refine IN.mk ?_;intros)|(refine iTw ?_;refine T2 ?_ ?_<;>((try clear H);intro hb H)<;>try exact hb.elim)|(refine LF.mk ?_;exact LX)|refine GN ?_)
theorem kV (w:A1) (t:A0) (h:HP):CS cx.P 167 [.d ((w).dd false),.d ((t).dd false)] h (dI' (Fj w t)) h:=by
 refine Xe func167 rfl 27 [.tmp 4] ?_
 let M:List Nat:=[]
 let G:List Nat:=[]
 have H:=AN
 repeat' (first|refine GO ?_|(refine Two.mk ?_ ?_<;>intro hb<;>(try simp at hb)<;>(try norm_cast at hb)<;>try replace H:=HN hb H)|(refine RG.mk ?_;(try clear hK hD);first|intro _ K hD hK|intro K hD hK)|(refine RF.mk ?_;intro hr)|(refine LF.mk ?_;(try clear hK hD);first|rfl|(simp[Fj, *];done)|(simp_all [Fj];done)|grind [Fj]))
instance lm (w:A1) (k:Int) (s:BA') (l:List A0):Ct cx 167 [.d (Au w),.d (uK k s l)] (True) (dI' (Fj w ⟨k,s,l⟩)):=⟨fk1 func167,fun hp h=>by have q:=kV w ⟨k,s,l⟩ h;first|exact q|simpa using q⟩
instance iOrph (w:A1) (o:A3):Ct cx 106 [.d (Au w),.d (FU o)] (w.sz≤134217728∧inR w o) (dB' (Fc w o)):=by
 refine Xi func106 42 [.tmp 4] [] [] AN (@Fc.eq_1) ?_;intro hp h M G H E
 have hip:=hp.2;replace H:=AI hip H
 all_goals exact GA1
instance oO (y g:A9):Ct cx 253 [.d (Du y),.el (Du g)] (True) (dB' (eqG y g)):=by
 refine Xi func253 7 [.tmp 3] [] [] AN trivial ?_;intro hp h M G H E
 all_goals exact GA0
instance cP (l:List A9) (g:A9):Ct cx 175 [.d (.sl false BC ((l).map (A9.dd false))),.d (Du g)] (True) (dB' (H5 l g)):=by
 refine Xi func175 8 [.tmp 4] [] [] AN (@a7) ?_;intro hp h M G H E
 have htr:∀y∈l,True:=(fun _ _=>trivial);replace H:=AI htr H
 repeat' (first|(refine W.fzR (id:=1) 3 3 [0] [] ?_)|(refine IN.mk ?_;intros)|(refine iTw ?_;refine T2 ?_ ?_<;>((try clear H);intro hb H)<;>try exact hb.elim)|(refine LF.mk ?_;exact LX)|refine GN ?_)
instance (priority:=2000) fY (b:List A9) (tr:BA') (k:Int) (n:BA') (l:List A0):Ct cx 175 [.d (.sl false BC ((b).map (A9.dd false))),.d (.st [.lf (.string tr),uK k n l])] (True) (dB' (H5 b (⟨tr,(⟨k,n,l⟩:A0)⟩:A9))):=⟨(cP b (⟨tr,(⟨k,n,l⟩:A0)⟩:A9)).ok,fun hp h=>by have q:=(cP b (⟨tr,(⟨k,n,l⟩:A0)⟩:A9)).cs hp h;first|exact q|simpa using q⟩
theorem fW (y:A0) (o:List A9) (hy:y.sz≤134217728) (ho:o.length<1073741824) (lv k:Nat) (h:HP) (hcap:hpg h lv k=some (.d (.sl true BC ((o).map (A9.dd true))))):CS cx.P 251 [.d (y.dd false),.pt lv k []] h (.tp []) (hps h lv k (some (.d (.sl true BC (((pj1 y.AH y.A5 y.AB o)).map (A9.dd true)))))):=by
 have hc2:=Dh hcap
 have hc3:∀x:DD,hpg (upH (hps h lv k (some (.d x)))) lv k=some (.d x):=fun x=>Dh (Et hcap)
 have hwy:=CJ hy
 have he:∀x:A0,(⟨x.AH,x.A5,x.AB⟩:A0)=x:=fun x=>by cases x;rfl
 refine Ze func251 rfl 29 ?_
 apply Zr;intros
 refine Zo ?_ (by simp[hc2,hc3]<;>omega);simp[hc2,hc3]
 exact Zx
 refine W.seq ?_
 refine W.regJ (D:=_) [1,2] [2] [(12,.d (.lf (.bool (decide (y.AH=3) && decide (0<y.AB.length)))))] [] rfl (fun _ K hD hK=> ?_) fun T hT=> ?_
 iterate 4 (refine Zo ?_ (by simp[hc2,hc3]<;>omega);simp[hc2,hc3])
 refine WL.split 7 _ rfl (fun g7=> ?_) fun g7=> ?_<;>try simp at g7
 simp[hc2,hc3]
 iterate 4 (refine ZG' ?_ (by simp[hc2,hc3]<;>omega);simp[hc2,hc3])
 refine Zo ?_ (by simp[hc2,hc3]<;>omega);simp[hc2,hc3]
 refine WL.nil (hK _ (Wz.to rfl rfl rfl ?_))
 simp[g7]
 simp[hc2,hc3]
 iterate 4 (refine ZN' ?_;simp[hc2,hc3])
 refine Zo ?_ (by simp[hc2,hc3]<;>omega);simp[hc2,hc3]
 refine WL.nil (hK _ (Wz.to rfl rfl rfl ?_))
 simp[g7]
 simp at hT;subst hT
 refine Zc rfl ?_ ?_<;>intro hb0<;>try simp at hb0
 have h32:y.AH=3∧0<y.AB.length:=by simpa using hb0
 apply Yr rfl;intro K hK
 iterate 6 (refine Yo ?_ (by simp[hc2,hc3,h32]<;>omega);simp[hc2,hc3,h32])
 refine Yl [] rfl func252 ((fd (y.AB[0]'h32.2).AH (y.AB[0]'h32.2).A5 (y.AB[0]'h32.2).AB).cs (by rw[he];exact Bj hwy _ (gm h32.2))) ?_ (by simp[hc2,hc3,h32]);simp[hc2,hc3,h32]
 iterate 3 (refine Yo ?_ (by simp[hc2,hc3,h32]<;>omega);simp[hc2,hc3,h32])
 exact DL.nil rfl hK
 apply Zr;intros
 iterate 2 (refine Zo ?_ (by simp[hc2,hc3,h32]<;>omega);simp[hc2,hc3,h32])
 refine Zl [] rfl func175 ((fY o y.A5 (y.AB[0]'h32.2).AH (y.AB[0]'h32.2).A5 (y.AB[0]'h32.2).AB).cs trivial _) ?_ (by simp[hc2,hc3,h32]);simp[hc2,hc3,h32]
 refine Zo ?_ (by simp[hc2,hc3,h32]<;>omega);simp[hc2,hc3,h32]
 exact Zx
 refine Zc rfl ?_ ?_<;>intro hb1<;>try simp at hb1
 have ht:(pj1 y.AH y.A5 y.AB o)=o++[⟨y.A5,(y.AB[0]'h32.2)⟩]:=Qg h32.1 h32.2 (by(try simp at hb1);rw[he] at hb1;exact hb1)
 have hsm:True:=trivial
 apply Zs;intros
 refine Zm [25] ?_ (by simp[hc2,hc3,h32]<;>omega);simp[hc2,hc3,h32]
 refine Zm [26] ?_ (by simp[hc2,hc3,h32]<;>omega);simp[hc2,hc3,h32]
 iterate 3 (refine Zo ?_ (by simp[hc2,hc3,h32]<;>omega);simp[hc2,hc3,h32])
 exact Zx
 refine⟨.inl rfl,⟨_,congrArg (List.cons _) (by simp[ht,hsm])⟩,?_⟩
 simp[f251,ht]
 have ht:(pj1 y.AH y.A5 y.AB o)=o:=Qf h32.1 h32.2 (by(try simp at hb1);rw[he] at hb1;exact hb1)
 have hsm:=ED _ _ _ _ hcap
 refine W.skip ?_
 refine⟨.inl rfl,⟨_,congrArg (List.cons _) (by simp[ht,hsm])⟩,?_⟩
 simp[f251,ht]
 have ht:(pj1 y.AH y.A5 y.AB o)=o:=VC (by simpa using hb0)
 have hsm:=ED _ _ _ _ hcap
 refine W.skip ?_
 refine⟨.inl rfl,⟨_,congrArg (List.cons _) (by simp[ht,hsm])⟩,?_⟩
 simp[f251,ht]
theorem Vs (x:A0) (hp:x.sz≤134217728) (h:HP):CS cx.P 173 [.d ((x).dd false)] h (.d (.sl true BC (((pjT x [])).map (A9.dd true)))) h:=by
 refine Xe func173 rfl 9 [.tmp 2] ?_
 let M:List Nat:=[8]
 let G:List Nat:=[]
 have H:=AN
 repeat' (first|(refine XlH G func250 (FA x hp 251 f251 _ ⟨func251,rfl,rfl⟩ 3 (fun (o:List A9)=>DD.sl true BC (o.map (A9.dd true))) VA List.length Z7 (fun y hy o ho lv h hcap=>fW y o hy ho lv 3 h hcap) [] (by have:=Cn x;simp only[List.length_nil];omega) 0 _ (by simp)) ?_)|refine GO ?_|(refine Two.mk ?_ ?_<;>intro hb<;>(try simp at hb)<;>(try norm_cast at hb)<;>try replace H:=HN hb H)|(refine RG.mk ?_;(try clear hK hD);first|intro _ K hD hK|intro K hD hK)|(refine RF.mk ?_;intro hr)|(refine LF.mk ?_;(try clear hK hD);first|rfl|(simp[MJ, *];done)|(simp_all [MJ];done)|grind [MJ]))
instance iPrIn (k:Int) (n:BA') (l:List A0):Ct cx 173 [.d (uK k n l)] (A0.sz (⟨k,n,l⟩:A0)≤134217728) (.d (.sl true BC (((pjT (⟨k,n,l⟩:A0) [])).map (A9.dd true)))):=⟨((⟨fk1 func173,fun hp h=>Vs (⟨k,n,l⟩:A0) hp h⟩:Ct cx 173 [.d (((⟨k,n,l⟩:A0)).dd false)] (A0.sz (⟨k,n,l⟩:A0)≤134217728) (.d (.sl true BC (((pjT (⟨k,n,l⟩:A0) [])).map (A9.dd true)))))).ok,fun hp h=>by have q:=((⟨fk1 func173,fun hp h=>Vs (⟨k,n,l⟩:A0) hp h⟩:Ct cx 173 [.d (((⟨k,n,l⟩:A0)).dd false)] (A0.sz (⟨k,n,l⟩:A0)≤134217728) (.d (.sl true BC (((pjT (⟨k,n,l⟩:A0) [])).map (A9.dd true)))))).cs hp h;first|exact q|simpa using q⟩
instance iAsC (y:A9) (x:AJ):Ct cx 174 [.d (Du y),.el (E6 x)] (True) (dB' (!H5 x.Ah y)):=by
 refine Xi func174 9 [.tmp 3] [] [] AN trivial ?_;intro hp h M G H E
 all_goals exact GA0
instance iAsc (x:AJ):Ct cx 110 [.d (E6 x)] (x.sz≤134217728) (dB' (ER x)):=by
 refine Xi func110 9 [.tmp 2] [] [] AN (AI @ER.eq_1<|@Mc) ?_;intro hp h M G H E
 have hxz:=x.sz_eq;unfold szs at hxz;have haz:x.B4.sz≤134217728:=(by omega);replace H:=AI haz H
 have htr:∀y∈(pjT x.B4 []),True:=(fun _ _=>trivial);replace H:=AI htr H
 repeat' (first|(refine W.fzR (id:=1) 1 1 [] [] ?_)|(refine IN.mk ?_;intros)|(refine iTw ?_;refine T2 ?_ ?_<;>((try clear H);intro hb H)<;>try exact hb.elim)|(refine LF.mk ?_;exact LX)|refine GN ?_)
theorem RI (w:A1) (v:List Nat) (hp:w.sz≤134217728) (n:Nat) (ii:∀(k:Int) (s:BA') (l:List A0),Ct cx 84 [.d (.st [Au w,.sl false .one (v.map dN)]),.d (uK k s l)] (AR ⟨k,s,l⟩<n) (dI' (ckT w v ⟨k,s,l⟩))) (l:List A0) (hl:Ag l<n) (h:HP):CS cx.P 82 [.d (.st [w.dd false,.sl false .one (v.map dN)]),.d (.sl false Ai ((l).map (A0.dd false)))] h (dI' (fc (ckT w v) l)) h:=by
 have gx:=@Bo
 refine Xe func82 rfl 21 [.tmp 4] ?_
 let M:List Nat:=[13]
 let G:List Nat:=[]
 have H:=AN
 repeat' (first|refine GO ?_|(refine Two.mk ?_ ?_<;>intro hb<;>(try simp at hb)<;>(try norm_cast at hb)<;>try replace H:=HN hb H)|(refine RG.mk ?_;(try clear hK hD);first|intro _ K hD hK|intro K hD hK)|(refine RF.mk ?_;intro hr)|(refine LF.mk ?_;(try clear hK hD);first|rfl|(simp[BP,Az, *];done)|(simp_all [BP,Az];done)|grind [BP,Az]))
 refine W.loopR [2,8,9] [2] (fun k0 _=>[(10,dI' k0)]) (fun _ _=>[]) (l.length) (fun k0 _=>fc (ckT w v) l=fc (ckT w v) (l.drop k0)) (fun S=>()) rfl (by simp) (by first|trivial|rfl|(simp;done)|(simp[BP,Az];done)|(simp_all [BP,Az];done)) ?_
 intro k0 hk0 s0 hi0 T hT;simp at hT;subst hT
 repeat' (first|refine GO ?_|(refine Two.mk ?_ ?_<;>intro hb<;>(try simp at hb)<;>(try norm_cast at hb)<;>try replace H:=HN hb H)|(refine RG.mk ?_;(try clear hK hD);first|intro _ K hD hK|intro K hD hK)|(refine RF.mk ?_;intro hr)|(refine LF.mk ?_;(try clear hK hD);first|rfl|(simp[BP,Az, *];done)|(simp_all [BP,Az];done)|grind [BP,Az]))
theorem fe (w:A1) (v:List Nat) (hp:w.sz≤134217728):∀(n:Nat) (x:A0),AR x<n→∀h:HP,CS cx.P 84 [.d (.st [w.dd false,.sl false .one (v.map dN)]),.d ((x).dd false)] h (dI' (ckT w v x)) h:=by
 intro n
 induction n with
 |zero=>intro x hx;omega
 |succ n ih=>
 intro x hx h
 have hsx:Ag x.AB<n:=by have:=BG x;omega
 have ii:∀(k:Int) (s:BA') (l:List A0),Ct cx 84 [.d (.st [Au w,.sl false .one (v.map dN)]),.d (uK k s l)] (AR ⟨k,s,l⟩<n) (.d (.lf (.int .i64 (ckT w v ⟨k,s,l⟩)))):=fun k s l=>⟨fk1 func84,fun hp h=>by have q:=ih ⟨k,s,l⟩ hp h;first|exact q|simpa using q⟩
 have ij:∀l:List A0,Ct cx 82 [.d (.st [Au w,.sl false .one (v.map dN)]),.d (.sl false Ai ((l).map (A0.dd false)))] (Ag l<n) (.d (.lf (.int .i64 (fc (ckT w v) l)))):=fun l=>⟨fk1 func82,fun hl h=>by have q:=RI w v hp n ii l hl h;first|exact q|simpa using q⟩
 refine Xe func84 rfl 16 [.tmp 4] ?_
 let M:List Nat:=[]
 let G:List Nat:=[]
 have H:=AN
 repeat' (first|refine GO ?_|(refine Two.mk ?_ ?_<;>intro hb<;>(try simp at hb)<;>(try norm_cast at hb)<;>try replace H:=HN hb H)|(refine RG.mk ?_;(try clear hK hD);first|intro _ K hD hK|intro K hD hK)|(refine RF.mk ?_;intro hr)|(refine LF.mk ?_;(try clear hK hD);first|rfl|(simp[EF, *];done)|(simp_all [EF];done)|grind [EF]))
theorem Vw (w:A1) (v:List Nat) (x:A0) (hp:w.sz≤134217728) (h:HP):CS cx.P 84 [.d (.st [w.dd false,.sl false .one (v.map dN)]),.d ((x).dd false)] h (dI' (ckT w v x)) h:=fe w v hp _ x (Nat.lt_succ_self _) h
instance oZ (w:A1) (v:List Nat) (k:Int) (s:BA') (l:List A0):Ct cx 84 [.d (.st [Au w,.sl false .one (v.map dN)]),.d (uK k s l)] (w.sz≤134217728) (dI' (ckT w v ⟨k,s,l⟩)):=⟨fk1 func84,fun hp h=>by have q:=Vw w v ⟨k,s,l⟩ hp h;first|exact q|simpa using q⟩
theorem Zu (w:A1) (v:List Nat) (l:List A0) (hp:w.sz≤134217728) (h:HP):CS cx.P 82 [.d (.st [w.dd false,.sl false .one (v.map dN)]),.d (.sl false Ai ((l).map (A0.dd false)))] h (dI' (fc (ckT w v) l)) h:=RI w v hp _ (fun k s l=>⟨fk1 func84,fun _ h=>by have q:=Vw w v ⟨k,s,l⟩ hp h;first|exact q|simpa using q⟩) l (Nat.lt_succ_self _) h
instance lp (w:A1) (v:List Nat) (l:List A0):Ct cx 82 [.d (.st [Au w,.sl false .one (v.map dN)]),.d (.sl false Ai ((l).map (A0.dd false)))] (w.sz≤134217728) (dI' (fc (ckT w v) l)):=⟨fk1 func82,fun hp h=>by have q:=Zu w v l hp h;first|exact q|simpa using q⟩
instance iCkB (w:A1) (v:List Nat) (b:A9):Ct cx 159 [.d (.st [Au w,.sl false .one (v.map dN)]),.d (Du b)] (w.sz≤134217728) (dI' (ckB w v b)):=by
 refine Xi func159 20 [.tmp 4] [] [] AN (@ckB.eq_1) ?_;intro hp h M G H E
 all_goals exact GA0
instance iCkBs (w:A1) (v:List Nat) (l:List A9):Ct cx 89 [.d (.st [Au w,.sl false .one (v.map dN)]),.d (.sl false BC ((l).map (A9.dd false)))] (w.sz≤134217728) (dI' (fc (ckB w v) l)):=by
 refine Xi func89 21 [.tmp 4] [13] [] AN (AI @BP<|@Az) ?_;intro hp h M G H E
 repeat' (first|(refine IN.mk ?_;intros)|(refine iTw ?_;refine T2 ?_ ?_<;>((try clear H);intro hb H)<;>try exact hb.elim)|(refine LF.mk ?_;exact LX)|refine GN ?_|(refine XC [2,8,9] [2] 10 (l.length) (fun k0=>fc (ckB w v) l=fc (ckB w v) (l.drop k0)) ?_;intro k0 hk0 hi0)|fail)
