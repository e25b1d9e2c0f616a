/- Part 47. No condition. -/
import Derived.Test.YtdooklofebdknaaGreatM43
import Derived.Test.YtdooklofebdknaaGreatM44
namespace Go.Proofs.YtdooklofebdknaaGreat
open Go.RowKit Tryz
set_option linter.unusedVariables false
set_option maxRecDepth 10000
set_option linter.unusedSimpArgs false
set_option maxHeartbeats 4000000
instance sXe (w:A1) (i:Int) (e:AG):Ct cx 167 [.d (As w),.d (.lf (.int .i64 (i))),.d (IA e)] (w.sz≤134217728) (.d (.lf (.int .i64 (FN w (vis w i) e)))):=by
 refine Xi func167 144 [.tmp 6] [] [] AN (AI @KH<|AI @Z2<|@fnV.eq_1) ?_;intro hp h M G H E
 have hct:=fun s=>@P5 w (vis w i) s;have hcc:=fun s=>@P6 w (vis w i) s;have ha0:=@MD e;have ha1:=@MC e;replace H:=AI hct (AI hcc (AI ha0 (AI ha1 H)))
 have htz:=ET w
 have hsw:∀a b,IntKind.i64.wrap (((siR (trR w a).1 b).1.Al.length:Int)+1)=((siR (trR w a).1 b).1.Al.length:Int)+1:=fun a b=>Po (by have:=ET w a;omega) b;replace H:=AI hsw H
 all_goals exact GA1
theorem H4 {α:Type} {f:α→Int} {l:List α} {k:Nat} (h:k<l.length):fc f (l.drop k)=or0 (f l[k]) (fc f (l.drop (k+1))):=BN h
theorem J7 {α:Type} {f:α→Int} {l:List α} {k:Nat} {F:Int} (h:k<l.length):or0 (fc f (l.drop k)) F=or0 (f l[k]) (or0 (fc f (l.drop (k+1))) F):=by rw[H4 h,J8]
theorem QK (a b:Int):or0 a b=0↔a=0∧b=0:=by
  unfold or0
  by_cases h:a=0<;>simp[h]
theorem d6 (w:A1) (i:Int) (hp:w.sz≤134217728):∀(n:Nat) (x:AG),szX x<n→∀h:HP,CS cx.P 98 [.d ((w).dd false),.d (.lf (.int .i64 (i))),.d ((x).dd false)] h (.d (.lf (.int .i64 (ckE w (vis w i) x)))) h:=by
 intro n
 induction n with
 |zero=>intro x hx;omega
 |succ n ih=>
 intro x hx h
 have g1:=@Ph x;have g2:=@Pi x
 have ii:∀(e:AG),Ct cx 98 [.d (As w),.d (.lf (.int .i64 (i))),.d (IA e)] (szX e<n) (.d (.lf (.int .i64 (ckE w (vis w i) e)))):=fun e=>⟨fk1 func98,fun hp h=>by have q:=ih e hp h;first|exact q|simpa using q⟩
 refine Xe func98 rfl 54 [.tmp 6] ?_
 let M:List Nat:=[]
 let G:List Nat:=[]
 have H:=AN
 repeat' (first|refine GO ?_|(refine Two.mk ?_ ?_<;>intro hb<;>(try simp at hb)<;>(try norm_cast at hb)<;>try replace H:=HN hb H)|(refine RG.mk ?_;(try clear hK hD);first|intro _ K hD hK|intro K hD hK)|(refine RF.mk ?_;intro hr)|(refine LF.mk ?_;(try clear hK hD);first|rfl|(simp[CI,amF,BN,Ax,or0,J8, *];done)|(simp_all [CI,amF,BN,Ax,or0,J8];done)|grind [CI,amF,BN,Ax,or0,J8]))
 refine W.loopR [1,3,5] [3,5] (fun k0 s0=>[(8,.d (.lf (.int .i64 (k0:Int)))),(7,.d (.lf (.int .i64 (s0))))]) (fun _ _=>[]) (x.AB.length) (fun k0 s0=>ckE w (vis w i) x=or0 s0 (or0 (fc (ckE w (vis w i)) (x.AB.drop k0)) (fc (amF w (vis w i)) x.Ad))) (fun S=>avI (S.tm 7)) rfl (by simp) (by simpa using CI w (vis w i) x) ?_
 intro k0 hk0 s0 hi0 T hT;simp at hT;subst hT
 repeat' (first|refine GO ?_|(refine Two.mk ?_ ?_<;>intro hb<;>(try simp at hb)<;>(try norm_cast at hb)<;>try replace H:=HN hb H)|(refine RG.mk ?_;(try clear hK hD);first|intro _ K hD hK|intro K hD hK)|(refine RF.mk ?_;intro hr)|(refine LF.mk ?_;(try clear hK hD);first|rfl|(simp[J7,E8,FC,D0,Ax, *];done)|(simp_all [J7,E8,FC,D0,Ax];done)|grind [J7,E8,FC,D0,Ax]))
 have hx1:ckE w (vis w i) x=or0 s0 (fc (amF w (vis w i)) x.Ad):=by first|(rw[hi0,Ax (by omega),E8];done)|(rw[hi0,D0 (by assumption),D0 (by assumption)])
 clear hi0
 refine W.loopR [1,3,5] [3,5] (fun k1 s1=>[(9,.d (.lf (.int .i64 (k1:Int)))),(7,.d (.lf (.int .i64 (s1))))]) (fun _ _=>[]) (x.Ad.length) (fun k1 s1=>ckE w (vis w i) x=or0 s1 (fc (amF w (vis w i)) (x.Ad.drop k1))) (fun S=>avI (S.tm 7)) rfl (by simp) (by simpa using hx1) ?_
 intro k1 hk1 s1 hi1 T hT;simp at hT;subst hT
 repeat' (first|refine GO ?_|(refine Two.mk ?_ ?_<;>intro hb<;>(try simp at hb)<;>(try norm_cast at hb)<;>try replace H:=HN hb H)|(refine RG.mk ?_;(try clear hK hD);first|intro _ K hD hK|intro K hD hK)|(refine RF.mk ?_;intro hr)|(refine LF.mk ?_;(try clear hK hD);first|rfl|(simp[H4,E8,FC,D0,Ax,amF, *];done)|(simp_all [H4,E8,FC,D0,Ax,amF];done)|grind [H4,E8,FC,D0,Ax,amF]))
 have hx1:ckE w (vis w i) x=or0 s0 (fc (amF w (vis w i)) x.Ad):=by first|(rw[hi0,Ax (by omega),E8];done)|(rw[hi0,D0 (by assumption),D0 (by assumption)])
 clear hi0
 refine W.loopR [1,3,5] [3,5] (fun k1 s1=>[(9,.d (.lf (.int .i64 (k1:Int)))),(7,.d (.lf (.int .i64 (s1))))]) (fun _ _=>[]) (x.Ad.length) (fun k1 s1=>ckE w (vis w i) x=or0 s1 (fc (amF w (vis w i)) (x.Ad.drop k1))) (fun S=>avI (S.tm 7)) rfl (by simp) (by simpa using hx1) ?_
 intro k1 hk1 s1 hi1 T hT;simp at hT;subst hT
 repeat' (first|refine GO ?_|(refine Two.mk ?_ ?_<;>intro hb<;>(try simp at hb)<;>(try norm_cast at hb)<;>try replace H:=HN hb H)|(refine RG.mk ?_;(try clear hK hD);first|intro _ K hD hK|intro K hD hK)|(refine RF.mk ?_;intro hr)|(refine LF.mk ?_;(try clear hK hD);first|rfl|(simp[H4,E8,FC,D0,Ax,amF, *];done)|(simp_all [H4,E8,FC,D0,Ax,amF];done)|grind [H4,E8,FC,D0,Ax,amF]))
theorem d5 (w:A1) (i:Int) (x:AG) (hp:w.sz≤134217728) (h:HP):CS cx.P 98 [.d ((w).dd false),.d (.lf (.int .i64 (i))),.d ((x).dd false)] h (.d (.lf (.int .i64 (ckE w (vis w i) x)))) h:=d6 w i hp _ x (Nat.lt_succ_self _) h
instance ll (w:A1) (i:Int) (e:AG):Ct cx 98 [.d (As w),.d (.lf (.int .i64 (i))),.d (IA e)] (w.sz≤134217728) (.d (.lf (.int .i64 (ckE w (vis w i) e)))):=⟨fk1 func98,fun hp h=>by have q:=d5 w i e hp h;first|exact q|simpa using q⟩
instance sTrC (w:A1) (i:Int) (t:AS):Ct cx 40 [.d (As w),.d (.lf (.int .i64 (i))),.d (K5 t)] (w.sz≤134217728) (.d (.lf (.int .i64 (FA w (vis w i) t)))):=by
 refine Xi func40 73 [.tmp 6] [46] [] AN (AI @Jm<|AI @suF.eq_1<|AI @sgF.eq_1<|AI @BN<|AI @Ax<|@or0.eq_1) ?_;intro hp h M G H E
 repeat' (first|exact true|(refine IN.mk ?_;intros)|(refine iTw ?_;refine T2 ?_ ?_<;>((try clear H);intro hb H)<;>try exact hb.elim)|(refine LF.mk ?_;exact LX)|refine BO.mk ?_ ?_|(apply iPJ;exact NPJ)|apply PXs.of|refine GN ?_|(refine XC [1,3,5] [3,5] 7 (t.Ao.length) (fun k0=>fc (suF w (vis w i)) t.Ao=fc (suF w (vis w i)) (t.Ao.drop k0)) ?_;intro k0 hk0 hi0)|(refine XC [1,3,5] [3,5] 10 (t.AU.length) (fun k1=>FA w (vis w i) t=fc (sgF w (vis w i)) (t.AU.drop k1)) ?_;intro k1 hk1 hi1)|fail)
instance lX (t:AS) (x:AJ) (b1 b2 b3:Bool):Ct cx 100 [.d (.st [.lf (.string (t.A6)),.sl false .one ((t.Ao).map (dS)),.lf (.bool b1),.lf (.bool b2),.sl false CM ((t.AU).map (AC.dd false))]),.d (.st [.lf (.string (x.AK)),.sl false .one ((x.AZ).map (dS)),Md x.Ar,.sl false BA ((x.Af).map (A9.dd false)),.lf (.bool (x.CY)),.lf (.bool b3),Md x.B3,.sl false DG ((x.Ap).map (AX.dd false))])] (t.sz≤134217728) (.d (.lf (.bool (Cv t x)))):=⟨fk1 func100,fun hp h=>by have q:=(cq { t with CP:=b1,B3:=b2 } { x with BS:=b3 }).cs hp h;rw[show Cv { t with CP:=b1,B3:=b2 } { x with BS:=b3 }=Cv t x from rfl] at q;simpa using q⟩
instance sInC (w:A1) (i:Int) (x:AJ):Ct cx 42 [.d (As w),.d (.lf (.int .i64 (i))),.d (E4 x)] (w.sz≤134217728) (.d (.lf (.int .i64 (Hq w (vis w i) x)))):=by
 refine Xi func42 80 [.tmp 6] [] [] AN (AI @Et<|AI @meF.eq_1<|AI @BN<|AI @Ax<|AI @or0.eq_1<|AI @H4<|AI @E8<|AI @FC<|@D0) ?_;intro hp h M G H E
 have htz:=ET w x.AK
 repeat' (first|exact true|(refine IN.mk ?_;intros)|(refine iTw ?_;refine T2 ?_ ?_<;>((try clear H);intro hb H)<;>try exact hb.elim)|(refine LF.mk ?_;exact LX)|refine BO.mk ?_ ?_|(apply iPJ;exact NPJ)|apply PXs.of|refine GN ?_|(refine XL [1,3,5] [3,5] (fun k0 s0=>[(10,.d (.lf (.int .i64 (k0:Int)))),(9,.d (.lf (.int .i64 (s0))))]) (fun _ _=>[]) (x.Ap.length) (fun k0 s0=>Hq w (vis w i) x=or0 s0 (fc (meF w (vis w i)) (x.Ap.drop k0))) (fun S=>avI (S.tm 9)) ?_ (i0:=by clear E;first|(simp[Et,QK, *] at*;done)|(simp_all [Et,QK,E8,FC];done)|grind [Et,or0]);intro k0 hk0 s0 hi0)|fail)
theorem ZS (w:A1) (V:List Nat) (f:AL):So w V f=or0 (or0 (fc (ckB w V) f.Af) (fc (paF w V) f.Al)) (or0 (ckT w V f.B8) (ckE w V f.Aa)):=by rw[M4,J8]
instance sFnC (w:A1) (i:Int) (f:AL):Ct cx 43 [.d (As w),.d (.lf (.int .i64 (i))),.d (Mg f)] (w.sz≤134217728) (.d (.lf (.int .i64 (So w (vis w i) f)))):=by
 refine Xi func43 47 [.tmp 6] [] [] AN (AI @M4<|AI @paF.eq_1<|AI @BN<|AI @Ax<|AI @or0.eq_1<|AI @H4<|AI @E8<|AI @FC<|AI @D0<|@ZS) ?_;intro hp h M G H E
 repeat' (first|exact true|(refine IN.mk ?_;intros)|(refine iTw ?_;refine T2 ?_ ?_<;>((try clear H);intro hb H)<;>try exact hb.elim)|(refine LF.mk ?_;exact LX)|refine BO.mk ?_ ?_|(apply iPJ;exact NPJ)|apply PXs.of|refine GN ?_|(refine XL [1,3,5] [3,5] (fun k0 s0=>[(8,.d (.lf (.int .i64 (k0:Int)))),(7,.d (.lf (.int .i64 (s0))))]) (fun _ _=>[]) (f.Al.length) (fun k0 s0=>or0 (fc (ckB w (vis w i)) f.Af) (fc (paF w (vis w i)) f.Al)=or0 s0 (fc (paF w (vis w i)) (f.Al.drop k0))) (fun S=>avI (S.tm 7)) ?_;intro k0 hk0 s0 hi0)|fail)
