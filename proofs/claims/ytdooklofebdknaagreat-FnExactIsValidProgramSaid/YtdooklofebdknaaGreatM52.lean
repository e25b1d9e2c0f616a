/- Part 52. No condition. -/
import Derived.Test.YtdooklofebdknaaGreatM48
import Derived.Test.YtdooklofebdknaaGreatM50
import Derived.Test.YtdooklofebdknaaGreatM54
import Derived.Test.YtdooklofebdknaaGreatM53
namespace Go.Proofs.YtdooklofebdknaaGreat
open Go.RowKit Tryz
set_option linter.unusedVariables false
set_option maxRecDepth 10000
set_option linter.unusedSimpArgs false
set_option maxHeartbeats 4000000
instance mJ (w:A1) (b:List A9) (tr:ByteArray) (k:Int) (n:ByteArray) (l:List A0):Ct cx 220 [.d (As w),.d (.sl false BA ((b).map (A9.dd false))),.d (.st [.lf (.string tr),uK k n l])] (vP w∧b.length≤4∧(∀x∈b,x.AM.wd)∧GT 59999964 (⟨k,n,l⟩:A0)) (.tp [.d (((sol w (asm w b) 12 (⟨tr,(⟨k,n,l⟩:A0)⟩:A9)).1).dd true),.d (.lf (.int .i64 ((sol w (asm w b) 12 (⟨tr,(⟨k,n,l⟩:A0)⟩:A9)).2)))]):=by
 refine Xi func220 15 [.cell 6 267,.tmp 7] [13] [] AN trivial ?_;intro hp h M G H E
 obtain⟨hv,hl4,hwd,hgt⟩:=hp;have hvz:=hv.sz;have hvz2:w.sz≤134217728:=(by omega);have hfo:=Wf hv.sz hl4;replace H:=AI hvz2 (AI hl4 (AI hwd (AI hgt (AI hv (AI hfo H)))))
 all_goals exact GA6
instance iSupE (w:A1) (o:A3):Ct cx 153 [.d (As w),.d (FR o)] (vP w∧inR w o) (.tp [.d (.sl true Bd (((spE w o)).map (A7.dd true))),.d (.lf (.int .i64 ((spC w o))))]):=by
 refine Xi func153 60 [.tmp 4,.tmp 5] [40,49,54,55,59] [] AN (@Cu) ?_;intro hp h M G H E
 obtain⟨hv,ho⟩:=hp;have hvz:=hv.sz;have hvz2:w.sz≤134217728:=(by omega);have hwl:=aJ hv ho;have hw4:=hwl.1;have hwd:=hwl.2;have hgt:=b9 hv ho;replace H:=AI hvz2 (AI hw4 (AI hwd (AI hgt (AI ho (AI hv H)))))
 have hsl:(Ak w (Am w o).AK).length≤134217728:=(by have h1:=ET w (Am w o).AK;have h2:=(trR w (Am w o).AK).1.sz_eq;unfold szs at h2;unfold Ak;omega);have hsu:(trR w (Am w o).AK).1.Ao=(Ak w (Am w o).AK):=rfl;replace H:=AI hsu H
 repeat' (first|(refine iWL ?_;refine Cr M ?_)|(refine iDL ?_;refine CE M ?_)|(refine LF.mk ?_;have q:=Pl hce;have q2:=LL w o;simp[q,q2,hce,hme];done)|(refine LF.mk ?_;have hcx:=(hi0.trans (G6 hkk (by rw[hcy];exact hb))).trans hcy;have q:=U6 (w:=w) (o:=o) (by rw[hcx];exact hb);have q2:=LL w o;simp[q,q2,hcx];done)|(refine LF.mk ?_;exact hi0.trans (I5 hkk (hcy.trans hb)))|(refine IN.mk ?_;intros)|(refine iTw ?_;refine T2 ?_ ?_<;>((try clear H);intro hb H)<;>try (first|exact hb.elim|(exfalso;omega)))|(refine LF.mk ?_;exact LX)|refine GN ?_|(refine XL [2,6,34,35] [2,6] (fun k0 _=>[(36,.d (.lf (.int .i64 (k0:Int)))),(11,.d (.sl true Bd (((mp (spV w o) (Ak w (Am w o).AK) k0)).map (A7.dd true))))]) (fun _ _=>[]) ((Ak w (Am w o).AK).length) (fun k0 _=>fc (spD w o) (Ak w (Am w o).AK)=fc (spD w o) ((Ak w (Am w o).AK).drop k0)) rU ?_;intro k0 hk0 s0 hi0;have hml:=Bh (spV w o) hk0;by_cases hkk:k0<(Ak w (Am w o).AK).length;rotate_left;(have hce:=hi0.trans (Ax (f:=(spD w o)) (show(Ak w (Am w o).AK).length≤k0 by omega));have hme:mp (spV w o) (Ak w (Am w o).AK) k0=(Ak w (Am w o).AK).map (spV w o):=Ba (by omega));rotate_left;have hvy:spV w o (Ak w (Am w o).AK)[k0]=(sol w (asm w (Am w o).Af) 12 ⟨(Ak w (Am w o).AK)[k0],(Am w o).Ar⟩).1:=rfl;have hcy:spD w o (Ak w (Am w o).AK)[k0]=(sol w (asm w (Am w o).Af) 12 ⟨(Ak w (Am w o).AK)[k0],(Am w o).Ar⟩).2:=rfl;have hmn:=Ep (f:=(spV w o)) hkk;rw[hvy] at hmn;replace H:=AI hmn H)|fail)
instance iChk (w:A1) (o:A3):Ct cx 84 [.d (As w),.d (FR o)] (vP w∧inR w o) (.d (.lf (.int .i64 ((coC w o))))):=by
 refine Xi func84 45 [.tmp 4] [] [] AN trivial ?_;intro hp h M G H E
 obtain⟨hv,ho⟩:=hp;have hvz:=hv.sz;have hvz2:w.sz≤134217728:=(by omega);have hiz:=C9 ho;have hiz2:(Am w o).sz≤134217728:=(by omega);replace H:=AI hvz2 (AI hiz2 (AI ho (AI hv H)))
 repeat' (first|exact true|(refine LF.mk ?_;have q:=bL (w:=w) (o:=o) hb;simp[q];done)|(refine LF.mk ?_;have q:=bK (w:=w) (o:=o) (by assumption) hb;simp[q];done)|(refine LF.mk ?_;have q:=bJ (w:=w) (o:=o) (by assumption) (by assumption) hb;simp[q];done)|(refine LF.mk ?_;have q:=bI (w:=w) (o:=o) (by assumption) (by assumption) (by assumption) hb;simp[q];done)|(refine LF.mk ?_;have q:=bH (w:=w) (o:=o) (by assumption) (by assumption) (by assumption) (by assumption) hb;simp[q];done)|(refine LF.mk ?_;have q:=bM (w:=w) (o:=o) (by assumption) (by assumption) (by assumption) (by assumption) hb;simp[q];done)|(refine iWL ?_;refine Cr M ?_)|(refine iDL ?_;refine CE M ?_)|(refine IN.mk ?_;intros)|(refine iTw ?_;refine T2 ?_ ?_<;>((try clear H);intro hb H)<;>try exact hb.elim)|(refine LF.mk ?_;exact LX)|refine BO.mk ?_ ?_|(apply iPJ;exact NPJ)|apply PXs.of|refine GN ?_)
instance iCohE (w:A1):Ct cx 34 [.d (As w)] (vP w) (.d (.sl true Gh (((M2 w)).map (AR.dd true)))):=by
 refine Xi func34 33 [.tmp 2] [25,32] [] AN (@Ny) ?_;intro hp h M G H E
 have hvz:=hp.sz;have hvz2:w.sz≤134217728:=(by omega);have hrl:=Dh w;replace H:=AI hvz2 (AI hp H)
 repeat' (first|(refine LF.mk ?_;have q:=WA (w:=w) (by assumption);simp[q];done)|(refine LF.mk ?_;have q:=WB (w:=w) (by assumption);simp[q,hce];done)|(refine IN.mk ?_;intros)|(refine iTw ?_;refine T2 ?_ ?_<;>((try clear H);intro hb H)<;>try (first|exact hb.elim|(exfalso;omega)))|(refine LF.mk ?_;exact LX)|refine GN ?_|(refine XL [1,14,15] [1] (fun k0 _=>[(16,.d (.lf (.int .i64 (k0:Int)))),(3,.d (.sl true Gh (((coK w k0)).map (AR.dd true))))]) (fun _ _=>[]) ((BD w).length) (fun _ _=>True) rU ?_;intro k0 hk0 s0 hi0;have hcl:=R8 w k0;by_cases hkk:k0<(BD w).length;rotate_left;have hce:=R9 (w:=w) (k:=k0) (by omega);rotate_left;have hr0:=Dw (gm hkk);replace H:=AI hr0 H;rcases Classical.em (coC w (BD w)[k0]=0) with hc|hc<;>replace H:=AI hc H;have hcn:=WC hkk hc;replace H:=AI hcn H;rotate_left;have hcn:=R7 hkk hc;replace H:=AI hcn H;rotate_left)|fail)
instance mQ (w:A1):Ct cx 8 [.d (As w)] (w.sz≤134217728) (.d (.sl true E6 (((feE w)).map (AP.dd true)))):=⟨fk1 func8,fun hp h=>by have q:=j7 w hp h;simpa[A1.dd_eq] using q⟩
instance mG (w:A1):Ct cx 15 [.d (As w)] (w.sz≤16777216) (.d (.lf (.bool (L6 w)))):=by
 refine Xi func15 13 [.tmp 2] [] [] AN (@L6.eq_1) ?_;intro hp h M G H E
 have hvz2:w.sz≤134217728:=(by omega);have hl1:=@List.length_eq_zero_iff AP (feE w);have hl2:=@List.length_eq_zero_iff AR (M2 w);replace H:=AI hvz2 (AI hl1 (AI hl2 H))
 rcases Classical.em (feE w=[]) with hf|hf<;>replace H:=AI hf H
 have hv:=aL hp hf;replace H:=AI hv H
 rotate_left
 all_goals exact GA1
instance mD (w:A1):Ct cx 4 [.d (Ec w)] (True) (.d (.lf (.bool (true)))):=by
 refine Xi func4 27 [.tmp 2] [] [] AN trivial ?_;intro hp h M G H E
 have hl0:¬w.sz≤1048576→BV w.sz 1048576= -1:=(fun h=>by unfold BV;rw[if_neg (by omega)])
 have hl1:w.sz≤1048576→BV w.sz 1048576=1048576 - (w.sz:Int):=(fun h=>by unfold BV;rw[if_pos (by omega)])
 rcases Classical.em (w.sz≤1048576) with hz|hz
 have hl:=hl1 hz;have hz1:w.sz≤134217728:=(by omega);have hz2:w.sz≤16777216:=(by omega);replace H:=AI hl (AI hz1 (AI hz2 H))
 rotate_left
 have hl:=hl0 hz;replace H:=AI hl H
 repeat' (first|(refine IN.mk ?_;intros)|(refine iTw ?_;refine T2 ?_ ?_<;>((try clear H);intro hb H)<;>try (first|exact hb.elim|(exfalso;omega)))|(refine LF.mk ?_;exact LX)|refine GN ?_)
