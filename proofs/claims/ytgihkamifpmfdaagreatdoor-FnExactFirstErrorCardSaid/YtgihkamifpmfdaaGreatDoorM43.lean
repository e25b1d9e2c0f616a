/- Part 43. No condition. -/
import Derived.Test.YtgihkamifpmfdaaGreatDoorM40
import Derived.Test.YtgihkamifpmfdaaGreatDoorM41
import Derived.Test.YtgihkamifpmfdaaGreatDoorM42
namespace Go.Proofs.YtgihkamifpmfdaaGreatDoor
open Go.RowKit Tryz
set_option linter.unusedVariables false
set_option maxRecDepth 10000
set_option linter.unusedSimpArgs false
set_option maxHeartbeats 4000000
@[simp] theorem iA:IntKind.i64.wrap 0=0:=BH (by decide) (by decide)
theorem X8 (v:BA') (y:A0) (c:Nat) (lv k:Nat) (h:HP) (hcap:hpg h lv k=some (dI' (IntKind.i64.wrap ((c:Nat):Int)))):CS cx.P 331 [.d (y.dd false),.el (.lf (.string v)),.pt lv k []] h (.tp []) (hps h lv k (some (dI' (IntKind.i64.wrap ((cnS v y c:Nat):Int))))):=by
 have hc2:=Dh hcap
 have hw:IntKind.i64.wrap (IntKind.i64.wrap (c:Int)+1)=IntKind.i64.wrap ((c+1:Nat):Int):=by rw[SC];congr 1
 refine Ze func331 rfl 15 ?_
 apply Zr;intros
 refine Zo ?_ (by simp[hc2,hw]<;>omega);simp[hc2,hw]
 exact Zx
 refine W.seq ?_
 refine W.regJ (D:=_) [2] [] [(12,.d (.lf (.bool (decide (y.AH=1) && decide (y.A5=v)))))] [] rfl (fun _ K hD hK=> ?_) fun T hT=> ?_
 iterate 4 (refine Zo ?_ (by simp[hc2,hw]<;>omega);simp[hc2,hw])
 refine WL.split 7 _ rfl (fun g7=> ?_) fun g7=> ?_<;>try simp at g7
 simp[hc2,hw]
 iterate 4 (refine ZG' ?_ (by simp[hc2,hw]<;>omega);simp[hc2,hw])
 refine Zo ?_ (by simp[hc2,hw]<;>omega);simp[hc2,hw]
 refine WL.nil (hK _ (Wz.to rfl rfl rfl ?_))
 simp[g7]
 simp[hc2,hw]
 iterate 4 (refine ZN' ?_;simp[hc2,hw])
 refine Zo ?_ (by simp[hc2,hw]<;>omega);simp[hc2,hw]
 refine WL.nil (hK _ (Wz.to rfl rfl rfl ?_))
 simp[g7]
 simp at hT;subst hT
 refine Zc rfl ?_ ?_<;>intro hb0<;>try simp at hb0
 have ht:cnS v y c=c+1:=by unfold cnS;rw[if_pos (by simpa using hb0)]
 have hsm:True:=trivial
 apply Zs;intros
 iterate 3 (refine Zo ?_ (by simp[hc2,hw]<;>omega);simp[hc2,hw])
 exact Zx
 refine⟨.inl rfl,⟨_,congrArg (List.cons _) (by simp[ht,hsm])⟩,?_⟩
 simp[f331,ht]
 have ht:cnS v y c=c:=by unfold cnS;rw[if_neg (by simpa using hb0)]
 have hsm:=ED _ _ _ _ hcap
 refine W.skip ?_
 refine⟨.inl rfl,⟨_,congrArg (List.cons _) (by simp[ht,hsm])⟩,?_⟩
 simp[f331,ht]
theorem Zt (x:A0) (v:BA') (hp:x.wd) (h:HP):CS cx.P 248 [.d ((x).dd false),dS' v] h (dI' (ocW v x)) h:=by
 refine Xe func248 rfl 10 [.tmp 4] ?_
 let M:List Nat:=[]
 let G:List Nat:=[]
 have H:=AN
 repeat' (first|(refine W.fzR (id:=2) 3 3 [2,5] [2,5] ?_)|(refine XlH G func250 (HC x A0.wd (fun x h=>⟨D0 h,Bj h⟩) 331 f331 _ ⟨func331,rfl,rfl⟩ 5 [.lf (.string v)] (fun c=> .lf (.int .i64 (IntKind.i64.wrap ((c:Nat):Int)))) (cnS v) (fun _=>True) (fun _ _ _ _=>trivial) (fun y _ c _ lv h hcap=>X8 v y c lv 5 h hcap) hp 0 trivial 0 _ (by simp)) ?_)|refine GO ?_|(refine Two.mk ?_ ?_<;>intro hb<;>(try simp at hb)<;>(try norm_cast at hb)<;>try replace H:=HN hb H)|(refine RG.mk ?_;(try clear hK hD);first|intro _ K hD hK|intro K hD hK)|(refine RF.mk ?_;intro hr)|(refine LF.mk ?_;(try clear hK hD);first|rfl|(simp[Jv,ocW, *];done)|(simp_all [Jv,ocW];done)|grind [Jv,ocW]))
instance (priority:=2000) iCntW (k:Int) (n:BA') (l:List A0) (v:BA'):Ct cx 248 [.d (uK k n l),dS' v] (A0.wd (⟨k,n,l⟩:A0)) (dI' (ocW v (⟨k,n,l⟩:A0))):=⟨fk1 func248,fun hp h=>by have q:=Zt (⟨k,n,l⟩:A0) v hp h;first|exact q|simpa using q⟩
instance (priority:=2000) iOccW (v:BA') (k:Int) (n:BA') (l:List A0):Ct cx 430 [dS' v,.d (uK k n l)] (A0.wd (⟨k,n,l⟩:A0)∧AR (⟨k,n,l⟩:A0)<4611686018427387904) (dB' (decide (0<occ v (⟨k,n,l⟩:A0)))):=by
 refine Xi func430 9 [.tmp 4] [] [] AN trivial ?_;intro hp h M G H E
 have hoe:=VM (v:=v) hp.2;have hwd:=hp.1;replace H:=AI hoe (AI hwd H)
 all_goals exact GA0
theorem fV (x:A0) (hp:x.wd) (h:HP):CS cx.P 226 [.d ((x).dd false)] h (dB' (Bq x)) h:=by
 refine Xe func226 rfl 8 [.tmp 2] ?_
 let M:List Nat:=[]
 let G:List Nat:=[]
 have H:=AN
 repeat' (first|(refine XlH G func250 (HC x A0.wd (fun x h=>⟨D0 h,Bj h⟩) 316 f316 _ ⟨func316,rfl,rfl⟩ 3 [] (fun b=> .lf (.bool b)) pjS (fun _=>True) (fun _ _ _ _=>trivial) (fun y _ c _ lv h hcap=>Qe y c lv 3 h hcap) hp false trivial 0 _ (by simp)) ?_)|refine GO ?_|(refine Two.mk ?_ ?_<;>intro hb<;>(try simp at hb)<;>(try norm_cast at hb)<;>try replace H:=HN hb H)|(refine RG.mk ?_;(try clear hK hD);first|intro _ K hD hK|intro K hD hK)|(refine RF.mk ?_;intro hr)|(refine LF.mk ?_;(try clear hK hD);first|rfl|(simp[OC, *];done)|(simp_all [OC];done)|grind [OC]))
instance (priority:=2000) iPjW (k:Int) (n:BA') (l:List A0):Ct cx 226 [.d (uK k n l)] (A0.wd (⟨k,n,l⟩:A0)) (dB' (Bq (⟨k,n,l⟩:A0))):=⟨fk1 func226,fun hp h=>by have q:=fV (⟨k,n,l⟩:A0) hp h;first|exact q|simpa using q⟩
theorem Q2 {U:List BA'} (y:A0) (o:List BA') (h:y.wd∧vin U y) (ho:o.Nodup∧∀v∈o,v∈U):(Gb y o).Nodup∧∀v∈Gb y o,v∈U:=Oj (fun e=>GS h.2 e) ho
theorem UN {U:List BA'} {l:List A0} (h:∀y∈l,y.wd∧vin U y) (k:Nat):(tvJ l [] k).Nodup∧∀v∈tvJ l [] k,v∈U:=Ie _ _ (LR fun x hx=>(h x (List.mem_of_mem_take hx)).2) ⟨by simp,by simp⟩
theorem dT {l:List A0} {k:Nat} (h:k<l.length):ev Gb l[k] (tvJ l [] k)=tvJ l [] (k+1):=by rw[WV];exact Ok h
theorem YK {l:List A0} {k:Nat} (h:l.length≤k):tvJ l [] k=CC l []:=by unfold tvJ;rw[List.take_of_length_le h]
theorem ZZ (l:List A0) (U:List BA') (hp:l.length≤134217728∧U.length≤67108864∧∀y∈l,y.wd∧vin U y) (h:HP):CS cx.P 317 [.d (.sl false Ai ((l).map (A0.dd false)))] h (.d (.sl true .one (((CC l [])).map (dS)))) h:=by
 refine Xe func317 rfl 18 [.tmp 2] ?_
 let M:List Nat:=[12,17]
 let G:List Nat:=[]
 have H:=AN
 obtain⟨hll,hul,hyl⟩:=hp
 repeat' (first|(refine XlH G func250 (HC l[k0] (fun y:A0=>y.wd∧vin U y) (fun x h=>⟨D0 h.1,fun y hy=>⟨Bj h.1 y hy,E2 (Ed h.2) y hy⟩⟩) 376 f376 _ ⟨func376,rfl,rfl⟩ 3 [] (fun (o:List BA')=>DD.sl true .one (o.map dS)) Gb (fun o:List BA'=>o.Nodup∧∀v∈o,v∈U) Q2 (fun y _ o ho lv h hcap=>Ld y o (by have:=Bu ho.1 ho.2;omega) lv 3 h hcap) (hyl _ (gm hkk)) (tvJ l [] k0) (UN hyl k0) 0 _ (by simp)) ?_)|refine GO ?_|(refine Two.mk ?_ ?_<;>intro hb<;>(try simp at hb)<;>(try norm_cast at hb)<;>try replace H:=HN hb H)|(refine RG.mk ?_;(try clear hK hD);first|intro _ K hD hK|intro K hD hK)|(refine RF.mk ?_;intro hr)|(refine LF.mk ?_;(try clear hK hD);first|rfl|(simp[*];done)|(simp_all;done)|grind))
 refine W.loopR [3,7,8] [] (fun k0 _=>[(9,dI' k0)]) (fun k0 _=>[(3,.d (.sl true .one (((tvJ l [] k0)).map (dS))))]) (l.length) (fun _ _=>True) (fun S=>()) rfl (by simp[N6]) (by first|trivial|rfl|(simp;done)|(simp[];done)|(simp_all [];done)) ?_
 ·intro k0 hk0 s0 hi0 T hT;simp at hT;subst hT
  by_cases hkk:k0<l.length
  rotate_left
  have hse:=YK (show l.length≤k0 by omega);replace H:=AI hse H
  rotate_left
  have hsn:=dT hkk;replace H:=AI hsn H
  all_goals repeat' (first|(refine XlH G func250 (HC l[k0] (fun y:A0=>y.wd∧vin U y) (fun x h=>⟨D0 h.1,fun y hy=>⟨Bj h.1 y hy,E2 (Ed h.2) y hy⟩⟩) 376 f376 _ ⟨func376,rfl,rfl⟩ 3 [] (fun (o:List BA')=>DD.sl true .one (o.map dS)) Gb (fun o:List BA'=>o.Nodup∧∀v∈o,v∈U) Q2 (fun y _ o ho lv h hcap=>Ld y o (by have:=Bu ho.1 ho.2;omega) lv 3 h hcap) (hyl _ (gm hkk)) (tvJ l [] k0) (UN hyl k0) 0 _ (by simp)) ?_)|refine GO ?_|(refine Two.mk ?_ ?_<;>intro hb<;>(try simp at hb)<;>(try norm_cast at hb)<;>try replace H:=HN hb H)|(refine RG.mk ?_;(try clear hK hD);first|intro _ K hD hK|intro K hD hK)|(refine RF.mk ?_;intro hr)|(refine LF.mk ?_;(try clear hK hD);first|rfl|(simp[*];done)|(simp_all;done)|grind))
instance (priority:=2000) kQ (l:List A0):Ct cx 317 [.d (.sl false Ai ((l).map (A0.dd false)))] (l.length≤134217728∧∃U:List BA',U.length≤67108864∧∀y∈l,y.wd∧vin U y) (.d (.sl true .one (((CC l [])).map (dS)))):=⟨fk1 func317,fun hp h=>by have q:=ZZ l hp.2.choose ⟨hp.1,hp.2.choose_spec⟩ h;first|exact q|simpa using q⟩
instance (priority := 2000) iVar1 (k : Int) (n : BA') (l : List A0) : Ct cx 317 [.d (.sl false Ai [(uK k n l)])] (tvO (⟨k, n, l⟩ : A0) []) (.d (.sl true .one (((tv (⟨k, n, l⟩ : A0))).map (dS)))) := ⟨fk1 func317, fun hp h => by
 obtain⟨hw,U,h1,h2, -⟩:=hp
 have q:=(kQ [(⟨k,n,l⟩:A0)]).cs ⟨by simp,U,h1,by simpa using⟨hw,h2⟩⟩ h
 simpa[CC,tv] using q⟩
instance (priority:=2000) iTypV (k:Int) (n:BA') (l:List A0):Ct cx 227 [.d (uK k n l)] (tvO (⟨k,n,l⟩:A0) []) (.d (.sl true .one (((tv (⟨k,n,l⟩:A0))).map (dS)))):=by
 refine Xi func227 6 [.tmp 2] [3] [] AN trivial ?_;intro hp h M G H E
 all_goals exact GA0
instance (priority:=2000) iGndW (k:Int) (n:BA') (l:List A0):Ct cx 400 [.d (uK k n l)] (tvO (⟨k,n,l⟩:A0) []) (dB' (gnd (⟨k,n,l⟩:A0))):=by
 refine Xi func400 12 [.tmp 2] [] [] AN (@gnd.eq_1) ?_;intro hp h M G H E
 have hwd:=hp.1;have htl:=Gc hp;have htv:tv (⟨k,n,l⟩:A0)=tvs (⟨k,n,l⟩:A0) []:=rfl;rw[←htv] at htl;replace H:=AI hwd (AI htl H)
 all_goals exact GA1
instance iCand (w:A1) (g:A9):Ct cx 397 [.d (Au w),.d (Du g)] (vP w∧GT 67108864 g.AM) (.d (.sl true CX (((C0 w g)).map (A3.dd true)))):=by
 refine Xi func397 9 [.tmp 4] [] [6] AN trivial ?_;intro hp h M G H E
 obtain⟨hv,hgt⟩:=hp;have hvz:=hv.sz;have hvz2:w.sz≤134217728:=(by omega);have hrl:=Dj w;have hrl2:(BF w).length≤134217728:=(by omega);have hin:∀y∈BF w,inR w y:=(fun y hy=>Dc hy);have hca:(BF w).filter (cnd w g)=C0 w g:=rfl;replace H:=AI hvz2 (AI hv (AI hgt (AI hrl2 (AI hin (AI hca H)))))
 repeat' (first|(refine W.fzR (id:=1) 2 2 [3] [3] ?_)|(refine W.fzR (id:=1) 3 3 [2] [] ?_)|(refine iWL ?_;refine Cw G ?_ (h:=C1 (e1:=by simp) (hct:=fi w)))|(refine iWL ?_;refine Xmw M ?_)|(refine iT ?_;refine XmF 4 ?_)|(refine IN.mk ?_;intros)|(refine iTw ?_;refine T2 ?_ ?_<;>((try clear H);intro hb H)<;>try exact hb.elim)|(refine LF.mk ?_;exact LX)|refine GN ?_)
instance iSelC (y:A3) (w:A1) (x:AJ):Ct cx 399 [.d (FU y),.el (Au w),.el (E6 x)] (vP w∧inR w y∧x.At.sz≤134217727) (dB' (Gw (Ao w y).At x.At)):=by
 refine Xi func399 18 [.tmp 4] [] [] AN trivial ?_;intro hp h M G H E
 obtain⟨hv,ho,hxz⟩:=hp;have hvz:=hv.sz;have hvz2:w.sz≤134217728:=(by omega);replace H:=AI hvz2 (AI hxz H)
 have hr:=ho;have hd:=(hv.hd _ hr).1;have hs:=C9 hr;have hw0:(Ao w y).At.sz≤134217727:=(by have hq:=(Ao w y).sz_eq;unfold szs at hq;omega);have ht0:AR (Ao w y).At≤134217728:=Nat.le_trans hd.1 (by decide);replace H:=AI hr (AI hd (AI hw0 (AI ht0 H)))
 all_goals exact GA0
instance kT (w:A1) (g:A9):Ct cx 339 [.d (Au w),.d (Du g)] (vP w∧GT 67108864 g.AM) (.tp [.d (.st [.lf (.int .i64 ((sel w g).1.BA)),.lf (.int .i64 ((sel w g).1.fAt))]),dI' ((sel w g).2)]):=by
 refine Xi func339 43 [.cell 4 49,.tmp 5] [] [] AN trivial ?_;intro hp h M G H E
 have hv:=hp.1;have hvz:=hv.sz;have hvz2:w.sz≤134217728:=(by omega);have hgw:=hp.2.wd;have hgv:=hp.2;have hgo:=hp.2.tvO (Nat.le_refl _);have hcl:=OZ w g;replace H:=AI hvz2 (AI hgw (AI hv (AI hgv (AI hgo H))))
 repeat' (first|exact true|(refine W.fzR (id:=2) 2 2 [3,4,6] [3,4] ?_)|(refine W.fzR (id:=6) 9 9 [2,3,4,6,8,15,16,17] [3,4,8] ?_)|(refine IN.mk ?_;intros)|(refine iTw ?_;refine T2 ?_ ?_<;>((try clear H);intro hb H)<;>try (first|exact hb.elim|(exfalso;omega)))|(refine LF.mk ?_;exact LX)|refine BO.mk ?_ ?_|(apply iPJ;exact NPJ)|apply PXs.of|refine GN ?_|(refine XC [2,3,4,6,15,16] [3,4] 17 ((C0 w g).length) (fun k0=>sel w g=JH w g ((C0 w g).drop k0)) ?_;intro k0 hk0 hi0;have hse:=fun h:(C0 w g).length≤k0=>hi0.trans (NK w g h);by_cases hkk:k0<(C0 w g).length;rotate_left;have hse2:=hse (by omega);replace H:=AI hse2 H;rotate_left;have hr:=HM (gm hkk);have hd:=(hv.hd _ hr).1;have hs:=C9 hr;have hw0:(Ao w (C0 w g)[k0]).At.sz≤134217727:=(by have hq:=(Ao w (C0 w g)[k0]).sz_eq;unfold szs at hq;omega);have ht0:AR (Ao w (C0 w g)[k0]).At≤134217728:=Nat.le_trans hd.1 (by decide);replace H:=AI hr (AI hd (AI hw0 (AI ht0 H)));have hbq:∀y∈(C0 w g),vP w∧inR w y∧(Ao w (C0 w g)[k0]).At.sz≤134217727:=(fun y hy=>⟨hv,HM hy,hw0⟩);have hbe:((C0 w g).any fun y=>Gw (Ao w y).At (Ao w (C0 w g)[k0]).At)= !KB w (C0 w g) (C0 w g)[k0]:=XM w (C0 w g) (C0 w g)[k0];replace H:=AI hbq (AI hbe H);have hsa:=hi0.trans (QR w g hkk);replace H:=AI hsa H;rcases hbb:KB w (C0 w g) (C0 w g)[k0] with _|_<;>replace H:=AI hbb H)|fail)
instance iEncC (y:A0) (k:Int) (n:BA') (l:List A0):Ct cx 393 [.d (N1 y),.el (uK k n l)] (True) (dB' (eqT y (⟨k,n,l⟩:A0))):=by
 refine Xi func393 7 [.tmp 3] [] [] AN trivial ?_;intro hp h M G H E
 all_goals exact GA0
theorem kY (w:A1) (F:List AD) (tr:BA'):∀(N:Nat) (k:Int) (n:BA') (l:List A0) (op:List A0),Ct cx 337 [.el (.st [Au w,.sl false Bf ((F).map (AD.dd false))]),dS' tr,.d (uK k n l),.d (.sl false Ai ((op).map (A0.dd false)))] (vP w∧fOk F∧op.length+N=32∧op.length≤31∧GT (67108864 - 3*N) (⟨k,n,l⟩:A0)∧(∀y∈op,daT w y=true)) (dI' (au w F tr N (⟨k,n,l⟩:A0) op)):=by
 intro N
 induction N with
 |zero=>intro k n l op;exact⟨fk1 func337,fun hp=>absurd hp.2.2.1 (by have:=hp.2.2.2.1;omega)⟩
 |succ N ih=>
 intro k n l op
 have jj:∀(k2:Int) (n2:BA') (l2:List A0),Ct cx 337 [.el (.st [Au w,.sl false Bf ((F).map (AD.dd false))]),.d (.lf (.string (tr))),.d (uK k2 n2 l2),.d (.sl false Ai (op.map (A0.dd false)++[(uK k n l)]))] (vP w∧fOk F∧(op++[(⟨k,n,l⟩:A0)]).length+N=32∧(op++[(⟨k,n,l⟩:A0)]).length≤31∧GT (67108864 - 3*N) (⟨k2,n2,l2⟩:A0)∧(∀y∈(op++[(⟨k,n,l⟩:A0)]),daT w y=true)) (.d (.lf (.int .i64 (au w F tr N (⟨k2,n2,l2⟩:A0) (op++[(⟨k,n,l⟩:A0)]))))):=fun k2 n2 l2=>by have q:=ih k2 n2 l2 (op++[(⟨k,n,l⟩:A0)]);simpa using q
 refine Xi func337 116 [.tmp 8] [38,87,96,103] [] AN trivial ?_;intro hp h M G H E
 obtain⟨hv,hf,hon,hol,hgt,hda⟩:=hp;have hvz:=hv.sz;have hvz2:w.sz≤134217728:=(by omega);have hfl:=hf.1;have hgw:=hgt.wd;have hlw:=D0 hgw;have hlb:=Bj hgw;have hnb:=hgt.nb;have hbn:k=2→Cq n=true→l=[]:=(fun a b=>ZH hnb a b);have hdv:=hv.dv n;have hdz0:=PU w n;have hde:=(daR w n).1.sz_eq;unfold szs at hde;have hvl:(daR w n).1.Aa.length≤134217728:=(by omega);replace H:=AI hvz2 (AI hfl (AI hgw (AI hv (AI hf (AI hvl H)))))
 have htr:∀y∈op,True:=(fun _ _=>trivial);replace H:=AI htr H
 repeat' (first|exact true|(refine iD (i:=3) ?_;(fail_if_success (have:=hbx));have hbx:k=2→Cq n=false:=(by intro a;cases e:Cq n with|false=>rfl|true=>have:=hbn a e;grind))|(refine iD (i:=5) ?_;(fail_if_success (have:=hfn));have hfn:fAi F ⟨tr,⟨k,n,l⟩⟩<0:=(by omega))|(refine iR (i:=8) ?_;(fail_if_success (have:=hdy));have hdy:=Wm (by assumption);have hdz:=hb)|(refine W.fzR (id:=8) 6 6 [0,1,3,9] [9] ?_)|(refine iR (i:=10) ?_;(fail_if_success (have:=hoe));have hoe:Co op (⟨k,n,l⟩:A0)=false:=Zz hb)|(refine LF.mk ?_;rw[gu (.inl (by grind))];done)|(refine LF.mk ?_;rw[gu (.inr (by omega))];done)|(refine LF.mk ?_;rw[lI ⟨hbx,hfn⟩ (Vz hda (l8 hb)) hb];done)|(refine LF.mk ?_;rw[lJ (Zy hb)];done)|(refine LF.mk ?_;rw[lH ⟨hbx,hfn⟩ hoe hdz hb];done)|(refine LF.mk ?_;rw[bD ⟨hbx,hfn⟩ hoe hdz (by assumption),hce];done)|(refine LF.mk ?_;exact hi0.trans (IH hk2' (hcx.trans hde3)))|(refine LF.mk ?_;exact hi1.trans (IH hk3' (hcy.trans hb)))|(refine LF.mk ?_;rw[bD ⟨hbx,hfn⟩ hoe hdz (by assumption),hi0.trans (G9 hk2' (by rw[hcx,hi1.trans (G9 hk3' (by rw[hcy];exact hb)),hcy];exact hb)),hcx,hi1.trans (G9 hk3' (by rw[hcy];exact hb)),hcy];done)|(refine IN.mk ?_;intros)|(refine iTw ?_;refine T2 ?_ ?_<;>((try clear H);intro hb H)<;>try (first|exact hb.elim|(exfalso;omega)))|(refine LF.mk ?_;exact LX)|refine BO.mk ?_ ?_|(apply iPJ;exact NPJ)|apply PXs.of|refine GN ?_|(refine XC [0,1,12,13,91,92] [] 93 ((daR w n).1.A4.length) (fun k0=>fc (auC w F tr N (⟨k,n,l⟩:A0) op) (daR w n).1.A4=fc (auC w F tr N (⟨k,n,l⟩:A0) op) ((daR w n).1.A4.drop k0)) ?_;intro k0 hk0 hi0;by_cases hk2':k0<(daR w n).1.A4.length;rotate_left;(have hce:=hi0.trans (Az (f:=(auC w F tr N (⟨k,n,l⟩:A0) op)) (show(daR w n).1.A4.length≤k0 by omega)));rotate_left;have hcx:(auC w F tr N (⟨k,n,l⟩:A0) op) (daR w n).1.A4[k0]=fc (auF w F tr N (⟨k,n,l⟩:A0) op) (daR w n).1.A4[k0].Av:=rfl)|(refine XC [0,1,12,13,91,92,93,98,99] [] 100 ((daR w n).1.A4[k0].Av.length) (fun k1=>fc (auF w F tr N (⟨k,n,l⟩:A0) op) (daR w n).1.A4[k0].Av=fc (auF w F tr N (⟨k,n,l⟩:A0) op) ((daR w n).1.A4[k0].Av.drop k1)) ?_;intro k1 hk1 hi1;by_cases hk3':k1<(daR w n).1.A4[k0].Av.length;rotate_left;(have hde3:=hi1.trans (Az (f:=(auF w F tr N (⟨k,n,l⟩:A0) op)) (show(daR w n).1.A4[k0].Av.length≤k1 by omega)));rotate_left;(have hgg:=XY hv hgt (gm hk2') (gm hk3');have hgg2:GT (67108864 - 3*N) (ap (bds (daR w n).1.Aa l) (daR w n).1.A4[k0].Av[k1]):=hgg.mono (show 67108864 - 3*(N+1)+3≤67108864 - 3*N by omega);have hpq:vP w∧fOk F∧(op++[(⟨k,n,l⟩:A0)]).length+N=32∧(op++[(⟨k,n,l⟩:A0)]).length≤31∧GT (67108864 - 3*N) (ap (bds (daR w n).1.Aa l) (daR w n).1.A4[k0].Av[k1])∧(∀y∈(op++[(⟨k,n,l⟩:A0)]),daT w y=true):=⟨hv,hf,by simp;omega,by simp;omega,hgg2,fun y hy=>(by rcases List.mem_append.1 hy with hy|hy;exact hda y hy;rw[List.mem_singleton.1 hy];exact hdy)⟩;have hcy:(auF w F tr N (⟨k,n,l⟩:A0) op) (daR w n).1.A4[k0].Av[k1]=au w F tr N (ap (bds (daR w n).1.Aa l) (daR w n).1.A4[k0].Av[k1]) (op++[(⟨k,n,l⟩:A0)]):=rfl;have hfw:=(hv.da n _ _ (gm hk2') (gm hk3')).wd;have hbw:∀b∈(bds (daR w n).1.Aa l),b.AM.wd:=XQ hgw;replace H:=AI hpq (AI hfw (AI hbw H))))|fail)
instance iAu (w:A1) (F:List AD) (tr:BA') (k:Int) (n:BA') (l:List A0):Ct cx 337 [.el (.st [Au w,.sl false Bf ((F).map (AD.dd false))]),dS' tr,.d (uK k n l),.d (.sl false Ai [])] (vP w∧fOk F∧GT 67108768 (⟨k,n,l⟩:A0)) (dI' (au w F tr 32 (⟨k,n,l⟩:A0) [])):=⟨fk1 func337,fun hp h=>(kY w F tr 32 k n l []).cs ⟨hp.1,hp.2.1,rfl,Nat.zero_le _,hp.2.2,by simp⟩ h⟩
theorem CS.vwA {P:Program} {f:Nat} {args args':List AV} {h h':HP} {r:AV} (i:Nat) (k:CS P f args' h r h') (e:(⟨(Ck args h).n,BD (Ck args h).tm [i],(Ck args h).hp⟩:St)=Ck args' h):CS P f args h r h':=fun w F Θ own vs hR=>by
 obtain⟨own2,g1,g2⟩:=hR.fin none (by simp) [i] .un undef [] (Ks.refl _ _ _) hR.top (by simp only[rv]) List.nodup_nil (by simp) (by simp)
 have g3:Rel w F Θ own2 (Ck args' h) ⟨vs.toArray,[]⟩:=by rw[←e];exact g1
 refine(k w F Θ own2 vs g3).mono fun e w' ⟨v,F',own',h1,h2,h3⟩=>⟨v,F',own',h1,h2,g2.trans h3⟩
instance iAuN (w:A1) (F:List AD) (tr:BA') (k:Int) (n:BA') (l:List A0):Ct cx 337 [.el (.st [Au w,.sl false Bf ((F).map (AD.dd false))]),dS' tr,.d (uK k n l),.d (.sl true Ai [])] (vP w∧fOk F∧GT 67108768 (⟨k,n,l⟩:A0)) (dI' (au w F tr 32 (⟨k,n,l⟩:A0) [])):=⟨fk1 func337,fun hp h=>CS.vwA 3 ((iAu w F tr k n l).cs hp h) (by show(⟨_,_,_⟩:St)=⟨_,_,_⟩;congr 1;funext t;by_cases e:t=3<;>simp[BD,upd,Ck,e,AV.vw,DD.vw,DD.vws];try (match t with|0=>rfl|1=>rfl|2=>rfl|3=>exact absurd rfl e|t+4=>rfl))⟩
instance (priority:=2000) iSel3 (w:A1) (tr:BA') (k:Int) (n:BA') (l:List A0):Ct cx 339 [.d (Au w),.d (.st [.lf (.string tr),uK k n l])] (vP w∧GT 67108864 (⟨k,n,l⟩:A0)) (.tp [.d (.st [.lf (.int .i64 ((sel w (⟨tr,(⟨k,n,l⟩:A0)⟩:A9)).1.BA)),.lf (.int .i64 ((sel w (⟨tr,(⟨k,n,l⟩:A0)⟩:A9)).1.fAt))]),dI' ((sel w (⟨tr,(⟨k,n,l⟩:A0)⟩:A9)).2)]):=⟨(kT w (⟨tr,(⟨k,n,l⟩:A0)⟩:A9)).ok,fun hp h=>by have q:=(kT w (⟨tr,(⟨k,n,l⟩:A0)⟩:A9)).cs hp h;first|exact q|simpa using q⟩
theorem U6 {a b:List BA'} {s:BA'} (h:s∈b):s∈unN a b:=Pw.2 (.inr h)
instance iRenA (k:Int) (n:BA') (l:List A0) (k2:Int) (n2:BA') (l2:List A0):Ct cx 329 [.d (.sl false Ai [(uK k n l)]),.d (.sl false Ai [(uK k2 n2 l2)])] (hdS (⟨k,n,l⟩:A0)∧hdS (⟨k2,n2,l2⟩:A0)∧tvO (⟨k,n,l⟩:A0) []∧tvO (⟨k2,n2,l2⟩:A0) []∧A0.sz (⟨k,n,l⟩:A0)≤134217727∧A0.sz (⟨k2,n2,l2⟩:A0)≤134217727) (.d (.sl true BB (((apR (tv (⟨k,n,l⟩:A0)) (tv (⟨k2,n2,l2⟩:A0)))).map (A6.dd true)))):=by
 refine Xi func329 47 [.tmp 4] [34,38,46] [] AN (AI @apR.eq_1<|AI @LM<|AI @LL<|@Mh) ?_;intro hp h M G H E
 obtain⟨hda,hdb,ho1,ho2,hz1,hz2⟩:=hp;have hv1:=hda.2;have hv2:=hdb.2;have hl1:=Gc ho1;have hl2:=Gc ho2;have hl1':(tv (⟨k,n,l⟩:A0)).length≤67108864:=hl1;have hl2':(tv (⟨k2,n2,l2⟩:A0)).length≤67108864:=hl2;have hzc:=Pj;have hab:(tv (⟨k,n,l⟩:A0)).length+(tv (⟨k2,n2,l2⟩:A0)).length≤536870912:=(by omega);replace H:=AI hab (AI ho1 (AI ho2 (AI hzc H)))
 repeat' (first|(refine IN.mk ?_;intros)|(refine iTw ?_;refine T2 ?_ ?_<;>((try clear H);intro hb H)<;>try (first|exact hb.elim|(exfalso;omega)))|(refine LF.mk ?_;exact LX)|refine GN ?_|(refine XL [0,17,18] [] (fun k0 _=>[(19,dI' k0),(6,.d (.sl true BB (((apK (tv (⟨k,n,l⟩:A0)) (unN (tv (⟨k,n,l⟩:A0)) (tv (⟨k2,n2,l2⟩:A0))) (tv (⟨k2,n2,l2⟩:A0)) k0).2).map (A6.dd true)))),(5,.d (.sl true .one (((apK (tv (⟨k,n,l⟩:A0)) (unN (tv (⟨k,n,l⟩:A0)) (tv (⟨k2,n2,l2⟩:A0))) (tv (⟨k2,n2,l2⟩:A0)) k0).1).map (dS))))]) (fun _ _=>[]) ((tv (⟨k2,n2,l2⟩:A0)).length) (fun _ _=>True) rU ?_;intro k0 hk0 s0 hi0;by_cases hkk:k0<(tv (⟨k2,n2,l2⟩:A0)).length;rotate_left;have hke:=@S6 (tv (⟨k,n,l⟩:A0)) (tv (⟨k2,n2,l2⟩:A0)) k0 (by omega);replace H:=AI hke H;rotate_left;have hul:=Px (tv (⟨k,n,l⟩:A0)) (tv (⟨k2,n2,l2⟩:A0));have hal:=@S5 (tv (⟨k,n,l⟩:A0)) (unN (tv (⟨k,n,l⟩:A0)) (tv (⟨k2,n2,l2⟩:A0))) (tv (⟨k2,n2,l2⟩:A0)) k0;have hvs:=bc (x:=(⟨k2,n2,l2⟩:A0)) hz2 hkk;have hno:=@Xq (tv (⟨k,n,l⟩:A0)) (unN (tv (⟨k,n,l⟩:A0)) (tv (⟨k2,n2,l2⟩:A0))) (tv (⟨k2,n2,l2⟩:A0)) k0 hkk;have hye:=@S4 (tv (⟨k,n,l⟩:A0)) (unN (tv (⟨k,n,l⟩:A0)) (tv (⟨k2,n2,l2⟩:A0))) (tv (⟨k2,n2,l2⟩:A0)) k0 hkk;have hvu:(tv (⟨k2,n2,l2⟩:A0))[k0]∈(apK (tv (⟨k,n,l⟩:A0)) (unN (tv (⟨k,n,l⟩:A0)) (tv (⟨k2,n2,l2⟩:A0))) (tv (⟨k2,n2,l2⟩:A0)) k0).1:=bG k0 _ (U6 (gm hkk));rw[←aE hvu] at hye;replace H:=AI hno (AI hye H))|(refine XL [0,5,6,8,17,18,19] [] (fun k1 _=>[(9,dS' ((zit k1 (tv (⟨k2,n2,l2⟩:A0))[k0])))]) (fun _ _=>[]) (zN (apK (tv (⟨k,n,l⟩:A0)) (unN (tv (⟨k,n,l⟩:A0)) (tv (⟨k2,n2,l2⟩:A0))) (tv (⟨k2,n2,l2⟩:A0)) k0).1 (tv (⟨k2,n2,l2⟩:A0))[k0]) (fun _ _=>True) rU ?_;intro k1 hk1 s1 hi1;have hzs:=FP k1 (tv (⟨k2,n2,l2⟩:A0))[k0];by_cases hkz:k1<zN (apK (tv (⟨k,n,l⟩:A0)) (unN (tv (⟨k,n,l⟩:A0)) (tv (⟨k2,n2,l2⟩:A0))) (tv (⟨k2,n2,l2⟩:A0)) k0).1 (tv (⟨k2,n2,l2⟩:A0))[k0];rotate_left;have hze:=@Pk (apK (tv (⟨k,n,l⟩:A0)) (unN (tv (⟨k,n,l⟩:A0)) (tv (⟨k2,n2,l2⟩:A0))) (tv (⟨k2,n2,l2⟩:A0)) k0).1 (tv (⟨k2,n2,l2⟩:A0))[k0] k1 (by omega);have hzn:=W7 (apK (tv (⟨k,n,l⟩:A0)) (unN (tv (⟨k,n,l⟩:A0)) (tv (⟨k2,n2,l2⟩:A0))) (tv (⟨k2,n2,l2⟩:A0)) k0).1 (tv (⟨k2,n2,l2⟩:A0))[k0];replace H:=AI hze (AI hzn H);rotate_left;have hzl:=Mi hkz;have hzx:=Te k1 (tv (⟨k2,n2,l2⟩:A0))[k0];have hzb:(zit k1 (tv (⟨k2,n2,l2⟩:A0))[k0]).size+1≤9223372036854775807:=(by have h1:=bS (apK (tv (⟨k,n,l⟩:A0)) (unN (tv (⟨k,n,l⟩:A0)) (tv (⟨k2,n2,l2⟩:A0))) (tv (⟨k2,n2,l2⟩:A0)) k0).1 (tv (⟨k2,n2,l2⟩:A0))[k0];omega);replace H:=AI hzl (AI hzx (AI hzb H)))|fail)
