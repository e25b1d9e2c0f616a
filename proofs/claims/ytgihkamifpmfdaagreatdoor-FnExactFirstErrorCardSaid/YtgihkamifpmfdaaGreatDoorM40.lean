/- Part 40. No condition. -/
import Derived.Test.YtgihkamifpmfdaaGreatDoorM39
namespace Go.Proofs.YtgihkamifpmfdaaGreatDoor
open Go.RowKit Tryz
set_option linter.unusedVariables false
set_option maxRecDepth 10000
set_option linter.unusedSimpArgs false
set_option maxHeartbeats 4000000
instance PI (x:AU):Ct cx 191 [.d (KQ x)] (x.sz≤134217728) (dB' (DC x)):=by
 refine Xi func191 59 [.tmp 2] [20] [] AN (AI @DC.eq_1<|AI @Cc<|AI @Bp<|@Bb) ?_;intro hp h M G H E
 have qSignature:=AC.sz_eq;have gSignature:=@Bm _ AC.sz;unfold szs at qSignature
 have hx:=x.sz_eq;unfold szs at hx
 repeat' (first|exact true|(refine IN.mk ?_;intros)|(refine iTw ?_;refine T2 ?_ ?_<;>((try clear H);intro hb H)<;>try exact hb.elim)|(refine LF.mk ?_;exact LX)|refine BO.mk ?_ ?_|(apply iPJ;exact NPJ)|apply PXs.of|refine GN ?_|(refine XL [1] [1] (fun k0 _=>[(4,dI' k0),(3,.d (.sl true .one (((mp AC.A5 x.AW k0)).map (dS))))]) (fun _ _=>[]) (x.AW.length) (fun k0 _=>(x.AW.any fun g=> !FD g)=(x.AW.drop k0).any fun g=> !FD g) rU ?_;intro k0 hk0 s0 hi0;have hml:=Bh AC.A5 hk0)|fail)
instance gData (x:AF):Ct cx 192 [.d (SL x)] (x.sz≤134217728) (dB' (D3 x)):=by
 refine Xi func192 59 [.tmp 2] [33] [] AN (AI @D3.eq_1<|AI @IK.eq_1<|AI @Cc<|AI @Bp<|@Bb) ?_;intro hp h M G H E
 have hx:=x.sz_eq;unfold szs at hx
 have hcs:∀k (h:k<x.A4.length),∀y∈(x.A4[k]).Av,y.sz≤134217728:=fun k h y hy=>by have h1:=Ae AA.sz (gm h);have h2:=(x.A4[k]).sz_eq;unfold szs at h2;have h3:=Ae A0.sz hy;omega
 replace H:=AI hcs H
 repeat' (first|exact true|(refine IN.mk ?_;intros)|(refine iTw ?_;refine T2 ?_ ?_<;>((try clear H);intro hb H)<;>try exact hb.elim)|(refine LF.mk ?_;exact LX)|refine BO.mk ?_ ?_|(apply iPJ;exact NPJ)|apply PXs.of|refine GN ?_|(refine XL [1] [1] (fun k0 _=>[(4,dI' k0),(3,.d (.sl true .one (((mp AA.A5 x.A4 k0)).map (dS))))]) (fun _ _=>[]) (x.A4.length) (fun k0 _=>(x.A4.any fun c=>IK c x.Aa)=(x.A4.drop k0).any fun c=>IK c x.Aa) rU ?_;intro k0 hk0 s0 hi0;have hml:=Bh AA.A5 hk0)|fail)
instance gFn (x:AL):Ct cx 194 [.d (N4 x)] (x.sz≤134217728) (dB' (O4 x)):=by
 refine Xi func194 64 [.tmp 2] [23] [] AN (AI @O4.eq_1<|AI @Cc<|AI @Bp<|@Bb) ?_;intro hp h M G H E
 have qParam:=AX.sz_eq;have gParam:=@Bm _ AX.sz;unfold szs at qParam
 have hx:=x.sz_eq;unfold szs at hx
 have hsw:∀y∈x.Ah,y.sz≤134217728:=fun y hy=>by have:=Ae A9.sz hy;omega
 replace H:=AI hsw H
 repeat' (first|exact true|(refine IN.mk ?_;intros)|(refine iTw ?_;refine T2 ?_ ?_<;>((try clear H);intro hb H)<;>try exact hb.elim)|(refine LF.mk ?_;exact LX)|refine BO.mk ?_ ?_|(apply iPJ;exact NPJ)|apply PXs.of|refine GN ?_|(refine XL [1] [1] (fun k0 _=>[(4,dI' k0),(3,.d (.sl true .one (((mp AX.A5 x.Am k0)).map (dS))))]) (fun _ _=>[]) (x.Am.length) (fun k0 _=>(x.Am.any fun p=> !Bl p.AM x.Aa)=(x.Am.drop k0).any fun p=> !Bl p.AM x.Aa) rU ?_;intro k0 hk0 s0 hi0;have hml:=Bh AX.A5 hk0)|fail)
instance gInst (x:AJ):Ct cx 193 [.d (E6 x)] (x.sz≤134217728) (dB' (instOk x)):=by
 have j1:=@gPj_i;have j2:=@pJ
 refine Xi func193 119 [.tmp 2] [93,112] [] AN (AI @instOk.eq_1<|AI @inst1.eq_1<|AI @inst2.eq_1<|AI @F6.eq_1<|AI @Cc<|AI @Bp<|@Bb) ?_;intro hp h M G H E
 have qMethod:=AY.sz_eq;have gMethod:=@Bm _ AY.sz;unfold szs at qMethod
 have hx:=x.sz_eq;unfold szs at hx
 have hsw:∀y∈x.Ah,y.sz≤134217728:=fun y hy=>by have:=Ae A9.sz hy;omega
 replace H:=AI hsw H
 repeat' (first|exact true|(refine IN.mk ?_;intros)|(refine iTw ?_;refine T2 ?_ ?_<;>((try clear H);intro hb H)<;>try exact hb.elim)|(refine LF.mk ?_;exact LX)|refine BO.mk ?_ ?_|(apply iPJ;exact NPJ)|apply PXs.of|refine GN ?_|(refine XC [1] [1] 3 (x.Aa.length) (fun k0=>(x.Aa.any fun v=> !decide (0<occ v x.At))=(x.Aa.drop k0).any fun v=> !decide (0<occ v x.At)) ?_;intro k0 hk0 hi0)|(refine XL [1] [1] (fun k1 _=>[(5,dI' k1),(4,.d (.sl true .one (((mp AY.A5 x.Ar k1)).map (dS))))]) (fun _ _=>[]) (x.Ar.length) (fun k1 _=>x.Ar.any F6=(x.Ar.drop k1).any F6) rU ?_;intro k1 hk1 s1 hi1;have hml:=Bh AY.A5 hk1)|fail)
def G4 (d:AF):List BA':=d.A4.map AA.A5
theorem ab {x:A8} {k:Nat} (h:x.AE.length≤k):fl G4 x.AE k=C7 x:=by rw[EZ h];rfl
theorem Wo {l:List AF} {k j:Nat} (h:k<l.length):(fl G4 l k++mp AA.A5 l[k].A4 j).length≤szL AF.sz l:=by
  have h1:=Fv l
  have e:fl G4 l (k+1)=fl G4 l k++G4 l[k]:=G8 h
  have h2:(mp AA.A5 l[k].A4 j).length≤(G4 l[k]).length:=by unfold mp G4;simp;omega
  have h3:(fl G4 l (k+1)).length≤(l.flatMap G4).length:=by
    unfold fl
    conv=>rhs;rw[←List.take_append_drop (k+1) l,List.flatMap_append,List.length_append]
    omega
  have h4:(l.flatMap G4).length≤szL AF.sz l:=h1
  rw[e] at h3
  simp only[List.length_append] at h3 ⊢
  omega
def cN (x:A8) (k j:Nat):List BA':=fl G4 x.AE k++((x.AE[k]?).map fun d=>mp AA.A5 d.A4 j).getD []
theorem Rq {x:A8} {k j:Nat} (h:k<x.AE.length):cN x k j=fl G4 x.AE k++mp AA.A5 x.AE[k].A4 j:=by unfold cN;rw[List.getElem?_eq_getElem h];rfl
theorem b5 (x:A8) (k:Nat):cN x k 0=fl G4 x.AE k:=by unfold cN;cases x.AE[k]? <;>simp
theorem lC {x:A8} {k j:Nat} (h:k<x.AE.length) (hj:j<x.AE[k].A4.length):cN x k (j+1)=cN x k j++[x.AE[k].A4[j].A5]:=by rw[Rq h,Rq h,Es hj,List.append_assoc]
theorem gh {x:A8} {k j:Nat} (h:k<x.AE.length) (e:x.AE[k].A4.length≤j):cN x k j=fl G4 x.AE (k+1):=by rw[Rq h,G8 h,Bb e];rfl
theorem gf (x:A8) (k j:Nat):(cN x k j).length≤szL AF.sz x.AE:=by
  rcases Nat.lt_or_ge k x.AE.length with h|h
  · rw[Rq h];exact Wo h
  · have h1:(x.AE.flatMap G4).length≤szL AF.sz x.AE:=Fv x.AE
    unfold cN;rw[List.getElem?_eq_none h,EZ h];simpa[fa] using h1
attribute [simp] b5 H7
theorem kB {x:A8} {k:Nat} (h:x.Aj.length≤k):mp AU.A5 x.Aj k=nT x:=Bb h
theorem kD {x:A8} {k:Nat} (h:x.AE.length≤k):mp AF.A5 x.AE k=nD x:=Bb h
theorem kC {x:A8} {k:Nat} (h:x.Ad.length≤k):mp AL.A5 x.Ad k=nF x:=Bb h
instance pK (x:A8):Ct cx 59 [.d (U9 x)] (x.sz≤134217728) (.tp [.d (.sl true .one (((nT x)).map (dS))),.d (.sl true .one (((nD x)).map (dS))),.d (.sl true .one (((C7 x)).map (dS))),.d (.sl true .one (((nF x)).map (dS)))]):=by
 refine Xi func59 94 [.tmp 2,.tmp 3,.tmp 4,.tmp 5] [25,41,61,81,90,91,92,93] [] AN (AI @kB<|AI @kD<|AI @kC<|AI @ab<|AI @lC<|@gh) ?_;intro hp h M G H E
 have hx:=x.sz_eq;unfold szs at hx
 repeat' (first|(refine IN.mk ?_;intros)|(refine iTw ?_;refine T2 ?_ ?_<;>((try clear H);intro hb H)<;>try exact hb.elim)|(refine LF.mk ?_;exact LX)|refine GN ?_|(refine XL [1,7,8,9] [1] (fun k0 _=>[(10,dI' k0),(6,.d (.sl true .one (((mp AU.A5 x.Aj k0)).map (dS))))]) (fun _ _=>[]) (x.Aj.length) (fun _ _=>True) rU ?_;intro k0 hk0 s0 hi0;have hml:=Bh AU.A5 hk0)|(refine XL [1,6,9] [1] (fun k1 _=>[(11,dI' k1),(7,.d (.sl true .one (((mp AF.A5 x.AE k1)).map (dS)))),(8,.d (.sl true .one (((fl G4 x.AE k1)).map (dS))))]) (fun _ _=>[]) (x.AE.length) (fun _ _=>True) rU ?_;intro k1 hk1 s1 hi1;have hml:=Bh AF.A5 hk1)|(refine XL [1,6,7,9,11] [1] (fun k2 _=>[(12,dI' k2),(8,.d (.sl true .one (((cN x k1 k2)).map (dS))))]) (fun _ _=>[]) (x.AE[k1].A4.length) (fun _ _=>True) rU ?_;intro k2 hk2 s2 hi2;have hcl:=gf x k1 k2)|(refine XL [1,6,7,8] [1] (fun k3 _=>[(13,dI' k3),(9,.d (.sl true .one (((mp AL.A5 x.Ad k3)).map (dS))))]) (fun _ _=>[]) (x.Ad.length) (fun _ _=>True) rU ?_;intro k3 hk3 s3 hi3;have hml:=Bh AL.A5 hk3)|fail)
instance pH (x:A8):Ct cx 124 [.d (U9 x)] (x.sz≤134217728) (dB' (F3 x)):=by
 refine Xi func124 63 [.tmp 2] [] [] AN (AI @F3.eq_1<|AI @Cc<|@Bp) ?_;intro hp h M G H E
 have qTrait:=AU.sz_eq;have PI:=@Bm _ AU.sz;unfold szs at qTrait
 have qDataType:=AF.sz_eq;have gDataType:=@Bm _ AF.sz;unfold szs at qDataType
 have qInstance:=AJ.sz_eq;have gInstance:=@Bm _ AJ.sz;unfold szs at qInstance
 have qFunction:=AL.sz_eq;have gFunction:=@Bm _ AL.sz;unfold szs at qFunction
 have hx:=x.sz_eq;unfold szs at hx
 repeat' (first|(refine IN.mk ?_;intros)|(refine iTw ?_;refine T2 ?_ ?_<;>((try clear H);intro hb H)<;>try exact hb.elim)|(refine LF.mk ?_;exact LX)|refine GN ?_|(refine XC [1] [1] 3 (x.Aj.length) (fun k0=>(x.Aj.any fun t=> !DC t)=(x.Aj.drop k0).any fun t=> !DC t) ?_;intro k0 hk0 hi0)|(refine XC [1] [1] 4 (x.AE.length) (fun k1=>(x.AE.any fun t=> !D3 t)=(x.AE.drop k1).any fun t=> !D3 t) ?_;intro k1 hk1 hi1)|(refine XC [1] [1] 5 (x.AQ.length) (fun k2=>(x.AQ.any fun t=> !instOk t)=(x.AQ.drop k2).any fun t=> !instOk t) ?_;intro k2 hk2 hi2)|(refine XC [1] [1] 6 (x.Ad.length) (fun k3=>(x.Ad.any fun t=> !O4 t)=(x.Ad.drop k3).any fun t=> !O4 t) ?_;intro k3 hk3 hi3)|fail)
instance gPkg (x:A8):Ct cx 52 [.d (U9 x)] (x.sz≤134217728) (dB' (DS x)):=by
 refine Xi func52 67 [.tmp 2] [] [] AN (AI @DS.eq_1<|AI @pk1.eq_1<|AI @pk2.eq_1<|AI @nT.eq_1<|AI @nD.eq_1<|@nF.eq_1) ?_;intro hp h M G H E
 have hx:=x.sz_eq;unfold szs at hx
 have hw1:=BH (n:=(x.Aj.length:Int)+x.AE.length) (by omega) (by omega);have hw2:=BH (n:=(x.Aj.length:Int)+x.AE.length+x.AQ.length) (by omega) (by omega);have hw3:=BH (n:=(x.Aj.length:Int)+x.AE.length+x.AQ.length+x.Ad.length) (by omega) (by omega);replace H:=AI hw1 (AI hw2 (AI hw3 H))
 all_goals exact GA1
theorem Ji (l:List A3) (g:Nat) (cs:List AV) (p:A3→Bool) (pp:A3→Prop) (hv:VwC cs) (hi:∀y:A3,Ct cx g (.d (FU y)::cs) (pp y) (dB' (p y))) (hq:∀y∈l,pp y) (h:HP):CS cx.P 436 [.d (.sl false CX ((l).map (A3.dd false))),.fn g cs] h (dI' (CT l p)) h:=by
 refine Xe func436 rfl 19 [.tmp 4] ?_
 let M:List Nat:=[]
 let G:List Nat:=[]
 have H:=AN
 have hq2:∀k (hk:k<l.length),pp l[k]:=fun k hk=>hq _ (gm hk)
 replace H:=AI hv.all H
 repeat' (first|refine GO ?_|(refine Two.mk ?_ ?_<;>intro hb<;>(try simp at hb)<;>(try norm_cast at hb)<;>try replace H:=HN hb H)|(refine RG.mk ?_;(try clear hK hD);first|intro _ K hD hK|intro K hD hK)|(refine RF.mk ?_;intro hr)|(refine LF.mk ?_;(try clear hK hD);first|rfl|(simp[Ax,ipF,Ay,As, *];done)|(simp_all [Ax,ipF,Ay,As];done)|grind [Ax,ipF,Ay,As]))
 refine W.loopR [0,1,7] [] (fun k0 _=>[(8,dI' k0)]) (fun _ _=>[]) (l.length) (fun k0 _=>fs (ipF p) 0 l=fs (ipF p) k0 (l.drop k0)) (fun S=>()) rfl (by simp[H]) (by first|trivial|rfl|(simp;done)|(simp[Ax,ipF,Ay,As];done)|(simp_all [Ax,ipF,Ay,As];done)) ?_
 intro k0 hk0 s0 hi0 T hT;simp at hT;subst hT
 all_goals exact GA3
instance TA (l:List A3) (g:Nat) (cs:List AV) (p:A3→Bool) (pp:A3→Prop) [hv:VwC cs] [hi:∀y:A3,Ct cx g (.d (FU y)::cs) (pp y) (dB' (p y))]:Ct cx 436 [.d (.sl false CX ((l).map (A3.dd false))),.fn g cs] (∀y∈l,pp y) (dI' (CT l p)):=⟨fk1 func436,fun hq h=>Ji l g cs p pp hv hi hq h⟩
theorem K2 (l:List A3) (g:Nat) (cs:List AV) (p:A3→Bool) (pp:A3→Prop) [hv:VwC cs] [hi:∀y:A3,Ct cx g (.d (FU y)::cs) (pp y) (dB' (p y))] (hq:∀y∈l,pp y) (h:HP):CS cx.P 398 [.d (.sl false CX ((l).map (A3.dd false))),.fn g cs] h (dB' (l.any p)) h:=by
 refine Xe func398 rfl 9 [.tmp 4] ?_
 let M:List Nat:=[]
 let G:List Nat:=[]
 have H:=AN
 replace H:=AI hv.all H
 all_goals exact GA5
instance TS (l:List A3) (g:Nat) (cs:List AV) (p:A3→Bool) (pp:A3→Prop) [hv:VwC cs] [hi:∀y:A3,Ct cx g (.d (FU y)::cs) (pp y) (dB' (p y))]:Ct cx 398 [.d (.sl false CX ((l).map (A3.dd false))),.fn g cs] (∀y∈l,pp y) (dB' (l.any p)):=⟨fk1 func398,fun hq h=>K2 l g cs p pp hq h⟩
instance oc (y:A3) (w:A1) (g:A9):Ct cx 435 [.d (FU y),.el (Au w),.el (Du g)] (vP w∧GT 67108864 g.AM∧inR w y) (dB' (!cnd w g y)):=by
 refine Xi func435 26 [.tmp 4] [] [] AN (@cnd.eq_1) ?_;intro hp h M G H E
 obtain⟨hv,hgt,ho⟩:=hp;have hvz:=hv.sz;have hvz2:w.sz≤134217728:=(by omega);have hgw:=hgt.wd;replace H:=AI hvz2 (AI hgw H)
 have hr:=ho;have hd:=(hv.hd _ hr).1;have hs:=C9 hr;have hw0:(Ao w y).At.sz≤134217727:=(by have hq:=(Ao w y).sz_eq;unfold szs at hq;omega);have ht0:AR (Ao w y).At≤134217728:=Nat.le_trans hd.1 (by decide);replace H:=AI hr (AI hd (AI hw0 (AI ht0 H)))
 rcases hc1:decide ((Ao w y).AK=g.AK) with _|_<;>replace H:=AI hc1 H
 all_goals exact GA1
instance iDelF (l:List A3) (w:A1) (g:A9):Ct cx 434 [.ms CX ((l).map (A3.dd true)),.fn 435 [.el (Au w),.el (Du g)]] (vP w∧GT 67108864 g.AM∧(∀y∈l,inR w y)∧l.length≤134217728) (.ms CX (((l.filter (cnd w g))).map (A3.dd true))):=by
 refine Xi func434 42 [.tmp 4] [13] [] AN trivial ?_;intro hp h M G H E
 obtain⟨hv,hgt,hin,hll⟩:=hp;have hpq:∀y∈l,vP w∧GT 67108864 g.AM∧inR w y:=(fun y hy=>⟨hv,hgt,hin y hy⟩);replace H:=AI hpq H
 rcases Wg (cnd w g) l with ⟨hi1,hi2⟩|⟨i,hil,hi1,hi2,hi3⟩<;>replace H:=AI hi1 (AI hi2 H)
 rotate_left
 have hwi:=BH (n:=(i:Int)+1) (by omega) (by omega);replace H:=AI hi3 (AI hwi H)
 rotate_left
 repeat' (first|(refine iR (i:=1) ?_;refine XmO 0 ?_;intro v0 hv0;rw[List.length_map] at hv0)|(refine iR (i:=3) ?_;refine XmC 0 ?_)|(refine iWL ?_;first|refine Xmw M ?_|refine pZ 0 ?_|refine lP ?_|refine lO 0 ?_ (hz:=aW hkk _) (hj:=by rw[List.length_map,HG];exact hkk)|refine lM 0 ?_ (hrp:=by simp[D9]) (hj:=by rw[List.length_map,HG];exact hcx) (hE:=aV hkk hq _)|refine lN ?_|refine pX ?_|refine lQ 0 ?_ (hj:=by rw[List.length_map,HG];exact hcl) (h0:=by rw[List.length_map,HG];omega) (hE:=rfl)|refine pW 0 ?_ (hj:=by rw[List.length_append,List.length_take,List.length_map,HG,List.length_replicate];omega) (hE:=Wh hje))|(refine IN.mk ?_;intros)|(refine iTw ?_;refine T2 ?_ ?_<;>((try clear H);intro hb H)<;>try (first|exact hb.elim|(exfalso;clear H;omega)))|(refine LF.mk ?_;exact LX)|refine GN ?_|(refine XL [1] [] (fun k0 _=>[(6,dI' (((i+1+k0):Nat):Int)),(5,dI' (((dlC (cnd w g) l (i+1+k0)):Nat):Int)),(0,.mb v0 CX ((dlR (cnd w g) l (i+1+k0)).map (A3.dd true)))]) (fun _ _=>[]) (l.length - (i+1)) (fun _ _=>True) rU ?_;intro k0 hk0 s0 hi0;have hcl:=MN (cnd w g) l (i+1+k0);have hjn:i+1+(k0+1)=(i+1+k0)+1:=rfl;replace H:=AI hjn H;by_cases hkk:(i+1+k0)<l.length;rotate_left;have hje:(i+1+k0)=l.length:=(by omega);rotate_left;have hcy:=PT (cnd w g) l (i+1+k0);have hcx:dlC (cnd w g) l (i+1+k0)<l.length:=(by omega);have hpx:=hpq _ (gm hkk);replace H:=AI hpx H;rcases hq:(cnd w g) l[(i+1+k0)] with _|_<;>replace H:=AI hq H;have h1:=PS hkk hq;have h2:=gS hkk hq;replace H:=AI h1 (AI h2 H);rotate_left;have h1:=Rf hkk hq;replace H:=AI h1 H;rotate_left)|fail)
