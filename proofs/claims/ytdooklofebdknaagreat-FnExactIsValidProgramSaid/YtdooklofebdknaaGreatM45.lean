/- Part 45. No condition. -/
import Derived.Test.YtdooklofebdknaaGreatM43
import Derived.Test.YtdooklofebdknaaGreatM44
namespace Go.Proofs.YtdooklofebdknaaGreat
open Go.RowKit Tryz
set_option linter.unusedVariables false
set_option maxRecDepth 10000
set_option linter.unusedSimpArgs false
set_option maxHeartbeats 4000000
def G1 (d:AF):List ByteArray:=d.A4.map AA.A6
theorem ZL {x:A8} {k:Nat} (h:x.AE.length≤k):fl G1 x.AE k=C7 x:=by rw[EX h];rfl
theorem W3 {l:List AF} {k j:Nat} (h:k<l.length):(fl G1 l k++mp AA.A6 l[k].A4 j).length≤szL AF.sz l:=by
  have h1:=Fs l
  have e:fl G1 l (k+1)=fl G1 l k++G1 l[k]:=G5 h
  have h2:(mp AA.A6 l[k].A4 j).length≤(G1 l[k]).length:=by unfold mp G1;simp;omega
  have h3:(fl G1 l (k+1)).length≤(l.flatMap G1).length:=by
    unfold fl
    conv=>rhs;rw[←List.take_append_drop (k+1) l,List.flatMap_append,List.length_append]
    omega
  have h4:(l.flatMap G1).length≤szL AF.sz l:=h1
  rw[e] at h3
  simp only[List.length_append] at h3 ⊢
  omega
def cN (x:A8) (k j:Nat):List ByteArray:=fl G1 x.AE k++((x.AE[k]?).map fun d=>mp AA.A6 d.A4 j).getD []
theorem RJ {x:A8} {k j:Nat} (h:k<x.AE.length):cN x k j=fl G1 x.AE k++mp AA.A6 x.AE[k].A4 j:=by unfold cN;rw[List.getElem?_eq_getElem h];rfl
theorem Zd (x:A8) (k:Nat):cN x k 0=fl G1 x.AE k:=by unfold cN;cases x.AE[k]? <;>simp
theorem jQ {x:A8} {k j:Nat} (h:k<x.AE.length) (hj:j<x.AE[k].A4.length):cN x k (j+1)=cN x k j++[x.AE[k].A4[j].A6]:=by rw[RJ h,RJ h,Ep hj,List.append_assoc]
theorem fB {x:A8} {k j:Nat} (h:k<x.AE.length) (e:x.AE[k].A4.length≤j):cN x k j=fl G1 x.AE (k+1):=by rw[RJ h,G5 h,Ba e];rfl
theorem fA (x:A8) (k j:Nat):(cN x k j).length≤szL AF.sz x.AE:=by
  rcases Nat.lt_or_ge k x.AE.length with h|h
  · rw[RJ h];exact W3 h
  · have h1:(x.AE.flatMap G1).length≤szL AF.sz x.AE:=Fs x.AE
    unfold cN;rw[List.getElem?_eq_none h,EX h];simpa[fa] using h1
attribute [simp] Zd Gy
theorem ie {x:A8} {k:Nat} (h:x.Ai.length≤k):mp AS.A6 x.Ai k=nT x:=Ba h
theorem ik {x:A8} {k:Nat} (h:x.AE.length≤k):mp AF.A6 x.AE k=nD x:=Ba h
theorem ig {x:A8} {k:Nat} (h:x.Ac.length≤k):mp AL.A6 x.Ac k=nF x:=Ba h
instance nJ (x:A8):Ct cx 44 [.d (TY x)] (x.sz≤134217728) (.tp [.d (.sl true .one (((nT x)).map (dS))),.d (.sl true .one (((nD x)).map (dS))),.d (.sl true .one (((C7 x)).map (dS))),.d (.sl true .one (((nF x)).map (dS)))]):=by
 refine Xi func44 94 [.tmp 2,.tmp 3,.tmp 4,.tmp 5] [25,41,61,81,90,91,92,93] [] AN (AI @ie<|AI @ik<|AI @ig<|AI @ZL<|AI @jQ<|@fB) ?_;intro hp h M G H E
 have hx:=x.sz_eq;unfold szs at hx
 repeat' (first|(refine IN.mk ?_;intros)|(refine iTw ?_;refine T2 ?_ ?_<;>((try clear H);intro hb H)<;>try exact hb.elim)|(refine LF.mk ?_;exact LX)|refine GN ?_|(refine XL [1,7,8,9] [1] (fun k0 _=>[(10,.d (.lf (.int .i64 (k0:Int)))),(6,.d (.sl true .one (((mp AS.A6 x.Ai k0)).map (dS))))]) (fun _ _=>[]) (x.Ai.length) (fun _ _=>True) rU ?_;intro k0 hk0 s0 hi0;have hml:=Bh AS.A6 hk0)|(refine XL [1,6,9] [1] (fun k1 _=>[(11,.d (.lf (.int .i64 (k1:Int)))),(7,.d (.sl true .one (((mp AF.A6 x.AE k1)).map (dS)))),(8,.d (.sl true .one (((fl G1 x.AE k1)).map (dS))))]) (fun _ _=>[]) (x.AE.length) (fun _ _=>True) rU ?_;intro k1 hk1 s1 hi1;have hml:=Bh AF.A6 hk1)|(refine XL [1,6,7,9,11] [1] (fun k2 _=>[(12,.d (.lf (.int .i64 (k2:Int)))),(8,.d (.sl true .one (((cN x k1 k2)).map (dS))))]) (fun _ _=>[]) (x.AE[k1].A4.length) (fun _ _=>True) rU ?_;intro k2 hk2 s2 hi2;have hcl:=fA x k1 k2)|(refine XL [1,6,7,8] [1] (fun k3 _=>[(13,.d (.lf (.int .i64 (k3:Int)))),(9,.d (.sl true .one (((mp AL.A6 x.Ac k3)).map (dS))))]) (fun _ _=>[]) (x.Ac.length) (fun _ _=>True) rU ?_;intro k3 hk3 s3 hi3;have hml:=Bh AL.A6 hk3)|fail)
theorem JO (l:List A3) (g:Nat) (cs:List AV) (p:A3→Bool) (pp:A3→Prop) (hv:VwC cs) (hi:∀y:A3,Ct cx g (.d (FR y)::cs) (pp y) (.d (.lf (.bool (p y))))) (hq:∀y∈l,pp y) (h:HP):CS cx.P 436 [.d (.sl false Bc ((l).map (A3.dd false))),.fn g cs] h (.d (.lf (.int .i64 (CR l p)))) h:=by
 refine Xe func436 rfl 19 [.tmp 4] ?_
 let M:List Nat:=[]
 let G:List Nat:=[]
 have H:=AN
 have hq2:∀k (hk:k<l.length),pp l[k]:=fun k hk=>hq _ (gm hk)
 replace H:=AI hv.all H
 repeat' (first|refine GO ?_|(refine Two.mk ?_ ?_<;>intro hb<;>(try simp at hb)<;>(try norm_cast at hb)<;>try replace H:=HN hb H)|(refine RG.mk ?_;(try clear hK hD);first|intro _ K hD hK|intro K hD hK)|(refine RF.mk ?_;intro hr)|(refine LF.mk ?_;(try clear hK hD);first|rfl|(simp[Av,ipF,Aw,Aq, *];done)|(simp_all [Av,ipF,Aw,Aq];done)|grind [Av,ipF,Aw,Aq]))
 refine W.loopR [0,1,7] [] (fun k0 _=>[(8,.d (.lf (.int .i64 (k0:Int))))]) (fun _ _=>[]) (l.length) (fun k0 _=>fs (ipF p) 0 l=fs (ipF p) k0 (l.drop k0)) (fun S=>()) rfl (by simp[H]) (by first|trivial|rfl|(simp;done)|(simp[Av,ipF,Aw,Aq];done)|(simp_all [Av,ipF,Aw,Aq];done)) ?_
 intro k0 hk0 s0 hi0 T hT;simp at hT;subst hT
 all_goals exact GA3
instance ST (l:List A3) (g:Nat) (cs:List AV) (p:A3→Bool) (pp:A3→Prop) [hv:VwC cs] [hi:∀y:A3,Ct cx g (.d (FR y)::cs) (pp y) (.d (.lf (.bool (p y))))]:Ct cx 436 [.d (.sl false Bc ((l).map (A3.dd false))),.fn g cs] (∀y∈l,pp y) (.d (.lf (.int .i64 (CR l p)))):=⟨fk1 func436,fun hq h=>JO l g cs p pp hv hi hq h⟩
theorem Jj (l:List A3) (g:Nat) (cs:List AV) (p:A3→Bool) (pp:A3→Prop) [hv:VwC cs] [hi:∀y:A3,Ct cx g (.d (FR y)::cs) (pp y) (.d (.lf (.bool (p y))))] (hq:∀y∈l,pp y) (h:HP):CS cx.P 415 [.d (.sl false Bc ((l).map (A3.dd false))),.fn g cs] h (.d (.lf (.bool (l.any p)))) h:=by
 refine Xe func415 rfl 9 [.tmp 4] ?_
 let M:List Nat:=[]
 let G:List Nat:=[]
 have H:=AN
 replace H:=AI hv.all H
 all_goals exact GA5
instance Sn (l:List A3) (g:Nat) (cs:List AV) (p:A3→Bool) (pp:A3→Prop) [hv:VwC cs] [hi:∀y:A3,Ct cx g (.d (FR y)::cs) (pp y) (.d (.lf (.bool (p y))))]:Ct cx 415 [.d (.sl false Bc ((l).map (A3.dd false))),.fn g cs] (∀y∈l,pp y) (.d (.lf (.bool (l.any p)))):=⟨fk1 func415,fun hq h=>Jj l g cs p pp hq h⟩
instance mc (y:A3) (w:A1) (g:A9):Ct cx 435 [.d (FR y),.el (As w),.el (Dr g)] (vP w∧GT 67108864 g.AM∧inR w y) (.d (.lf (.bool (!cnd w g y)))):=by
 refine Xi func435 26 [.tmp 4] [] [] AN (@cnd.eq_1) ?_;intro hp h M G H E
 obtain⟨hv,hgt,ho⟩:=hp;have hvz:=hv.sz;have hvz2:w.sz≤134217728:=(by omega);have hgw:=hgt.wd;replace H:=AI hvz2 (AI hgw H)
 have hr:=ho;have hd:=(hv.hd _ hr).1;have hs:=C9 hr;have hw0:(Am w y).Ar.sz≤134217727:=(by have hq:=(Am w y).sz_eq;unfold szs at hq;omega);have ht0:AQ (Am w y).Ar≤134217728:=Nat.le_trans hd.1 (by decide);replace H:=AI hr (AI hd (AI hw0 (AI ht0 H)))
 rcases hc1:decide ((Am w y).AK=g.AK) with _|_<;>replace H:=AI hc1 H
 all_goals exact GA1
instance iDelF (l:List A3) (w:A1) (g:A9):Ct cx 434 [.ms Bc ((l).map (A3.dd true)),.fn 435 [.el (As w),.el (Dr g)]] (vP w∧GT 67108864 g.AM∧(∀y∈l,inR w y)∧l.length≤134217728) (.ms Bc (((l.filter (cnd w g))).map (A3.dd true))):=by
 refine Xi func434 42 [.tmp 4] [13] [] AN trivial ?_;intro hp h M G H E
 obtain⟨hv,hgt,hin,hll⟩:=hp;have hpq:∀y∈l,vP w∧GT 67108864 g.AM∧inR w y:=(fun y hy=>⟨hv,hgt,hin y hy⟩);replace H:=AI hpq H
 rcases Vw (cnd w g) l with ⟨hi1,hi2⟩|⟨i,hil,hi1,hi2,hi3⟩<;>replace H:=AI hi1 (AI hi2 H)
 rotate_left
 have hwi:=BF (n:=(i:Int)+1) (by omega) (by omega);replace H:=AI hi3 (AI hwi H)
 rotate_left
 repeat' (first|(refine iR (i:=1) ?_;refine XmO 0 ?_;intro v0 hv0;rw[List.length_map] at hv0)|(refine iR (i:=3) ?_;refine XmC 0 ?_)|(refine iWL ?_;first|refine Xmw M ?_|refine nY 0 ?_|refine jd ?_|refine jc 0 ?_ (hz:=ZH hkk _) (hj:=by rw[List.length_map,HA];exact hkk)|refine ja 0 ?_ (hrp:=by simp[D8]) (hj:=by rw[List.length_map,HA];exact hcx) (hE:=ZG hkk hq _)|refine jb ?_|refine nW ?_|refine je 0 ?_ (hj:=by rw[List.length_map,HA];exact hcl) (h0:=by rw[List.length_map,HA];omega) (hE:=rfl)|refine nV 0 ?_ (hj:=by rw[List.length_append,List.length_take,List.length_map,HA,List.length_replicate];omega) (hE:=Vx hje))|(refine IN.mk ?_;intros)|(refine iTw ?_;refine T2 ?_ ?_<;>((try clear H);intro hb H)<;>try (first|exact hb.elim|(exfalso;clear H;omega)))|(refine LF.mk ?_;exact LX)|refine GN ?_|(refine XL [1] [] (fun k0 _=>[(6,.d (.lf (.int .i64 (((i+1+k0):Nat):Int)))),(5,.d (.lf (.int .i64 (((dlC (cnd w g) l (i+1+k0)):Nat):Int)))),(0,.mb v0 Bc ((dlR (cnd w g) l (i+1+k0)).map (A3.dd true)))]) (fun _ _=>[]) (l.length - (i+1)) (fun _ _=>True) rU ?_;intro k0 hk0 s0 hi0;have hcl:=Lz (cnd w g) l (i+1+k0);have hjn:i+1+(k0+1)=(i+1+k0)+1:=rfl;replace H:=AI hjn H;by_cases hkk:(i+1+k0)<l.length;rotate_left;have hje:(i+1+k0)=l.length:=(by omega);rotate_left;have hcy:=P3 (cnd w g) l (i+1+k0);have hcx:dlC (cnd w g) l (i+1+k0)<l.length:=(by omega);have hpx:=hpq _ (gm hkk);replace H:=AI hpx H;rcases hq:(cnd w g) l[(i+1+k0)] with _|_<;>replace H:=AI hq H;have h1:=P2 hkk hq;have h2:=ej hkk hq;replace H:=AI h1 (AI h2 H);rotate_left;have h1:=R6 hkk hq;replace H:=AI h1 H;rotate_left)|fail)
theorem KC (l:List AD) (g:Nat) (cs:List AV) (p:AD→Bool) (pp:AD→Prop) (hv:VwC cs) (hi:∀y:AD,Ct cx g (.d (bu y)::cs) (pp y) (.d (.lf (.bool (p y))))) (hq:∀y∈l,pp y) (h:HP):CS cx.P 407 [.d (.sl false Bf ((l).map (AD.dd false))),.fn g cs] h (.d (.lf (.int .i64 (CR l p)))) h:=by
 refine Xe func407 rfl 19 [.tmp 4] ?_
 let M:List Nat:=[]
 let G:List Nat:=[]
 have H:=AN
 have hq2:∀k (hk:k<l.length),pp l[k]:=fun k hk=>hq _ (gm hk)
 replace H:=AI hv.all H
 repeat' (first|refine GO ?_|(refine Two.mk ?_ ?_<;>intro hb<;>(try simp at hb)<;>(try norm_cast at hb)<;>try replace H:=HN hb H)|(refine RG.mk ?_;(try clear hK hD);first|intro _ K hD hK|intro K hD hK)|(refine RF.mk ?_;intro hr)|(refine LF.mk ?_;(try clear hK hD);first|rfl|(simp[Av,ipF,Aw,Aq, *];done)|(simp_all [Av,ipF,Aw,Aq];done)|grind [Av,ipF,Aw,Aq]))
 refine W.loopR [0,1,7] [] (fun k0 _=>[(8,.d (.lf (.int .i64 (k0:Int))))]) (fun _ _=>[]) (l.length) (fun k0 _=>fs (ipF p) 0 l=fs (ipF p) k0 (l.drop k0)) (fun S=>()) rfl (by simp[H]) (by first|trivial|rfl|(simp;done)|(simp[Av,ipF,Aw,Aq];done)|(simp_all [Av,ipF,Aw,Aq];done)) ?_
 intro k0 hk0 s0 hi0 T hT;simp at hT;subst hT
 all_goals exact GA3
instance Sz (l:List AD) (g:Nat) (cs:List AV) (p:AD→Bool) (pp:AD→Prop) [hv:VwC cs] [hi:∀y:AD,Ct cx g (.d (bu y)::cs) (pp y) (.d (.lf (.bool (p y))))]:Ct cx 407 [.d (.sl false Bf ((l).map (AD.dd false))),.fn g cs] (∀y∈l,pp y) (.d (.lf (.int .i64 (CR l p)))):=⟨fk1 func407,fun hq h=>KC l g cs p pp hv hi hq h⟩
instance iFAC (y:AD) (g:A9):Ct cx 408 [.d (bu y),.el (Dr g)] (True) (.d (.lf (.bool (eqG y.DS g)))):=by
 refine Xi func408 8 [.tmp 3] [] [] AN trivial ?_;intro hp h M G H E
 all_goals exact GA0
instance iFA (F:List AD) (g:A9):Ct cx 361 [.d (.sl false Bf ((F).map (AD.dd false))),.d (Dr g)] (F.length≤134217728) (.d (.lf (.int .i64 (fAi F g)))):=by
 refine Xi func361 8 [.tmp 4] [] [] AN (@Z6) ?_;intro hp h M G H E
 have htr:∀y∈F,True:=(fun _ _=>trivial);replace H:=AI htr H
 repeat' (first|(refine W.fzR (id:=1) 3 3 [0] [] ?_)|(refine IN.mk ?_;intros)|(refine iTw ?_;refine T2 ?_ ?_<;>((try clear H);intro hb H)<;>try exact hb.elim)|(refine LF.mk ?_;exact LX)|refine GN ?_)
instance (priority:=2000) iFA3 (F:List AD) (tr:ByteArray) (k:Int) (n:ByteArray) (l:List A0):Ct cx 361 [.d (.sl false Bf ((F).map (AD.dd false))),.d (.st [.lf (.string tr),uK k n l])] (F.length≤134217728) (.d (.lf (.int .i64 (fAi F ⟨tr,⟨k,n,l⟩⟩)))):=⟨(iFA F ⟨tr,⟨k,n,l⟩⟩).ok,fun hp h=>by have q:=(iFA F ⟨tr,⟨k,n,l⟩⟩).cs hp h;first|exact q|simpa using q⟩
instance mg (v:List ByteArray) (m:List A0):Ct cx 411 [.d (.sl false .one ((v).map (dS))),.d (.sl false Ag ((m).map (A0.dd false)))] (v.length≤134217728) (.d (.sl true B9 (((bds v m)).map (A5.dd false)))):=by
 refine Xi func411 30 [.tmp 4] [16,24,29] [] AN (@OC) ?_;intro hp h M G H E
 repeat' (first|(refine IN.mk ?_;intros)|(refine iTw ?_;refine T2 ?_ ?_<;>((try clear H);intro hb H)<;>try (first|exact hb.elim|(exfalso;omega)))|(refine LF.mk ?_;exact LX)|refine GN ?_|(refine XL [0,1,12] [] (fun k0 _=>[(13,.d (.lf (.int .i64 (k0:Int)))),(5,.d (.sl true B9 (((bdK v m k0)).map (A5.dd false))))]) (fun _ _=>[]) (min v.length m.length) (fun _ _=>True) rU ?_;intro k0 hk0 s0 hi0;have hbl:=RM v m k0;by_cases hkv:k0<min v.length m.length;rotate_left;have hbe:bdK v m k0=bds v m:=Zj (by omega);replace H:=AI hbe H;rotate_left;have hb1:k0<v.length:=(by omega);have hb2:k0<m.length:=(by omega);have hbn:=Wb (l:=v) (m:=m) hb1 hb2;replace H:=AI hbn H)|fail)
instance iCloT (l:List A0):Ct cx 412 [.d (.sl false Ag ((l).map (A0.dd false)))] (l.length≤134217728) (.d (.sl true Ag ((l).map (A0.dd false)))):=by
 refine Xi func412 8 [.tmp 2] [6] [] AN trivial ?_;intro hp h M G H E
 repeat' (first|(refine iWL ?_;refine WL.opNil rfl 63 63 4 _ rfl rfl (by simp) underlying63 rfl trivial fun b4 hnil4=> ?_;rcases b4 with _|_;rotate_left;(have hl:l=[]:=(by have:=hnil4 rfl;simpa using this));replace H:=AI hl H;rotate_left)|(refine IN.mk ?_;intros)|(refine iTw ?_;refine T2 ?_ ?_<;>((try clear H);intro hb H)<;>try exact hb.elim)|(refine LF.mk ?_;exact LX)|refine GN ?_)
theorem Ll (c:Int) (i:Nat) (k s:ByteArray) (o:List AP) (ho:o.length≤1073741824) (lv kk:Nat) (h:HP) (hcap:hpg h lv kk=some (.d (.sl true E6 ((o).map (AP.dd true))))):CS cx.P 23 [.d (.lf (.int .i64 (c))),.d (.lf (.string (k))),.d (.lf (.string (s))),.pt lv kk [],.el (.lf (.int .i64 (i:Int)))] h (.tp []) (hps h lv kk (some (.d (.sl true E6 (((o++feA c i k s)).map (AP.dd true)))))):=by
 have hc2:=Df hcap
 have hc3:∀x:DD,hpg (upH (hps h lv kk (some (.d x)))) lv kk=some (.d x):=fun x=>Df (Er hcap)
 refine Ze func23 rfl 18 ?_
 apply Zr;intros
 iterate 2 (refine Zo ?_ (by simp[hc2,hc3]<;>omega);simp[hc2,hc3])
 exact Zx
 refine Zc rfl ?_ ?_<;>intro hb0<;>try simp at hb0
 have ht:feA c i k s=[⟨c,i,k,s⟩]:=by simp[feA,hb0]
 have hsm:True:=trivial
 apply Zs;intros
 refine Zm [10] ?_ (by simp[hc2,hc3]<;>omega);simp[hc2,hc3]
 iterate 8 (refine Zo ?_ (by simp[hc2,hc3]<;>omega);simp[hc2,hc3])
 exact Zx
 refine⟨.inl rfl,⟨_,congrArg (List.cons _) (by simp[ht,hsm])⟩,?_⟩
 simp[f23,ht]
 have ht:feA c i k s=[]:=by simp[feA,hb0]
 have hsm:=EB _ _ _ _ hcap
 refine W.skip ?_
 refine⟨.inl rfl,⟨_,congrArg (List.cons _) (by simp[ht,hsm])⟩,?_⟩
 simp[f23,ht]
instance iXe (w:A1) (v:List Nat) (e:AG):Ct cx 120 [.d (.st [As w,.sl false .one (v.map dN)]),.d (IA e)] (w.sz≤134217728) (.d (.lf (.int .i64 (FN w v e)))):=by
 refine Xi func120 130 [.tmp 4] [] [] AN (@KH) ?_;intro hp h M G H E
 have hct:=fun s=>@P5 w v s;have hcc:=fun s=>@P6 w v s;have ha0:=@MD e;have ha1:=@MC e;replace H:=AI hct (AI hcc (AI ha0 (AI ha1 H)))
 have hcl:=fun s=>ez w s
 have htz:=ET w
 have hsw:∀a b,IntKind.i64.wrap (((siR (trR w a).1 b).1.Al.length:Int)+1)=((siR (trR w a).1 b).1.Al.length:Int)+1:=fun a b=>Po (by have:=ET w a;omega) b;replace H:=AI hsw H
 all_goals exact GA1
theorem eA (w:A1) (v:List Nat) (hp:w.sz≤134217728):∀(n:Nat) (x:AG),szX x<n→∀h:HP,CS cx.P 58 [.d (.st [w.dd false,.sl false .one (v.map dN)]),.d ((x).dd false)] h (.d (.lf (.int .i64 (ckE w v x)))) h:=by
 intro n
 induction n with
 |zero=>intro x hx;omega
 |succ n ih=>
 intro x hx h
 have g1:=@Ph x;have g2:=@Pi x
 have ii:∀(e:AG),Ct cx 58 [.d (.st [As w,.sl false .one (v.map dN)]),.d (IA e)] (szX e<n) (.d (.lf (.int .i64 (ckE w v e)))):=fun e=>⟨fk1 func58,fun hp h=>by have q:=ih e hp h;first|exact q|simpa using q⟩
 refine Xe func58 rfl 47 [.tmp 4] ?_
 let M:List Nat:=[24,38]
 let G:List Nat:=[]
 have H:=AN
 repeat' (first|refine GO ?_|(refine Two.mk ?_ ?_<;>intro hb<;>(try simp at hb)<;>(try norm_cast at hb)<;>try replace H:=HN hb H)|(refine RG.mk ?_;(try clear hK hD);first|intro _ K hD hK|intro K hD hK)|(refine RF.mk ?_;intro hr)|(refine LF.mk ?_;(try clear hK hD);first|rfl|(simp[CI,amF,BN,Ax,or0, *];done)|(simp_all [CI,amF,BN,Ax,or0];done)|grind [CI,amF,BN,Ax,or0]))
 refine W.loopR [2,3,19,20] [2,3] (fun k0 _=>[(21,.d (.lf (.int .i64 (k0:Int))))]) (fun _ _=>[]) (x.AB.length) (fun k0 _=>ckE w v x=or0 (fc (ckE w v) (x.AB.drop k0)) (fc (amF w v) x.Ad)) (fun S=>()) rfl (by simp) (by first|trivial|rfl|(simp;done)|(simp[CI,amF,BN,Ax,or0];done)|(simp_all [CI,amF,BN,Ax,or0];done)) ?_
 intro k0 hk0 s0 hi0 T hT;simp at hT;subst hT
 repeat' (first|refine GO ?_|(refine Two.mk ?_ ?_<;>intro hb<;>(try simp at hb)<;>(try norm_cast at hb)<;>try replace H:=HN hb H)|(refine RG.mk ?_;(try clear hK hD);first|intro _ K hD hK|intro K hD hK)|(refine RF.mk ?_;intro hr)|(refine LF.mk ?_;(try clear hK hD);first|rfl|(simp[CI,amF,BN,Ax,or0, *];done)|(simp_all [CI,amF,BN,Ax,or0];done)|grind [CI,amF,BN,Ax,or0]))
 have hx1:ckE w v x=fc (amF w v) x.Ad:=by rw[hi0,Ax (by omega),E8]
 clear hi0
 refine W.loopR [2,33,34] [2] (fun k1 _=>[(35,.d (.lf (.int .i64 (k1:Int))))]) (fun _ _=>[]) (x.Ad.length) (fun k1 _=>ckE w v x=fc (amF w v) (x.Ad.drop k1)) (fun S=>()) rfl (by simp) (by simpa using hx1) ?_
 intro k1 hk1 s1 hi1 T hT;simp at hT;subst hT
 repeat' (first|refine GO ?_|(refine Two.mk ?_ ?_<;>intro hb<;>(try simp at hb)<;>(try norm_cast at hb)<;>try replace H:=HN hb H)|(refine RG.mk ?_;(try clear hK hD);first|intro _ K hD hK|intro K hD hK)|(refine RF.mk ?_;intro hr)|(refine LF.mk ?_;(try clear hK hD);first|rfl|(simp[CI,amF,BN,Ax,or0, *];done)|(simp_all [CI,amF,BN,Ax,or0];done)|grind [CI,amF,BN,Ax,or0]))
theorem e9 (w:A1) (v:List Nat) (x:AG) (hp:w.sz≤134217728) (h:HP):CS cx.P 58 [.d (.st [w.dd false,.sl false .one (v.map dN)]),.d ((x).dd false)] h (.d (.lf (.int .i64 (ckE w v x)))) h:=eA w v hp _ x (Nat.lt_succ_self _) h
instance ma (w:A1) (v:List Nat) (e:AG):Ct cx 58 [.d (.st [As w,.sl false .one (v.map dN)]),.d (IA e)] (w.sz≤134217728) (.d (.lf (.int .i64 (ckE w v e)))):=⟨fk1 func58,fun hp h=>by have q:=e9 w v e hp h;first|exact q|simpa using q⟩
