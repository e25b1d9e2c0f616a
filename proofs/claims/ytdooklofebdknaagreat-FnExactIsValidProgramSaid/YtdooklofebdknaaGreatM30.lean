/- Part 30. No condition. -/
import Derived.Test.YtdooklofebdknaaGreatM27
import Derived.Test.YtdooklofebdknaaGreatM29
namespace Go.Proofs.YtdooklofebdknaaGreat
open Go.RowKit Classical Tryz
set_option linter.unusedVariables false
set_option maxRecDepth 10000
set_option linter.unusedSimpArgs false
set_option maxHeartbeats 4000000
theorem cZ (x:A1) (i:Int) (hz:x.sz≤134217728) (h:HP):CS cx.P 237 [.d ((x).dd false),.d (.lf (.int .i64 (i)))] h (.d (.sl false .one ((vis x i).map (dN)))) h:=by
 have q:=CS.vw (ca x i hz h)
 simpa using q
instance mE (x lo hi:Int):Ct cx 38 [.d (.lf (.int .i64 (x))),.d (.lf (.int .i64 (lo))),.d (.lf (.int .i64 (hi)))] (True) (.d (.lf (.bool (Ay x lo hi)))):=⟨fk1 func38,fun hp h=>by have q:=Fe x lo hi h;first|exact q|simpa using q⟩
instance ip (s:ByteArray):Ct cx 239 [.d (.lf (.string (s)))] (True) (.d (.lf (.bool (Cp s)))):=⟨fk1 func239,fun hp h=>by have q:=Gq s h;first|exact q|simpa using q⟩
instance dV (l:List Nat) (s:Nat):Ct cx 236 [.d (.sl false .one ((l).map (dN))),.d (.lf (.int .i64 ((s:Nat):Int)))] (l.length≤4294967296) (.d (.lf (.bool (F7 l s)))):=⟨fk1 func236,fun hp h=>by have q:=JJ l s hp h;first|exact q|simpa using q⟩
instance lO (w:A1) (i:Int):Ct cx 237 [.d (As w),.d (.lf (.int .i64 (i)))] (w.sz≤134217728) (.d (.sl false .one ((vis w i).map (dN)))):=⟨fk1 func237,fun hp h=>by have q:=(cZ w i hp) h;first|exact q|simpa using q⟩
instance lZ (w:A1) (i:Int) (k:Nat):Ct cx 165 [.d (As w),.d (.lf (.int .i64 (i))),.d (.lf (.int .i64 ((k:Nat):Int)))] (w.sz≤134217728) (.d (.lf (.bool (F7 (vis w i) k)))):=by
 refine Xi func165 12 [.tmp 6] [] [] AN trivial ?_;intro hp h M G H E
 have hvl:=Wx (x:=w) (i:=i)
 have hz2:=w.sz_eq;unfold szs at hz2
 exact GA0
instance sTrAt (w:A1) (s:ByteArray):Ct cx 164 [.d (As w),.d (.lf (.string (s)))] (True) (.tp [.d (((trR w s).1).dd false),.d (.lf (.int .i64 (((trR w s).2.1:Nat):Int))),.d (.lf (.bool ((trR w s).2.2)))]):=by
 refine Xiv func164 50 [.cell 4 57,.tmp 5,.tmp 6] [47] [] AN (AI @trR.eq_1<|AI @DW.eq_def<|AI @nmF.eq_1<|AI @Aw<|AI @Aq<|@zTr.eq_1) ?_;intro hp h M G H E
 repeat' (first|(refine IN.mk ?_;intros)|(refine iTw ?_;refine T2 ?_ ?_<;>((try clear H);intro hb H)<;>try exact hb.elim)|(refine LF.mk ?_;exact LX)|refine GN ?_|(refine XC [1,2,4] [2,4] 7 (w.A2.length) (fun k0=>inP A8.Ai AS.A6 w s=fs (inF A8.Ai AS.A6 s) k0 (w.A2.drop k0)) ?_;intro k0 hk0 hi0)|(refine XC [1,2,4,7] [2,4] 8 (w.A2[k0].Ai.length) (fun k1=>inF A8.Ai AS.A6 s k0 w.A2[k0]=fs (nmF AS.A6 s k0) k1 (w.A2[k0].Ai.drop k1)) ?_;intro k1 hk1 hi1)|fail)
instance sTrV (w:A1) (i:Int) (s:ByteArray):Ct cx 94 [.d (As w),.d (.lf (.int .i64 (i))),.d (.lf (.string (s)))] (w.sz≤134217728) (.tp [.d (((trR w s).1).dd false),.d (.lf (.bool (trV w (vis w i) s)))]):=by
 refine Xiv func94 26 [.cell 6 57,.tmp 7] [18] [] AN (@trV.eq_1) ?_;intro hp h M G H E
 exact GA1
def Wp {α:Type} (v:ByteArray) (g:Nat) (k:Nat) (val:α→DD) (step:A0→α→α) (sz:α→Nat):Prop:=∀y:A0,y.sz≤134217728→∀c:α,sz c<1073741824→∀(lv:Nat) (h:HP),hpg h lv k=some (.d (val c))→CS cx.P g [.d (y.dd false),.el (.lf (.string v)),.pt lv k []] h (.tp []) (hps h lv k (some (.d (val (step y c)))))
def cnS (v:ByteArray) (y:A0) (c:Nat):Nat:=if (decide (y.AH=1) && decide (y.A6=v))=true then c+1 else c
theorem f8 (v:ByteArray) (y:A0) (c:Nat):cnS v y c≤c+1:=by unfold cnS;split<;>omega
mutual
theorem Jc (v:ByteArray):∀(x:A0) (c:Nat),ev (cnS v) x c=c+occ v x
 |⟨k,n,l⟩,c=>by
  simp only[ev,Vk v l,occ,cnS]
  by_cases h1:k=1<;>by_cases h2:n=v<;>simp[h1,h2]<;>omega
theorem Vk (v:ByteArray):∀(l:List A0) (c:Nat),evs (cnS v) l c=c+DV v l
 |[],c=>by simp[evs,DV]
 |x::l,c=>by simp only[evs,DV,Jc v x,Vk v l];omega
end
theorem Nr {α:Type} (x:A0) (hz:x.sz≤134217728) (v:ByteArray) (g:Nat) (fn:Func) (body:Code) (hg:CT cx.P g fn body) (k:Nat) (val:α→DD) (step:A0→α→α) (sz:α→Nat) (hsz:∀y c,sz (step y c)≤sz c+1) (hv:Wp v g k val step sz) (c:α) (hc:sz c+AQ x≤1073741824) (lv:Nat) (ih:∀y∈x.AB,∀c,sz c+AQ y≤1073741824→∀(lv:Nat) (h:HP),hpg h lv k=some (.d (val c))→CS cx.P 255 [.d (y.dd false),.fn g [.el (.lf (.string v)),.pt lv k []]] h (.tp []) (hps h lv k (some (.d (val (ev step y c)))))) (h:HP) (hcap:hpg h lv k=some (.d (val c))):CS cx.P 255 [.d (x.dd false),.fn g [.el (.lf (.string v)),.pt lv k []]] h (.tp []) (hps h lv k (some (.d (val (ev step x c))))):=by
 have hz2:=x.sz_eq;unfold szs at hz2
 have hc2:=Df hcap
 have hts:0<AQ x:=by cases x;simp only[AQ];omega
 refine Ze func255 rfl 20 ?_
 apply Zr;intros
 refine Zo ?_;simp
 exact Zx
 apply Zr;intros
 iterate 2 (refine Zo ?_;simp)
 refine WL.call [] _ _ _ rfl rfl (by simp) (g:=g) (caps:=[.el (.lf (.string v)),.pt (lv+1) k []]) (by simp) (by simp) hg rfl (by simp) (by simp) (by simp) (hv x hz c (by omega) (lv+1) _ (by simpa using hc2)) rfl ?_;simp
 exact Zx
 apply Zr;intros
 iterate 4 (refine Zo ?_;simp)
 exact Zx
 refine W.block ?_
 refine W.loopT [1,10,11] [] (fun k0=>[(12,.d (.lf (.int .i64 (k0:Int))))]) (fun _=>[]) x.AB.length (fun k0=>hps h lv k (some (.d (val (evK step x c k0))))) (by simp[Jd]) (by simp) fun k0 hk0 T hT=> ?_
 simp at hT;subst hT
 apply Zr;intros
 refine Zo ?_;simp
 exact Zx
 refine Zv rfl ?_ ?_<;>intro hb0<;>try simp at hb0
 have hx:=B1 hb0 (by omega)
 have hs:=Je (step:=step) (c:=c) hb0
 refine W.skip ?_
 refine Zb ?_
 apply Zr;intros
 refine Zo ?_ (by simp[hb0,hx]<;>omega);simp[hb0,hx]
 refine Zm [15] ?_ (by simp[hb0,hx]<;>omega);simp[hb0,hx]
 iterate 2 (refine Zo ?_ (by simp[hb0,hx]<;>omega);simp[hb0,hx])
 exact Zx
 apply Zs;intros
 iterate 2 (refine Zo ?_ (by simp[hb0,hx]<;>omega);simp[hb0,hx])
 refine Zl [] rfl func255 (ih x.AB[k0] (gm hb0) (evK step x c k0) (by have:=Vp hsz (c:=c) hb0;omega) (lv+1) _ (by simpa using Df (Er hcap))) ?_ (by simp[hb0,hx]);simp[hb0,hx]
 exact Zx
 apply Zs;intros
 iterate 2 (refine Zo ?_ (by simp[hb0,hx]<;>omega);simp[hb0,hx])
 exact Zx
 refine⟨hb0,Wz.toT (by simp[hs]) rfl ?_⟩
 simp
 have hkl:k0=x.AB.length:=by omega
 subst hkl
 simp only[Jf]
 refine W.exit ?_
 refine⟨.inl rfl,⟨_,rfl⟩,?_⟩
 simp[f255]
theorem I6 {α:Type} (x:A0) (hz:x.sz≤134217728) (v:ByteArray) (g:Nat) (fn:Func) (body:Code) (hg:CT cx.P g fn body) (k:Nat) (val:α→DD) (step:A0→α→α) (sz:α→Nat) (hsz:∀y c,sz (step y c)≤sz c+1) (hv:Wp v g k val step sz) (c:α) (hc:sz c+AQ x≤1073741824) (lv:Nat) (h:HP) (hcap:hpg h lv k=some (.d (val c))):CS cx.P 255 [.d (x.dd false),.fn g [.el (.lf (.string v)),.pt lv k []]] h (.tp []) (hps h lv k (some (.d (val (ev step x c))))):=Nr x hz v g fn body hg k val step sz hsz hv c hc lv (fun y hy c hc lv h hcap=>I6 y (by have h1:=Ah A0.sz hy;have h2:=x.sz_eq;unfold szs at h2;omega) v g fn body hg k val step sz hsz hv c hc lv h hcap) h hcap
termination_by SizeOf.sizeOf x
decreasing_by have:=List.sizeOf_lt_of_mem hy;have:=x.lt_fArgs;omega
theorem ZQ (v:ByteArray) (y:A0) (c:Nat) (hcl:c<1073741824) (lv k:Nat) (h:HP) (hcap:hpg h lv k=some (.d (.lf (.int .i64 ((c:Nat):Int))))):CS cx.P 357 [.d (y.dd false),.el (.lf (.string v)),.pt lv k []] h (.tp []) (hps h lv k (some (.d (.lf (.int .i64 ((cnS v y c:Nat):Int)))))):=by
 have hc2:=Df hcap
 have hw:IntKind.i64.wrap ((c:Int)+1)=((c+1:Nat):Int):=by rw[BF (by omega) (by omega)];omega
 refine Ze func357 rfl 15 ?_
 apply Zr;intros
 refine Zo ?_ (by simp[hc2,hw]<;>omega);simp[hc2,hw]
 exact Zx
 refine W.seq ?_
 refine W.regJ (D:=_) [2] [] [(12,.d (.lf (.bool (decide (y.AH=1) && decide (y.A6=v)))))] [] rfl (fun _ K hD hK=> ?_) fun T hT=> ?_
 iterate 4 (refine Zo ?_ (by simp[hc2,hw]<;>omega);simp[hc2,hw])
 refine WL.split 7 _ rfl (fun g7=> ?_) fun g7=> ?_<;>try simp at g7
 simp[hc2,hw]
 iterate 4 (refine Zg hD rfl rfl ?_ (by simp[hc2,hw]<;>omega);simp[hc2,hw])
 refine Zo ?_ (by simp[hc2,hw]<;>omega);simp[hc2,hw]
 refine WL.nil (hK _ (Wz.to rfl rfl rfl ?_))
 simp[g7]
 simp[hc2,hw]
 iterate 4 (refine Zn hD rfl rfl ?_;simp[hc2,hw])
 refine Zo ?_ (by simp[hc2,hw]<;>omega);simp[hc2,hw]
 refine WL.nil (hK _ (Wz.to rfl rfl rfl ?_))
 simp[g7]
 simp at hT;subst hT
 refine Zc rfl ?_ ?_<;>intro hb0<;>try simp at hb0
 have ht:cnS v y c=c+1:=by unfold cnS;rw[if_pos (by simpa using hb0)]
 have hsm:True:=trivial
 apply Zs;intros
 iterate 3 (refine Zo ?_ (by simp[hc2,hw]<;>omega);simp[hc2,hw])
 exact Zx
 refine⟨.inl rfl,⟨_,congrArg (List.cons _) (by simp[ht,hsm])⟩,?_⟩
 simp[f357,ht]
 have ht:cnS v y c=c:=by unfold cnS;rw[if_neg (by simpa using hb0)]
 have hsm:=EB _ _ _ _ hcap
 refine W.skip ?_
 refine⟨.inl rfl,⟨_,congrArg (List.cons _) (by simp[ht,hsm])⟩,?_⟩
 simp[f357,ht]
instance gIn_i (x lo hi:Int):Ct cx 38 [.d (.lf (.int .i64 (x))),.d (.lf (.int .i64 (lo))),.d (.lf (.int .i64 (hi)))] (True) (.d (.lf (.bool (Ay x lo hi)))):=⟨fk1 func38,fun hp h=>by have q:=Fe x lo hi h;first|exact q|simpa using q⟩
instance kI (s:ByteArray):Ct cx 239 [.d (.lf (.string (s)))] (True) (.d (.lf (.bool (Cp s)))):=⟨fk1 func239,fun hp h=>by have q:=Gq s h;first|exact q|simpa using q⟩
instance nM (s:ByteArray):Ct cx 192 [.d (.lf (.string (s)))] (True) (.d (.lf (.bool (Cp s)))):=⟨fk1 func192,fun hp h=>by have q:=EJ s h;first|exact q|simpa using q⟩
instance nE (s:ByteArray):Ct cx 158 [.d (.lf (.string (s)))] (True) (.d (.lf (.bool (B6 rsv s)))):=⟨fk1 func158,fun hp h=>by have q:=Hz s h;first|exact q|simpa using q⟩
instance kG (s:ByteArray):Ct cx 176 [.d (.lf (.string (s)))] (True) (.d (.lf (.bool (B6 rsv s)))):=⟨fk1 func176,fun hp h=>by have q:=I1 s h;first|exact q|simpa using q⟩
instance nK (n:Int):Ct cx 174 [.d (.lf (.int .u8 (n)))] (True) (.d (.lf (.bool (low n)))):=⟨fk1 func174,fun hp h=>by have q:=Ki n h;first|exact q|simpa using q⟩
instance nL (n:Int):Ct cx 175 [.d (.lf (.int .u8 (n)))] (True) (.d (.lf (.bool (dig n)))):=⟨fk1 func175,fun hp h=>by have q:=Kj n h;first|exact q|simpa using q⟩
noncomputable def HX (w:A1) (l out:List ByteArray):List ByteArray:=if h:∃n r,sup w n l out=some r then h.choose_spec.choose else []
theorem Pk {w:A1} {n m:Nat} {l out r r2:List ByteArray} (h:sup w n l out=some r) (k:sup w m l out=some r2):r=r2:=by
 have h1:=LJ (Nat.le_max_left n m) h
 have h2:=LJ (Nat.le_max_right n m) k
 rw[h1] at h2;exact Option.some.inj h2
theorem IQ {w:A1} {n:Nat} {l out r:List ByteArray} (h:sup w n l out=some r):HX w l out=r:=by
 have hh:∃n r,sup w n l out=some r:=⟨n,r,h⟩
 unfold HX
 rw[dif_pos hh]
 exact Pk hh.choose_spec.choose_spec h
def SP (w:A1) (B n:Nat) (s:ByteArray) (out:List ByteArray):Prop:=∃m,m<n∧∃r,sup w m (Ak w s) out=some r∧r.length≤B
def SI (w:A1) (B n:Nat) (l R:List ByteArray) (k:Nat) (out:List ByteArray):Prop:=∃m,m≤n∧sup w m (l.drop k) out=some R∧R.length≤B
theorem FW {w:A1}:∀(n:Nat) (l out r:List ByteArray),sup w n l out=some r→out.length≤r.length
 |n,[],out,r,h=>by cases n<;>(simp[sup] at h;subst h;exact Nat.le_refl _)
 |0,_::_,_,_,h=>by simp[sup] at h
 |n+1,s::l,out,r,h=>by
  rw[sup] at h
  by_cases e:B6 out s=true
  ·rw[if_pos e] at h;exact FW n l out r h
  ·rw[if_neg e] at h
   cases h1:sup w n (Ak w s) (out++[s]) with
   |none=>rw[h1] at h;cases h
   |some o=>
    rw[h1] at h
    have:=FW n _ _ _ h1;have:=FW n _ _ _ h
    simp at*;omega
theorem SI.end {w:A1} {B n k:Nat} {l R out:List ByteArray} (h:SI w B n l R k out) (hk:l.length≤k):out=R:=by
 obtain⟨m, -,h1, -⟩:=h
 rw[List.drop_eq_nil_of_le hk] at h1
 cases m<;>simpa[sup] using h1
theorem SI.len {w:A1} {B n k:Nat} {l R out:List ByteArray} (h:SI w B n l R k out):out.length≤B:=by
 obtain⟨m, -,h1,h2⟩:=h
 have:=FW m _ _ _ h1;omega
theorem SI.has {w:A1} {B n k:Nat} {l R out:List ByteArray} (h:SI w B n l R k out) (hk:k<l.length) (e:B6 out l[k]=true):SI w B n l R (k+1) out:=by
 obtain⟨m,h0,h1,h2⟩:=h
 rw[List.drop_eq_getElem_cons hk] at h1
 cases m with
 |zero=>simp[sup] at h1
 |succ m=>rw[sup,if_pos e] at h1;exact⟨m,by omega,h1,h2⟩
theorem SI.not {w:A1} {B n k:Nat} {l R out:List ByteArray} (h:SI w B n l R k out) (hk:k<l.length) (e:B6 out l[k]=false):SP w B n l[k] (out++[l[k]])∧SI w B n l R (k+1) (HX w (Ak w l[k]) (out++[l[k]])):=by
 obtain⟨m,h0,h1,h2⟩:=h
 rw[List.drop_eq_getElem_cons hk] at h1
 cases m with
 |zero=>simp[sup] at h1
 |succ m=>
  rw[sup,if_neg (by rw[e];simp)] at h1
  cases hq:sup w m (Ak w l[k]) (out++[l[k]]) with
  |none=>rw[hq] at h1;cases h1
  |some o=>
   rw[hq] at h1
   have:=FW m _ _ _ h1
   exact⟨⟨m,by omega,o,hq,by omega⟩,⟨m,by omega,by rw[IQ hq];exact h1,h2⟩⟩
theorem SP.start {w:A1} {B n:Nat} {s:ByteArray} {out:List ByteArray} (h:SP w B (n+1) s out):SI w B n (Ak w s) (HX w (Ak w s) out) 0 out:=by
 obtain⟨m,h0,r,h1,h2⟩:=h
 exact⟨m,by omega,by rw[IQ h1];simpa using h1,by rw[IQ h1];exact h2⟩
def Zu:AV→List ByteArray
 | .d (.sl _ _ es)=>es.filterMap fun
  | .lf (.string s)=>some s
  |_=>none
 |_=>[]
theorem Wc (o:Bool) (s:Sh) (l:List ByteArray):Zu (.d (.sl o s (l.map dS)))=l:=by
 unfold Zu;induction l with
 |nil=>rfl
 |cons x l ih=>simp only[List.map_cons,dS,List.filterMap_cons];simp only[dS] at ih;rw[ih]
attribute [simp] Wc
instance jy (l:List ByteArray) (s:ByteArray):Ct cx 92 [.d (.sl false .one ((l).map (dS))),.d (.lf (.string (s)))] (l.length≤134217728) (.d (.lf (.bool (B6 l s)))):=⟨fk1 func92,fun hp h=>by have q:=F6 l s (by omega) h;first|exact q|simpa using q⟩
instance mW (l:List ByteArray) (s:ByteArray):Ct cx 115 [.d (.sl false .one ((l).map (dS))),.d (.lf (.string (s)))] (l.length≤134217728) (.d (.lf (.bool (B6 l s)))):=⟨fk1 func115,fun hp h=>by have q:=DY l s (by omega) h;first|exact q|simpa using q⟩
instance iTrAt (w:A1) (s:ByteArray):Ct cx 117 [.d (As w),.d (.lf (.string (s)))] (True) (.tp [.d (((trR w s).1).dd false),.d (.lf (.int .i64 (((trR w s).2.1:Nat):Int))),.d (.lf (.bool ((trR w s).2.2)))]):=by
 refine Xiv func117 35 [.cell 4 57,.tmp 5,.tmp 6] [18,25,30] [] AN (AI @trR.eq_1<|AI @DW.eq_def<|AI @nmF.eq_1<|AI @Aw<|AI @Aq<|@zTr.eq_1) ?_;intro hp h M G H E
 repeat' (first|(refine IN.mk ?_;intros)|(refine iTw ?_;refine T2 ?_ ?_<;>((try clear H);intro hb H)<;>try exact hb.elim)|(refine LF.mk ?_;exact LX)|refine GN ?_|(refine XC [1,4,12,13] [4] 14 (w.A2.length) (fun k0=>inP A8.Ai AS.A6 w s=fs (inF A8.Ai AS.A6 s) k0 (w.A2.drop k0)) ?_;intro k0 hk0 hi0)|(refine XC [1,4,7,12,13,14,20,21] [4] 22 (w.A2[k0].Ai.length) (fun k1=>inF A8.Ai AS.A6 s k0 w.A2[k0]=fs (nmF AS.A6 s k0) k1 (w.A2[k0].Ai.drop k1)) ?_;intro k1 hk1 hi1)|fail)
instance iDaAt (w:A1) (s:ByteArray):Ct cx 263 [.d (As w),.d (.lf (.string (s)))] (True) (.tp [.d (((daR w s).1).dd false),.d (.lf (.int .i64 (((daR w s).2.1:Nat):Int))),.d (.lf (.bool ((daR w s).2.2)))]):=by
 refine Xiv func263 35 [.cell 4 61,.tmp 5,.tmp 6] [18,25,30] [] AN (AI @daR.eq_1<|AI @DW.eq_def<|AI @nmF.eq_1<|AI @Aw<|AI @Aq<|@zDa.eq_1) ?_;intro hp h M G H E
 repeat' (first|(refine IN.mk ?_;intros)|(refine iTw ?_;refine T2 ?_ ?_<;>((try clear H);intro hb H)<;>try exact hb.elim)|(refine LF.mk ?_;exact LX)|refine GN ?_|(refine XC [1,4,12,13] [4] 14 (w.A2.length) (fun k0=>inP A8.AE AF.A6 w s=fs (inF A8.AE AF.A6 s) k0 (w.A2.drop k0)) ?_;intro k0 hk0 hi0)|(refine XC [1,4,7,12,13,14,20,21] [4] 22 (w.A2[k0].AE.length) (fun k1=>inF A8.AE AF.A6 s k0 w.A2[k0]=fs (nmF AF.A6 s k0) k1 (w.A2[k0].AE.drop k1)) ?_;intro k1 hk1 hi1)|fail)
instance iFnAt (w:A1) (s:ByteArray):Ct cx 265 [.d (As w),.d (.lf (.string (s)))] (True) (.tp [.d (((fnR w s).1).dd false),.d (.lf (.int .i64 (((fnR w s).2.1:Nat):Int))),.d (.lf (.bool ((fnR w s).2.2)))]):=by
 refine Xiv func265 35 [.cell 4 77,.tmp 5,.tmp 6] [18,25,30] [] AN (AI @fnR.eq_1<|AI @DW.eq_def<|AI @nmF.eq_1<|AI @Aw<|AI @Aq<|AI @zFn.eq_1<|AI @zT.eq_1<|@zX.eq_1) ?_;intro hp h M G H E
 repeat' (first|(refine IN.mk ?_;intros)|(refine iTw ?_;refine T2 ?_ ?_<;>((try clear H);intro hb H)<;>try exact hb.elim)|(refine LF.mk ?_;exact LX)|refine GN ?_|(refine XC [1,4,12,13] [4] 14 (w.A2.length) (fun k0=>inP A8.Ac AL.A6 w s=fs (inF A8.Ac AL.A6 s) k0 (w.A2.drop k0)) ?_;intro k0 hk0 hi0)|(refine XC [1,4,7,12,13,14,20,21] [4] 22 (w.A2[k0].Ac.length) (fun k1=>inF A8.Ac AL.A6 s k0 w.A2[k0]=fs (nmF AL.A6 s k0) k1 (w.A2[k0].Ac.drop k1)) ?_;intro k1 hk1 hi1)|fail)
instance iCtAt (w:A1) (s:ByteArray):Ct cx 266 [.d (As w),.d (.lf (.string (s)))] (True) (.tp [.d (((ctR w s).1).dd false),.d (.lf (.int .i64 (((ctR w s).2.1:Nat):Int))),.d (.lf (.bool ((ctR w s).2.2)))]):=by
 refine Xiv func266 45 [.cell 4 61,.tmp 5,.tmp 6] [19,26,34,39] [] AN (AI @ctR.eq_1<|AI @DW.eq_def<|AI @ctF.eq_1<|AI @Aw<|AI @Aq<|@zDa.eq_1) ?_;intro hp h M G H E
 repeat' (first|(refine IN.mk ?_;intros)|(refine iTw ?_;refine T2 ?_ ?_<;>((try clear H);intro hb H)<;>try exact hb.elim)|(refine LF.mk ?_;exact LX)|refine GN ?_|(refine XC [1,4,14,15] [4] 16 (w.A2.length) (fun k0=>fs (ctH s) 0 w.A2=fs (ctH s) k0 (w.A2.drop k0)) ?_;intro k0 hk0 hi0)|(refine XC [1,4,14,15,16,21,22] [4] 23 (w.A2[k0].AE.length) (fun k1=>ctH s k0 w.A2[k0]=fs (ctG s) k1 (w.A2[k0].AE.drop k1)) ?_;intro k1 hk1 hi1)|(refine XC [1,4,10,14,15,16,21,22,23,28,29] [4,10] 30 (w.A2[k0].AE[k1].A4.length) (fun k2=>ctG s k1 w.A2[k0].AE[k1]=fs (ctF s w.A2[k0].AE[k1]) k2 (w.A2[k0].AE[k1].A4.drop k2)) ?_;intro k2 hk2 hi2)|fail)
theorem Li (l:List AC) (g:Nat) (cs:List AV) (p:AC→Bool) (pp:AC→Prop) (hv:VwC cs) (hi:∀y:AC,Ct cx g (.d (K6 y)::cs) (pp y) (.d (.lf (.bool (p y))))) (hq:∀y∈l,pp y) (h:HP):CS cx.P 388 [.d (.sl false CM ((l).map (AC.dd false))),.fn g cs] h (.d (.lf (.int .i64 (CR l p)))) h:=by
 refine Xe func388 rfl 19 [.tmp 4] ?_
 let M:List Nat:=[]
 let G:List Nat:=[]
 have H:=AN
 have hq2:∀k (hk:k<l.length),pp l[k]:=fun k hk=>hq _ (gm hk)
 replace H:=AI hv.all H
 repeat' (first|refine GO ?_|(refine Two.mk ?_ ?_<;>intro hb<;>(try simp at hb)<;>(try norm_cast at hb)<;>try replace H:=HN hb H)|(refine RG.mk ?_;(try clear hK hD);first|intro _ K hD hK|intro K hD hK)|(refine RF.mk ?_;intro hr)|(refine LF.mk ?_;(try clear hK hD);first|rfl|(simp[Av,ipF,Aw,Aq, *];done)|(simp_all [Av,ipF,Aw,Aq];done)|grind [Av,ipF,Aw,Aq]))
 refine W.loopR [0,1,7] [] (fun k0 _=>[(8,.d (.lf (.int .i64 (k0:Int))))]) (fun _ _=>[]) (l.length) (fun k0 _=>fs (ipF p) 0 l=fs (ipF p) k0 (l.drop k0)) (fun S=>()) rfl (by simp[H]) (by first|trivial|rfl|(simp;done)|(simp[Av,ipF,Aw,Aq];done)|(simp_all [Av,ipF,Aw,Aq];done)) ?_
 intro k0 hk0 s0 hi0 T hT;simp at hT;subst hT
 exact GA3
instance VG (l:List AC) (g:Nat) (cs:List AV) (p:AC→Bool) (pp:AC→Prop) [hv:VwC cs] [hi:∀y:AC,Ct cx g (.d (K6 y)::cs) (pp y) (.d (.lf (.bool (p y))))]:Ct cx 388 [.d (.sl false CM ((l).map (AC.dd false))),.fn g cs] (∀y∈l,pp y) (.d (.lf (.int .i64 (CR l p)))):=⟨fk1 func388,fun hq h=>Li l g cs p pp hv hi hq h⟩
theorem YX (l:List A0) (g:Nat) (cs:List AV) (p:A0→Bool) (pp:A0→Prop) (hv:VwC cs) (hi:∀y:A0,Ct cx g (.d (Md y)::cs) (pp y) (.d (.lf (.bool (p y))))) (hq:∀y∈l,pp y) (h:HP):CS cx.P 321 [.d (.sl false Ag ((l).map (A0.dd false))),.fn g cs] h (.d (.lf (.int .i64 (CR l p)))) h:=by
 refine Xe func321 rfl 19 [.tmp 4] ?_
 let M:List Nat:=[]
 let G:List Nat:=[]
 have H:=AN
 have hq2:∀k (hk:k<l.length),pp l[k]:=fun k hk=>hq _ (gm hk)
 replace H:=AI hv.all H
 repeat' (first|refine GO ?_|(refine Two.mk ?_ ?_<;>intro hb<;>(try simp at hb)<;>(try norm_cast at hb)<;>try replace H:=HN hb H)|(refine RG.mk ?_;(try clear hK hD);first|intro _ K hD hK|intro K hD hK)|(refine RF.mk ?_;intro hr)|(refine LF.mk ?_;(try clear hK hD);first|rfl|(simp[Av,ipF,Aw,Aq, *];done)|(simp_all [Av,ipF,Aw,Aq];done)|grind [Av,ipF,Aw,Aq]))
 refine W.loopR [0,1,7] [] (fun k0 _=>[(8,.d (.lf (.int .i64 (k0:Int))))]) (fun _ _=>[]) (l.length) (fun k0 _=>fs (ipF p) 0 l=fs (ipF p) k0 (l.drop k0)) (fun S=>()) rfl (by simp[H]) (by first|trivial|rfl|(simp;done)|(simp[Av,ipF,Aw,Aq];done)|(simp_all [Av,ipF,Aw,Aq];done)) ?_
 intro k0 hk0 s0 hi0 T hT;simp at hT;subst hT
 exact GA3
instance fh (l:List A0) (g:Nat) (cs:List AV) (p:A0→Bool) (pp:A0→Prop) [hv:VwC cs] [hi:∀y:A0,Ct cx g (.d (Md y)::cs) (pp y) (.d (.lf (.bool (p y))))]:Ct cx 321 [.d (.sl false Ag ((l).map (A0.dd false))),.fn g cs] (∀y∈l,pp y) (.d (.lf (.int .i64 (CR l p)))):=⟨fk1 func321,fun hq h=>YX l g cs p pp hv hi hq h⟩
theorem dh (l:List Ab) (g:Nat) (cs:List AV) (p:Ab→Bool) (pp:Ab→Prop) (hv:VwC cs) (hi:∀y:Ab,Ct cx g (.d (bz y)::cs) (pp y) (.d (.lf (.bool (p y))))) (hq:∀y∈l,pp y) (h:HP):CS cx.P 330 [.d (.sl false BJ ((l).map (Ab.dd false))),.fn g cs] h (.d (.lf (.int .i64 (CR l p)))) h:=by
 refine Xe func330 rfl 19 [.tmp 4] ?_
 let M:List Nat:=[]
 let G:List Nat:=[]
 have H:=AN
 have hq2:∀k (hk:k<l.length),pp l[k]:=fun k hk=>hq _ (gm hk)
 replace H:=AI hv.all H
 repeat' (first|refine GO ?_|(refine Two.mk ?_ ?_<;>intro hb<;>(try simp at hb)<;>(try norm_cast at hb)<;>try replace H:=HN hb H)|(refine RG.mk ?_;(try clear hK hD);first|intro _ K hD hK|intro K hD hK)|(refine RF.mk ?_;intro hr)|(refine LF.mk ?_;(try clear hK hD);first|rfl|(simp[Av,ipF,Aw,Aq, *];done)|(simp_all [Av,ipF,Aw,Aq];done)|grind [Av,ipF,Aw,Aq]))
 refine W.loopR [0,1,7] [] (fun k0 _=>[(8,.d (.lf (.int .i64 (k0:Int))))]) (fun _ _=>[]) (l.length) (fun k0 _=>fs (ipF p) 0 l=fs (ipF p) k0 (l.drop k0)) (fun S=>()) rfl (by simp[H]) (by first|trivial|rfl|(simp;done)|(simp[Av,ipF,Aw,Aq];done)|(simp_all [Av,ipF,Aw,Aq];done)) ?_
 intro k0 hk0 s0 hi0 T hT;simp at hT;subst hT
 exact GA3
instance iu (l:List Ab) (g:Nat) (cs:List AV) (p:Ab→Bool) (pp:Ab→Prop) [hv:VwC cs] [hi:∀y:Ab,Ct cx g (.d (bz y)::cs) (pp y) (.d (.lf (.bool (p y))))]:Ct cx 330 [.d (.sl false BJ ((l).map (Ab.dd false))),.fn g cs] (∀y∈l,pp y) (.d (.lf (.int .i64 (CR l p)))):=⟨fk1 func330,fun hq h=>dh l g cs p pp hv hi hq h⟩
theorem M3 (l:List AC) (g:Nat) (cs:List AV) (p:AC→Bool) (pp:AC→Prop) [hv:VwC cs] [hi:∀y:AC,Ct cx g (.d (K6 y)::cs) (pp y) (.d (.lf (.bool (p y))))] (hq:∀y∈l,pp y) (h:HP):CS cx.P 328 [.d (.sl false CM ((l).map (AC.dd false))),.fn g cs] h (.d (.lf (.bool (l.any p)))) h:=by
 refine Xe func328 rfl 9 [.tmp 4] ?_
 let M:List Nat:=[]
 let G:List Nat:=[]
 have H:=AN
 replace H:=AI hv.all H
 exact GA5
instance WD (l:List AC) (g:Nat) (cs:List AV) (p:AC→Bool) (pp:AC→Prop) [hv:VwC cs] [hi:∀y:AC,Ct cx g (.d (K6 y)::cs) (pp y) (.d (.lf (.bool (p y))))]:Ct cx 328 [.d (.sl false CM ((l).map (AC.dd false))),.fn g cs] (∀y∈l,pp y) (.d (.lf (.bool (l.any p)))):=⟨fk1 func328,fun hq h=>M3 l g cs p pp hq h⟩
theorem ZO (l:List A0) (g:Nat) (cs:List AV) (p:A0→Bool) (pp:A0→Prop) [hv:VwC cs] [hi:∀y:A0,Ct cx g (.d (Md y)::cs) (pp y) (.d (.lf (.bool (p y))))] (hq:∀y∈l,pp y) (h:HP):CS cx.P 252 [.d (.sl false Ag ((l).map (A0.dd false))),.fn g cs] h (.d (.lf (.bool (l.any p)))) h:=by
 refine Xe func252 rfl 9 [.tmp 4] ?_
 let M:List Nat:=[]
 let G:List Nat:=[]
 have H:=AN
 replace H:=AI hv.all H
 exact GA5
instance fx (l:List A0) (g:Nat) (cs:List AV) (p:A0→Bool) (pp:A0→Prop) [hv:VwC cs] [hi:∀y:A0,Ct cx g (.d (Md y)::cs) (pp y) (.d (.lf (.bool (p y))))]:Ct cx 252 [.d (.sl false Ag ((l).map (A0.dd false))),.fn g cs] (∀y∈l,pp y) (.d (.lf (.bool (l.any p)))):=⟨fk1 func252,fun hq h=>ZO l g cs p pp hq h⟩
def nmC (l:List AA):List ByteArray:=l.map AA.A6
def ptL (l:List AW):List A0:=l.map AW.AM
theorem YK {l:List AA} {k:Nat} (h:l.length≤k):mp AA.A6 l k=nmC l:=Ba h
theorem YA {l:List AW} {k:Nat} (h:l.length≤k):mp AW.AM l k=ptL l:=Ba h
theorem YJ (l:List AA):(nmC l).length=l.length:=List.length_map ..
theorem VZ (d:AF) (a:List Ab):JY d a=(d.A4.all (c1 a) && dst (nmC d.A4) && decide (a.length=d.A4.length)):=rfl
instance iSigR (t:AS) (s:ByteArray):Ct cx 122 [.d (K5 t),.d (.lf (.string (s)))] (True) (.tp [.d (((siR t s).1).dd false),.d (.lf (.int .i64 (((siR t s).2.1:Nat):Int))),.d (.lf (.bool ((siR t s).2.2)))]):=by
 refine Xiv func122 25 [.cell 4 109,.tmp 5,.tmp 6] [16,21] [] AN (AI @siR.eq_1<|AI @byN.eq_1<|AI @DW.eq_def<|AI @byF.eq_1<|AI @Aw<|AI @Aq<|AI @zSi.eq_1<|AI @zT.eq_1<|@zX.eq_1) ?_;intro hp h M G H E
 repeat' (first|(refine IN.mk ?_;intros)|(refine iTw ?_;refine T2 ?_ ?_<;>((try clear H);intro hb H)<;>try exact hb.elim)|(refine LF.mk ?_;exact LX)|refine GN ?_|(refine XC [1,4,10,11] [4] 12 (t.AU.length) (fun k0=>fs (byF AC.A6 s) 0 t.AU=fs (byF AC.A6 s) k0 (t.AU.drop k0)) ?_;intro k0 hk0 hi0)|fail)
instance iMetR (x:AJ) (s:ByteArray):Ct cx 123 [.d (E4 x),.d (.lf (.string (s)))] (True) (.tp [.d (((meR x s).1).dd false),.d (.lf (.bool ((meR x s).2.2)))]):=by
 refine Xiv func123 22 [.cell 4 120,.tmp 5] [14,19] [] AN (AI @meR.eq_1<|AI @byN.eq_1<|AI @DW.eq_def<|AI @byF.eq_1<|AI @Aw<|AI @Aq<|AI @zMe.eq_1<|AI @zX.eq_1<|@zT.eq_1) ?_;intro hp h M G H E
 repeat' (first|(refine IN.mk ?_;intros)|(refine iTw ?_;refine T2 ?_ ?_<;>((try clear H);intro hb H)<;>try exact hb.elim)|(refine LF.mk ?_;exact LX)|refine GN ?_|(refine XC [1,4,9,10] [4] 11 (x.Ap.length) (fun k0=>fs (byF AX.A6 s) 0 x.Ap=fs (byF AX.A6 s) k0 (x.Ap.drop k0)) ?_;intro k0 hk0 hi0)|fail)
