/- Part 35. No condition. -/
import Derived.Test.YtdooklofebdknaaGreatM34
namespace Go.Proofs.YtdooklofebdknaaGreat
open Go.RowKit Tryz
set_option linter.unusedVariables false
set_option maxRecDepth 10000
set_option linter.unusedSimpArgs false
set_option maxHeartbeats 4000000
theorem eG (x:AG) (hz:x.sz≤134217728) (h:HP):CS cx.P 381 [.d (x.dd false)] h (.d (.lf (.bool (iF0 x)))) h:=by
 have hz2:=x.sz_eq;unfold szs at hz2
 have hac:=fQ x.AH
 refine Ze func381 rfl 131 ?_
 apply Zr;intros
 iterate 2 (refine Zo ?_;simp)
 exact Zx
 apply Zr;intros
 iterate 2 (refine Zo ?_;simp)
 refine Zl [] rfl func423 (fO x.AH _) ?_;simp
 iterate 5 (refine Zo ?_;simp)
 exact Zx
 refine W.seq ?_
 refine W.seq ?_
 refine W.regJ (D:=_) [1] [1] [(35,.d (.lf (.bool (!if1 x))))] [] rfl (fun _ K hD hK=> ?_) fun T hT=> ?_
 iterate 4 (refine Zo ?_;simp)
 refine WL.split 17 _ rfl (fun g17=> ?_) fun g17=> ?_<;>try simp at g17
 simp
 iterate 3 (refine Zn hD rfl rfl ?_;simp)
 iterate 2 (refine Zo ?_;simp)
 iterate 5 (refine Zn hD rfl rfl ?_;simp)
 iterate 2 (refine Zo ?_;simp)
 iterate 5 (refine Zn hD rfl rfl ?_;simp)
 refine Zo ?_;simp
 refine WL.nil (hK _ (Wz.to rfl rfl rfl ?_))
 simp[if1,Ay,g17]<;>first|omega|grind
 simp
 iterate 3 (refine Zg hD rfl rfl ?_;simp)
 iterate 2 (refine Zo ?_;simp)
 refine WL.split 22 _ rfl (fun g22=> ?_) fun g22=> ?_<;>try simp at g22
 simp
 iterate 5 (refine Zn hD rfl rfl ?_;simp)
 iterate 2 (refine Zo ?_;simp)
 iterate 5 (refine Zn hD rfl rfl ?_;simp)
 refine Zo ?_;simp
 refine WL.nil (hK _ (Wz.to rfl rfl rfl ?_))
 simp[if1,Ay,g17,g22]<;>first|omega|grind
 simp
 iterate 5 (refine Zg hD rfl rfl ?_;simp)
 iterate 2 (refine Zo ?_;simp)
 refine WL.split 29 _ rfl (fun g29=> ?_) fun g29=> ?_<;>try simp at g29
 simp
 iterate 5 (refine Zn hD rfl rfl ?_;simp)
 refine Zo ?_;simp
 refine WL.nil (hK _ (Wz.to rfl rfl rfl ?_))
 simp[if1,Ay,g17,g22,g29]<;>first|omega|grind
 simp
 iterate 5 (refine Zg hD rfl rfl ?_;simp)
 refine Zo ?_;simp
 refine WL.nil (hK _ (Wz.to rfl rfl rfl ?_))
 simp[if1,Ay,g17,g22,g29]<;>first|omega|grind
 simp at hT;subst hT
 refine Zc rfl ?_ ?_<;>intro hb0<;>try simp at hb0
 have hres:iF0 x=false:=by unfold iF0;rw[show if1 x=false by simpa using hb0];simp
 apply Zr;intros
 refine Zo ?_;simp
 exact Zx
 refine W.ret (Zq ?_)
 simp[f381,hres]<;>grind
 have h1:if1 x=true:=by simpa using hb0
 refine W.skip ?_
 apply Yr rfl;intro K hK
 iterate 8 (refine Yo ?_;simp)
 exact DL.nil rfl hK
 refine W.seq ?_
 apply Zr;intros
 iterate 2 (refine Zo ?_;simp)
 exact Zx
 refine W.join [1] [1] [(5,.d (.lf (.bool (ifT x)))),(6,.d (.lf (.bool (ifN x))))] [] ?_ fun T hT=> ?_
 refine W.block ?_
 refine W.seq ?_
 apply Zr;intros
 iterate 2 (refine Zo ?_;simp)
 exact Zx
 refine Zc rfl ?_ ?_<;>intro hb1<;>try simp at hb1
 refine W.skip ?_
 refine W.condT (by simp[hb1]) trivial ?_
 apply Zs;intros
 iterate 2 (refine Zo ?_;simp)
 refine Zl [] rfl func106 (CV x.A6 (by omega) _) ?_;simp
 refine Zo ?_;simp
 exact Zx
 refine Wz.to rfl rfl rfl ?_
 simp[ifT,ifN,Fb,hb0,hb1]
 apply Zr;intros
 iterate 2 (refine Zo ?_;simp)
 exact Zx
 refine Zc rfl ?_ ?_<;>intro hb2<;>try simp at hb2
 refine W.skip ?_
 refine W.condT (by simp[hb2]) trivial ?_
 apply Zs;intros
 iterate 2 (refine Zo ?_;simp)
 refine Zl [] rfl func106 (CV x.A6 (by omega) _) ?_;simp
 refine Zo ?_;simp
 exact Zx
 refine Wz.to rfl rfl rfl ?_
 simp[ifT,ifN,Fb,hb0,hb1,hb2]
 apply Zr;intros
 iterate 2 (refine Zo ?_;simp)
 exact Zx
 refine Zc rfl ?_ ?_<;>intro hb3<;>try simp at hb3
 refine W.skip ?_
 refine W.condT (by simp[hb3]) trivial ?_
 apply Zs;intros
 iterate 2 (refine Zo ?_;simp)
 refine Zl [] rfl func106 (CV x.A6 (by omega) _) ?_;simp
 refine Zo ?_;simp
 exact Zx
 refine Wz.to rfl rfl rfl ?_
 simp[ifT,ifN,Fb,hb0,hb1,hb2,hb3]
 apply Zs;intros
 iterate 2 (refine Zo ?_;simp)
 exact Zx
 refine Zc rfl ?_ ?_<;>intro hb4<;>try simp at hb4
 apply Zs;intros
 iterate 2 (refine Zo ?_;simp)
 refine Zl [] rfl func106 (CV x.A6 (by omega) _) ?_;simp
 refine Zo ?_;simp
 exact Zx
 refine Wz.to rfl rfl rfl ?_
 simp[ifT,ifN,Fb,hb0,hb1,hb2,hb3,hb4]
 apply Zr;intros
 iterate 2 (refine Zo ?_;simp)
 exact Zx
 refine Zc rfl ?_ ?_<;>intro hb5<;>try simp at hb5
 apply W.regSD rfl;intro K hK
 iterate 2 (refine Yo ?_;simp)
 refine Yl [] rfl func106 (CV x.AK (by omega)) ?_;simp
 iterate 2 (refine Yo ?_;simp)
 refine Yl [] rfl func106 (CV x.A6 (by omega)) ?_;simp
 iterate 2 (refine Yo ?_;simp)
 exact DL.nil rfl hK
 refine Wz.to rfl rfl rfl ?_
 simp[ifT,ifN,Fb,hb0,hb1,hb2,hb3,hb4,hb5]
 apply Zr;intros
 iterate 2 (refine Zo ?_;simp)
 exact Zx
 refine Zc rfl ?_ ?_<;>intro hb6<;>try simp at hb6
 apply Zs;intros
 iterate 2 (refine Zo ?_;simp)
 refine Zl [] rfl func424 (db x.A6 (by omega) _) ?_;simp
 refine Zo ?_;simp
 exact Zx
 refine Wz.to rfl rfl rfl ?_
 simp[ifT,ifN,Fb,hb0,hb1,hb2,hb3,hb4,hb5,hb6]
 apply Zr;intros
 iterate 2 (refine Zo ?_;simp)
 exact Zx
 refine Zc rfl ?_ ?_<;>intro hb7<;>try simp at hb7
 apply Zs;intros
 iterate 2 (refine Zo ?_;simp)
 refine Zl [] rfl func106 (CV x.AK (by omega) _) ?_;simp
 refine Zo ?_;simp
 exact Zx
 refine Wz.to rfl rfl rfl ?_
 simp[ifT,ifN,Fb,hb0,hb1,hb2,hb3,hb4,hb5,hb6,hb7]
 refine W.skip ?_
 refine Wz.to rfl rfl rfl ?_
 simp[ifT,ifN,Fb,hb0,hb1,hb2,hb3,hb4,hb5,hb6,hb7]
 simp at hT;subst hT
 apply Zr;intros
 iterate 4 (refine Zo ?_;simp)
 exact Zx
 refine W.seq ?_
 apply Zr;intros
 iterate 2 (refine Zo ?_;simp)
 exact Zx
 refine W.join [1,5,6] [1] [(7,.d (.lf (.bool (ifI x))))] [] ?_ fun T hT=> ?_
 refine W.block ?_
 apply Zr;intros
 iterate 2 (refine Zo ?_;simp)
 exact Zx
 refine Zc rfl ?_ ?_<;>intro hb8<;>try simp at hb8
 refine W.regJ0 (D:=_) rfl fun _ K hD hK=> ?_
 iterate 4 (refine Zo ?_;simp)
 refine WL.split 80 _ rfl (fun g80=> ?_) fun g80=> ?_<;>try simp at g80
 simp
 iterate 3 (refine Zg hD rfl rfl ?_;simp)
 iterate 2 (refine Zo ?_;simp)
 refine WL.nil (hK _ ?_)
 refine Wz.to rfl rfl rfl ?_
 simp[ifI,Ay,hb0,hb8,g80]<;>first|omega|grind
 simp
 iterate 3 (refine Zn hD rfl rfl ?_;simp)
 iterate 2 (refine Zo ?_;simp)
 refine WL.nil (hK _ ?_)
 refine Wz.to rfl rfl rfl ?_
 simp[ifI,Ay,hb0,hb8,g80]<;>first|omega|grind
 apply Zr;intros
 iterate 2 (refine Zo ?_;simp)
 exact Zx
 refine Zc rfl ?_ ?_<;>intro hb9<;>try simp at hb9
 refine W.regJ0 (D:=_) rfl fun _ K hD hK=> ?_
 iterate 4 (refine Zo ?_;simp)
 refine WL.split 90 _ rfl (fun g90=> ?_) fun g90=> ?_<;>try simp at g90
 simp
 iterate 3 (refine Zn hD rfl rfl ?_;simp)
 iterate 2 (refine Zo ?_;simp)
 refine WL.nil (hK _ ?_)
 refine Wz.to rfl rfl rfl ?_
 simp[ifI,Ay,hb0,hb8,hb9,g90]<;>first|omega|grind
 simp
 iterate 3 (refine Zg hD rfl rfl ?_;simp)
 iterate 2 (refine Zo ?_;simp)
 refine WL.nil (hK _ ?_)
 refine Wz.to rfl rfl rfl ?_
 simp[ifI,Ay,hb0,hb8,hb9,g90]<;>first|omega|grind
 refine W.skip ?_
 refine Wz.to rfl rfl rfl ?_
 simp[ifI,Ay,hb0,hb8,hb9]<;>first|omega|grind
 simp at hT;subst hT
 refine W.seq ?_
 refine W.seq ?_
 refine W.regDJ (D:=_) rfl [1,5,6,7] [1] [(113,.d (.lf (.bool (ifY x))))] [] rfl (fun K hD hK=> ?_) fun T hT=> ?_
 iterate 5 (refine Yo ?_;simp)
 refine Yl [] rfl func185 (NL x.AM) ?_;simp
 iterate 3 (refine Yo ?_;simp)
 refine DL.split 103 _ rfl (fun g103=> ?_) fun g103=> ?_<;>try simp at g103
 simp
 iterate 9 (refine Yn hD rfl rfl ?_;simp)
 refine Yo ?_;simp
 refine DL.nil rfl (hK _ (Wz.to rfl rfl rfl ?_))
 simp[ifY,g103]<;>grind
 simp
 iterate 4 (refine Yg hD rfl rfl ?_;simp)
 refine DL.split 107 _ rfl (fun g107=> ?_) fun g107=> ?_<;>try simp at g107
 simp
 iterate 2 (refine Yg hD rfl rfl ?_;simp)
 refine Yk hD rfl rfl [] rfl func254 (Hk x.AM (by omega)) ?_;simp
 iterate 2 (refine Yg hD rfl rfl ?_;simp)
 refine Yo ?_;simp
 refine DL.nil rfl (hK _ (Wz.to rfl rfl rfl ?_))
 simp[ifY,g103,g107]<;>grind
 simp
 iterate 4 (refine Yn hD rfl rfl ?_;simp)
 refine Yg hD rfl rfl ?_;simp
 refine Yo ?_;simp
 refine DL.nil rfl (hK _ (Wz.to rfl rfl rfl ?_))
 simp[ifY,g103,g107]<;>grind
 simp at hT;subst hT
 refine Zc rfl ?_ ?_<;>intro hb10<;>try simp at hb10
 have hres:iF0 x=false:=by unfold iF0;rw[show ifY x=true by simpa using hb10];simp
 apply Zr;intros
 refine Zo ?_;simp
 exact Zx
 refine W.ret (Zq ?_)
 simp[f381,hres]<;>grind
 have h2:ifY x=false:=by simpa using hb10
 have hres:iF0 x=(ifT x && ifN x && ifI x && (decide (x.AH=7)==decide (0<x.Ad.length))):=by unfold iF0;rw[h1,h2];simp
 refine W.skip ?_
 refine W.seq ?_
 refine W.regJ0 (D:=_) rfl fun _ K hD hK=> ?_
 iterate 2 (refine Zo ?_;simp)
 refine WL.split 115 _ rfl (fun g115=> ?_) fun g115=> ?_<;>try simp at g115
 simp
 refine Zg hD rfl rfl ?_;simp
 iterate 2 (refine Zo ?_;simp)
 refine WL.split 118 _ rfl (fun g118=> ?_) fun g118=> ?_<;>try simp at g118
 simp
 refine Zg hD rfl rfl ?_;simp
 iterate 2 (refine Zo ?_;simp)
 refine WL.split 121 _ rfl (fun g121=> ?_) fun g121=> ?_<;>try simp at g121
 simp
 iterate 8 (refine Zg hD rfl rfl ?_;simp)
 iterate 2 (refine Zo ?_;simp)
 refine WL.nil (hK _ ?_)
 refine W.ret (Zq ?_)
 simp[f381,hres,g115,g118,g121]<;>grind
 simp
 iterate 8 (refine Zn hD rfl rfl ?_;simp)
 iterate 2 (refine Zo ?_;simp)
 refine WL.nil (hK _ ?_)
 refine W.ret (Zq ?_)
 simp[f381,hres,g115,g118,g121]<;>grind
 simp
 refine Zn hD rfl rfl ?_;simp
 iterate 2 (refine Zo ?_;simp)
 iterate 8 (refine Zn hD rfl rfl ?_;simp)
 iterate 2 (refine Zo ?_;simp)
 refine WL.nil (hK _ ?_)
 refine W.ret (Zq ?_)
 simp[f381,hres,g115,g118]<;>grind
 simp
 refine Zn hD rfl rfl ?_;simp
 iterate 2 (refine Zo ?_;simp)
 refine Zn hD rfl rfl ?_;simp
 iterate 2 (refine Zo ?_;simp)
 iterate 8 (refine Zn hD rfl rfl ?_;simp)
 iterate 2 (refine Zo ?_;simp)
 refine WL.nil (hK _ ?_)
 refine W.ret (Zq ?_)
 simp[f381,hres,g115]<;>grind
theorem bU (x:AG) (hc:∀h,CS cx.P 326 [.d (x.dd false)] h (.d (.lf (.bool (iF x)))) h) (h:HP):CS cx.P 383 [.d (x.dd false)] h (.d (.lf (.bool (!iF x)))) h:=by
 refine Ze func383 rfl 6 ?_
 apply Zr;intros
 iterate 2 (refine Zo ?_;simp)
 exact Zx
 apply Zr;intros
 refine Zo ?_;simp
 refine Zl [] rfl func326 (hc _) ?_;simp
 iterate 2 (refine Zo ?_;simp)
 exact Zx
 refine W.ret (Zq ?_)
 simp[f383]
theorem fR (x:Ab) (hz:x.sz≤134217728) (hc:∀h,CS cx.P 326 [.d (x.Aa.dd false)] h (.d (.lf (.bool (iF x.Aa)))) h) (h:HP):CS cx.P 385 [.d (x.dd false)] h (.d (.lf (.bool (!iFa x)))) h:=by
 have hz2:=x.sz_eq;unfold szs at hz2
 have hvs:∀s∈x.AZ,s.size≤134217728:=fun s hs=>by have:=Ah ByteArray.size hs;omega
 refine Ze func385 rfl 19 ?_
 apply Zr;intros
 iterate 2 (refine Zo ?_;simp)
 exact Zx
 refine W.seq ?_
 refine W.regJ0 (D:=_) rfl fun _ K hD hK=> ?_
 iterate 2 (refine Zo ?_;simp)
 refine Zl [] rfl func106 (CV x.AY (by omega) _) ?_;simp
 iterate 2 (refine Zo ?_;simp)
 refine WL.split 7 _ rfl (fun g7=> ?_) fun g7=> ?_<;>try simp at g7
 simp
 iterate 4 (refine Zn hD rfl rfl ?_;simp)
 iterate 2 (refine Zo ?_;simp)
 iterate 4 (refine Zn hD rfl rfl ?_;simp)
 iterate 2 (refine Zo ?_;simp)
 refine WL.nil (hK _ ?_)
 refine W.ret (Zq ?_)
 simp[f385,On,g7]<;>grind
 simp
 iterate 2 (refine Zg hD rfl rfl ?_;simp)
 refine Zk hD rfl rfl [] rfl func107 (GB x.AZ hvs (by omega) _) ?_;simp
 refine Zg hD rfl rfl ?_;simp
 iterate 2 (refine Zo ?_;simp)
 refine WL.split 13 _ rfl (fun g13=> ?_) fun g13=> ?_<;>try simp at g13
 simp
 iterate 4 (refine Zn hD rfl rfl ?_;simp)
 iterate 2 (refine Zo ?_;simp)
 refine WL.nil (hK _ ?_)
 refine W.ret (Zq ?_)
 simp[f385,On,g7,g13]<;>grind
 simp
 iterate 2 (refine Zg hD rfl rfl ?_;simp)
 refine Zk hD rfl rfl [] rfl func326 (hc _) ?_;simp
 refine Zg hD rfl rfl ?_;simp
 iterate 2 (refine Zo ?_;simp)
 refine WL.nil (hK _ ?_)
 refine W.ret (Zq ?_)
 simp[f385,On,g7,g13]<;>grind
theorem iq (x:AG) (hz:x.sz≤134217728) (hc:∀y∈x.AB,∀h,CS cx.P 326 [.d (y.dd false)] h (.d (.lf (.bool (iF y)))) h) (hc2:∀a∈x.Ad,∀h,CS cx.P 326 [.d (a.Aa.dd false)] h (.d (.lf (.bool (iF a.Aa)))) h) (h:HP):CS cx.P 326 [.d (x.dd false)] h (.d (.lf (.bool (iF x)))) h:=by
 have hz2:=x.sz_eq;unfold szs at hz2
 refine Ze func326 rfl 15 ?_
 apply Zr;intros
 iterate 2 (refine Zo ?_;simp)
 exact Zx
 refine W.seq ?_
 refine W.seq ?_
 refine W.regJ (D:=_) [1] [1] [(10,.d (.lf (.bool (!(iF0 x && !(x.AB.any fun y=> !iF y))))))] [] rfl (fun _ K hD hK=> ?_) fun T hT=> ?_
 refine Zo ?_;simp
 refine Zl [] rfl func381 (eG x hz _) ?_;simp
 iterate 2 (refine Zo ?_;simp)
 refine WL.split 6 _ rfl (fun g6=> ?_) fun g6=> ?_<;>try simp at g6
 simp
 iterate 3 (refine Zn hD rfl rfl ?_;simp)
 refine Zo ?_;simp
 refine WL.nil (hK _ (Wz.to rfl rfl rfl ?_))
 simp[g6]<;>grind
 simp
 iterate 2 (refine Zg hD rfl rfl ?_;simp)
 refine Zk hD rfl rfl [] rfl func382 (GJ x.AB (by omega) 383 f383 _ ⟨func383,rfl,rfl⟩ (fun y=> !iF y) (fun y hy h=>bU y (hc y hy) h) _) ?_;simp
 refine Zo ?_;simp
 refine WL.nil (hK _ (Wz.to rfl rfl rfl ?_))
 simp[g6]<;>grind
 simp at hT;subst hT
 refine Zc rfl ?_ ?_<;>intro hb0<;>try simp at hb0
 have hres:iF x=false:=by rw[b6];simp at hb0 ⊢;grind
 apply Zr;intros
 refine Zo ?_;simp
 exact Zx
 refine W.ret (Zq ?_)
 simp[f326,hres]
 have hres:iF x= !(x.Ad.any fun y=> !iFa y):=by rw[b6];simp at hb0 ⊢;grind
 refine W.skip ?_
 apply Zr;intros
 iterate 2 (refine Zo ?_;simp)
 refine Zl [] rfl func384 (HM x.Ad (by omega) 385 f385 _ ⟨func385,rfl,rfl⟩ (fun y=> !iFa y) (fun y hy h=>fR y (by have:=Ah Ab.sz hy;omega) (hc2 y hy) h) _) ?_;simp
 iterate 2 (refine Zo ?_;simp)
 exact Zx
 refine W.ret (Zq ?_)
 simp[f326,hres]
theorem VA (x:AG) (hz:x.sz≤134217728) (h:HP):CS cx.P 326 [.d (x.dd false)] h (.d (.lf (.bool (iF x)))) h:=iq x hz (fun y hy h=>VA y (by have h1:=Ah AG.sz hy;have h2:=x.sz_eq;unfold szs at h2;omega) h) (fun a ha h=>VA a.Aa (by have h1:=Ah Ab.sz ha;have h2:=x.sz_eq;have h3:=a.sz_eq;unfold szs at h2;omega) h) h
termination_by SizeOf.sizeOf x
decreasing_by
 ·have:=List.sizeOf_lt_of_mem hy;have:=x.lt_fArgs;omega
 ·have:=List.sizeOf_lt_of_mem ha;have:=x.lt_fArms;have:=a.lt_fBody;omega
theorem SU (x:AG) (hz:x.sz≤134217728) (h:HP):CS cx.P 260 [.d (x.dd false)] h (.d (.lf (.bool (exV x)))) h:=by
 refine Ze func260 rfl 10 ?_
 apply Zr;intros
 iterate 2 (refine Zo ?_;simp)
 exact Zx
 refine W.seq ?_
 refine W.regJ0 (D:=_) rfl fun _ K hD hK=> ?_
 refine Zo ?_;simp
 refine Zl [] rfl func325 (Om x hz _) ?_;simp
 iterate 2 (refine Zo ?_;simp)
 refine WL.split 6 _ rfl (fun g6=> ?_) fun g6=> ?_<;>try simp at g6
 simp
 refine Zg hD rfl rfl ?_;simp
 refine Zk hD rfl rfl [] rfl func326 (VA x hz _) ?_;simp
 iterate 2 (refine Zo ?_;simp)
 refine WL.nil (hK _ ?_)
 refine W.ret (Zq ?_)
 simp[f260,Vg,g6]<;>omega
 simp
 iterate 2 (refine Zn hD rfl rfl ?_;simp)
 iterate 2 (refine Zo ?_;simp)
 refine WL.nil (hK _ ?_)
 refine W.ret (Zq ?_)
 simp[f260,Vg,g6]<;>omega
theorem Qk (ob:Bool) (x:AG) (b o:List ByteArray) (hz:x.sz≤134217728) (hb:b.length+x.sz≤1073741824) (ho:o.length+szX x≤1073741824) (hc:∀y∈x.AB,∀b o:List ByteArray,b.length+y.sz≤1073741824→o.length+szX y≤1073741824→∀h,CS cx.P 327 [.d (.sl true .one (o.map dS)),.d (y.dd false),.d (.sl false .one (b.map dS))] h (.d (.sl true .one ((fvE y b o).map dS))) h) (hc2:∀a∈x.Ad,∀b o:List ByteArray,b.length+a.Aa.sz≤1073741824→o.length+szX a.Aa≤1073741824→∀h,CS cx.P 327 [.d (.sl true .one (o.map dS)),.d (a.Aa.dd false),.d (.sl false .one (b.map dS))] h (.d (.sl true .one ((fvE a.Aa b o).map dS))) h) (h:HP):CS cx.P 327 [.d (.sl true .one (o.map dS)),.d (x.dd false),.d (.sl ob .one (b.map dS))] h (.d (.sl true .one ((fvE x b o).map dS))) h:=by
 have hz2:=x.sz_eq;unfold szs at hz2
 refine Ze func327 rfl 80 ?_
 apply Zr;intros
 iterate 2 (refine Zo ?_;simp)
 exact Zx
 refine W.seq ?_
 refine W.seq ?_
 refine W.regJ (D:=_) [0,2,4] [4] [(27,.d (.lf (.bool (decide (x.AH=3) && (!B6 b x.A6 && !B6 o x.A6)))))] [] rfl (fun _ K hD hK=> ?_) fun T hT=> ?_
 iterate 4 (refine Zo ?_;simp)
 refine WL.split 14 _ rfl (fun g14=> ?_) fun g14=> ?_<;>try simp at g14
 simp
 iterate 3 (refine Zg hD rfl rfl ?_;simp)
 refine Zk hD rfl rfl [] rfl func115 (DY b x.A6 (by omega) _) ?_;simp
 refine Zg hD rfl rfl ?_;simp
 iterate 2 (refine Zo ?_;simp)
 refine WL.split 21 _ rfl (fun g21=> ?_) fun g21=> ?_<;>try simp at g21
 simp
 iterate 3 (refine Zg hD rfl rfl ?_;simp)
 refine Zk hD rfl rfl [] rfl func115 (DY o x.A6 (by omega) _) ?_;simp
 refine Zg hD rfl rfl ?_;simp
 refine Zo ?_;simp
 refine WL.nil (hK _ (Wz.to rfl rfl rfl ?_))
 simp[g14,g21]
 simp
 iterate 5 (refine Zn hD rfl rfl ?_;simp)
 refine Zo ?_;simp
 refine WL.nil (hK _ (Wz.to rfl rfl rfl ?_))
 simp[g14,g21]
 simp
 iterate 5 (refine Zn hD rfl rfl ?_;simp)
 iterate 2 (refine Zo ?_;simp)
 iterate 5 (refine Zn hD rfl rfl ?_;simp)
 refine Zo ?_;simp
 refine WL.nil (hK _ (Wz.to rfl rfl rfl ?_))
 simp[g14]
 simp at hT;subst hT
 refine W.join [2,4] [4] [(0,.d (.sl true .one ((fv0 b o x.AH x.A6).map dS)))] [] ?_ fun T hT=> ?_
 refine Zc rfl ?_ ?_<;>intro hb0<;>try simp at hb0
 have ht:fv0 b o x.AH x.A6=o++[x.A6]:=by unfold fv0;rw[if_pos (by simpa using hb0)]
 apply Zs;intros
 refine Zm [28] ?_;simp
 iterate 5 (refine Zo ?_;simp)
 exact Zx
 refine Wz.to rfl rfl rfl ?_
 simp[ht]
 have ht:fv0 b o x.AH x.A6=o:=by unfold fv0;rw[if_neg (by simpa using hb0)]
 refine W.skip ?_
 refine Wz.to rfl rfl rfl ?_
 simp[ht]
 simp at hT;subst hT
 refine W.seq ?_
 apply Zr;intros
 iterate 4 (refine Zo ?_;simp)
 exact Zx
 refine W.block ?_
 refine W.loopk [2,4,34,35] [4] (fun k0=>[(36,.d (.lf (.int .i64 (k0:Int)))),(0,.d (.sl true .one ((faK x b o k0).map dS)))]) (fun _=>[]) x.AB.length rfl (by simp[Nh]) fun k0 hk0 T hT=> ?_
 simp at hT;subst hT
 apply Zr;intros
 refine Zo ?_;simp
 exact Zx
 refine Zv rfl ?_ ?_<;>intro hb1<;>try simp at hb1
 have hx:=B1 hb1 (by omega)
 have hl:=Qx (b:=b) (o:=o) hb1
 have hy:=Ah AG.sz (gm hb1)
 have hbl:(bIn x b k0).length≤b.length+1:=by unfold bIn;split<;>simp
 refine W.skip ?_
 refine Zb ?_
 apply Zr;intros
 iterate 2 (refine Zo ?_ (by simp[hb1,hx]<;>omega);simp[hb1,hx])
 refine Zm [40] ?_ (by simp[hb1,hx]<;>omega);simp[hb1,hx]
 iterate 3 (refine Zo ?_ (by simp[hb1,hx]<;>omega);simp[hb1,hx])
 exact Zx
 refine W.seq ?_
 refine W.regJ (D:=_) [0,2,4,8,34,35,36] [4,8] [(47,.d (.lf (.bool (decide (x.AH=8) && decide (k0=1)))))] [] rfl (fun _ K hD hK=> ?_) fun T hT=> ?_
 iterate 4 (refine Zo ?_ (by simp[hb1,hx]<;>omega);simp[hb1,hx])
 refine WL.split 44 _ rfl (fun g44=> ?_) fun g44=> ?_<;>try simp at g44
 simp[hb1,hx]
 iterate 2 (refine Zg hD rfl rfl ?_ (by simp[hb1,hx]<;>omega);simp[hb1,hx])
 refine Zo ?_ (by simp[hb1,hx]<;>omega);simp[hb1,hx]
 refine WL.nil (hK _ (Wz.to rfl rfl rfl ?_))
 simp[g44]<;>omega
 simp[hb1,hx]
 iterate 2 (refine Zn hD rfl rfl ?_;simp[hb1,hx])
 refine Zo ?_ (by simp[hb1,hx]<;>omega);simp[hb1,hx]
 refine WL.nil (hK _ (Wz.to rfl rfl rfl ?_))
 simp[g44]<;>omega
 simp at hT;subst hT
 refine Zc rfl ?_ ?_<;>intro hb2<;>try simp at hb2
 have hbi:bIn x b k0=b++[x.A6]:=by unfold bIn;rw[if_pos (by simpa using hb2)]
 apply W.regSD rfl;intro K hK
 refine Ym [48] ?_ (by simp[hb1,hx,hbi]<;>omega);simp[hb1,hx,hbi]
 iterate 2 (refine Yo ?_ (by simp[hb1,hx,hbi]<;>omega);simp[hb1,hx,hbi])
 refine Yl [] rfl func386 (PI b (by omega)) ?_ (by simp[hb1,hx,hbi]);simp[hb1,hx,hbi]
 iterate 4 (refine Yo ?_ (by simp[hb1,hx,hbi]<;>omega);simp[hb1,hx,hbi])
 refine Yl [48] rfl func327 (hc x.AB[k0] (gm hb1) (bIn x b k0) (faK x b o k0) (by omega) (by omega)) ?_ (by simp[hb1,hx,hbi]);simp[hb1,hx,hbi]
 refine Yo ?_ (by simp[hb1,hx,hbi]<;>omega);simp[hb1,hx,hbi]
 exact DL.nil rfl hK
 apply Zs;intros
 iterate 2 (refine Zo ?_ (by simp[hb1,hx,hbi]<;>omega);simp[hb1,hx,hbi])
 exact Zx
 refine⟨hb1,Wz.to rfl rfl rfl ?_⟩
 have hs:=H5 (b:=b) (o:=o) hb1
 rw[hbi] at hs
 simp[hs]
 have hbi:bIn x b k0=b:=by unfold bIn;rw[if_neg (by simpa using hb2)]
 apply Zs;intros
 refine Zm [57] ?_ (by simp[hb1,hx,hbi]<;>omega);simp[hb1,hx,hbi]
 iterate 2 (refine Zo ?_ (by simp[hb1,hx,hbi]<;>omega);simp[hb1,hx,hbi])
 refine Zl [57] rfl func327 (hc x.AB[k0] (gm hb1) (bIn x b k0) (faK x b o k0) (by omega) (by omega) _) ?_ (by simp[hb1,hx,hbi]);simp[hb1,hx,hbi]
 refine Zo ?_ (by simp[hb1,hx,hbi]<;>omega);simp[hb1,hx,hbi]
 exact Zx
 apply Zs;intros
 iterate 2 (refine Zo ?_ (by simp[hb1,hx,hbi]<;>omega);simp[hb1,hx,hbi])
 exact Zx
 refine⟨hb1,Wz.to rfl rfl rfl ?_⟩
 have hs:=H5 (b:=b) (o:=o) hb1
 rw[hbi] at hs
 simp[hs]
 have hkl:k0=x.AB.length:=by omega
 subst hkl
 refine W.exit ?_
 refine W.seq ?_
 apply Zr;intros
 iterate 4 (refine Zo ?_;simp)
 exact Zx
 refine W.block ?_
 refine W.loopk [2,63,64] [] (fun k1=>[(65,.d (.lf (.int .i64 (k1:Int)))),(0,.d (.sl true .one ((frK x b o k1).map dS)))]) (fun _=>[]) x.Ad.length rfl (by simp[NU]) fun k1 hk1 T hT=> ?_
 simp at hT;subst hT
 apply Zr;intros
 refine Zo ?_;simp
 exact Zx
 refine Zv rfl ?_ ?_<;>intro hb3<;>try simp at hb3
 have hx:=B1 hb3 (by omega)
 have hl:=Qv (b:=b) (o:=o) hb3
 have hy:=Ah Ab.sz (gm hb3)
 have hy2:=x.Ad[k1].sz_eq;unfold szs at hy2
 refine W.skip ?_
 refine Zb ?_
 apply Zr;intros
 refine Zo ?_ (by simp[hb3,hx]<;>omega);simp[hb3,hx]
 refine Zm [68] ?_ (by simp[hb3,hx]<;>omega);simp[hb3,hx]
 iterate 2 (refine Zo ?_ (by simp[hb3,hx]<;>omega);simp[hb3,hx])
 exact Zx
 apply W.regSD rfl;intro K hK
 refine Ym [69] ?_ (by simp[hb3,hx]<;>omega);simp[hb3,hx]
 iterate 6 (refine Yo ?_ (by simp[hb3,hx]<;>omega);simp[hb3,hx])
 refine Yl [] rfl func387 (I9 [b,x.Ad[k1].AZ] (by simp) (by simp[Fu];omega)) ?_ (by simp[hb3,hx]);simp[hb3,hx]
 refine Yl [69] rfl func327 (hc2 x.Ad[k1] (gm hb3) (b++x.Ad[k1].AZ) (frK x b o k1) (by simp;omega) (by omega)) ?_ (by simp[hb3,hx]);simp[hb3,hx]
 refine Yo ?_ (by simp[hb3,hx]<;>omega);simp[hb3,hx]
 exact DL.nil rfl hK
 apply Zs;intros
 iterate 2 (refine Zo ?_ (by simp[hb3,hx]<;>omega);simp[hb3,hx])
 exact Zx
 refine⟨hb3,Wz.to rfl rfl rfl ?_⟩
 have hs:=NV (b:=b) (o:=o) hb3
 simp[hs]
 have hkl:k1=x.Ad.length:=by omega
 subst hkl
 have hres:=NW x b o
 refine W.exit ?_
 apply Zr;intros
 refine Zm [79] ?_;simp
 refine Zo ?_;simp
 exact Zx
 refine W.ret (Zq ?_)
 simp[f327,hres]
theorem IZ (x:AG) (b o:List ByteArray) (hz:x.sz≤134217728) (hb:b.length+x.sz≤1073741824) (ho:o.length+szX x≤1073741824) (h:HP):CS cx.P 327 [.d (.sl true .one (o.map dS)),.d (x.dd false),.d (.sl false .one (b.map dS))] h (.d (.sl true .one ((fvE x b o).map dS))) h:=Qk false x b o hz hb ho (fun y hy b o hb ho h=>IZ y b o (by have h1:=Ah AG.sz hy;have h2:=x.sz_eq;unfold szs at h2;omega) hb ho h) (fun a ha b o hb ho h=>IZ a.Aa b o (by have h1:=Ah Ab.sz ha;have h2:=x.sz_eq;have h3:=a.sz_eq;unfold szs at h2;omega) hb ho h) h
termination_by SizeOf.sizeOf x
decreasing_by
 ·have:=List.sizeOf_lt_of_mem hy;have:=x.lt_fArgs;omega
 ·have:=List.sizeOf_lt_of_mem ha;have:=x.lt_fArms;have:=a.lt_fBody;omega
theorem j6 (x:AG) (hz:x.sz≤134217728) (h:HP):CS cx.P 261 [.d (x.dd false)] h (.d (.sl true .one ((fv x).map dS))) h:=by
 have hsx:=HW x
 refine Ze func261 rfl 6 ?_
 apply Zr;intros
 iterate 2 (refine Zo ?_;simp)
 exact Zx
 apply Zr;intros
 iterate 2 (refine Zo ?_;simp)
 refine Zl [3] rfl func327 (Qk true x [] [] hz (by simp;omega) (by simp;omega) (fun y hy b o hb ho h=>IZ y b o (by have h1:=Ah AG.sz hy;have h2:=x.sz_eq;unfold szs at h2;omega) hb ho h) (fun a ha b o hb ho h=>IZ a.Aa b o (by have h1:=Ah Ab.sz ha;have h2:=x.sz_eq;have h3:=a.sz_eq;unfold szs at h2;omega) hb ho h) _) ?_;simp
 refine Zo ?_;simp
 exact Zx
 refine W.ret (Zq ?_)
 simp[f261,fv]
theorem Yj (v:List ByteArray) (hm:v.length≤134217728) (hv:∀s∈v,s.size≤134217728) (x:AG) (hz:x.sz≤134217728) (h:HP):CS cx.P 186 [.d (.sl false .one (v.map dS)),.d (x.dd false)] h (.d (.lf (.bool (nms v && dst v && body x v)))) h:=by
 have hlen:(fv x).length≤1+x.sz:=by have h1:=Lp x [] [];have h2:=HW x;unfold fv;simp at h1;omega
 refine Ze func186 rfl 17 ?_
 apply Zr;intros
 iterate 2 (refine Zo ?_;simp)
 exact Zx
 refine W.seq ?_
 refine W.regJ0 (D:=_) rfl fun _ K hD hK=> ?_
 refine Zo ?_;simp
 refine Zl [] rfl func107 (GB v hv (by omega) _) ?_;simp
 refine Zo ?_;simp
 refine WL.split 7 _ rfl (fun g7=> ?_) fun g7=> ?_<;>try simp at g7
 simp
 refine Zg hD rfl rfl ?_;simp
 refine Zk hD rfl rfl [] rfl func260 (SU x hz _) ?_;simp
 iterate 2 (refine Zo ?_;simp)
 refine WL.split 11 _ rfl (fun g11=> ?_) fun g11=> ?_<;>try simp at g11
 simp
 refine Zg hD rfl rfl ?_;simp
 refine Zk hD rfl rfl [] rfl func261 (j6 x hz _) ?_;simp
 refine Zg hD rfl rfl ?_;simp
 refine Zk hD rfl rfl [] rfl func48 (EE (fv x) v (by omega) (by omega) _) ?_;simp
 iterate 2 (refine Zo ?_;simp)
 refine WL.nil (hK _ ?_)
 refine W.ret (Zq ?_)
 simp[f186,body,g7,g11]<;>grind
 simp
 iterate 4 (refine Zn hD rfl rfl ?_;simp)
 iterate 2 (refine Zo ?_;simp)
 refine WL.nil (hK _ ?_)
 refine W.ret (Zq ?_)
 simp[f186,body,g7,g11]<;>grind
 simp
 iterate 2 (refine Zn hD rfl rfl ?_;simp)
 iterate 2 (refine Zo ?_;simp)
 iterate 4 (refine Zn hD rfl rfl ?_;simp)
 iterate 2 (refine Zo ?_;simp)
 refine WL.nil (hK _ ?_)
 refine W.ret (Zq ?_)
 simp[f186,body,g7]<;>grind
theorem ON {x:A0} {v:List ByteArray} (h:Bl x v=true):CL x=true:=by
 unfold Bl Bx at h
 simp at h
 exact h.1.1.1
theorem dO (m:AX):F4 m=(decide (m.AZ=[])|| !decide ((m.AZ.length:Int)≤5)|| !(nms m.AZ && dst m.AZ && body m.Aa m.AZ)):=by
 unfold F4 CU
 cases decide (m.AZ=[])<;>cases decide ((m.AZ.length:Int)≤5)<;>cases nms m.AZ<;>cases dst m.AZ<;>cases body m.Aa m.AZ<;>rfl
theorem JR {l:List ByteArray} {s:ByteArray}:B6 l s=true↔s∈l:=by unfold B6;simp
mutual
theorem QM (v:ByteArray):∀(x:A0) (o:List ByteArray),v∈tvs x o↔v∈o∨0<occ v x
 |⟨k,n,l⟩,o=>by
  have h1:=N9 v l (tvS o k n)
  have h2:v∈tvS o k n↔v∈o∨(k=1∧n=v):=by
   unfold tvS
   split
   ·rename_i h
    simp only[List.mem_append,List.mem_singleton]
    constructor
    ·rintro (q|q)
     ·exact .inl q
     ·exact .inr ⟨h.1,q.symm⟩
    ·rintro (q|q)
     ·exact .inl q
     ·exact .inr q.2.symm
   ·rename_i h
    constructor
    ·exact .inl
    ·rintro (q|⟨q1,q2⟩)
     ·exact q
     ·subst q2
      have:¬ ¬(B6 o n=true):=fun q=>h ⟨q1,q⟩
      exact JR.1 (Classical.not_not.1 this)
  rw[tvs,h1,h2]
  simp only[occ]
  by_cases hq:k=1∧n=v
  ·simp[hq];exact .inr (by omega)
  ·simp[hq]
theorem N9 (v:ByteArray):∀(l:List A0) (o:List ByteArray),v∈CC l o↔v∈o∨0<DV v l
 |[],o=>by simp[CC,DV]
 |x::l,o=>by
  rw[CC,N9 v l,QM v x]
  simp only[DV]
  constructor
  ·rintro ((q|q)|q)
   ·exact .inl q
   ·exact .inr (by omega)
   ·exact .inr (by omega)
  ·rintro (q|q)
   ·exact .inl (.inl q)
   ·by_cases h:0<occ v x
    ·exact .inl (.inr h)
    ·exact .inr (by omega)
end
theorem XV (l:List ByteArray) (x:A0):sub l (tv x)= !(l.any fun v=> !decide (0<occ v x)):=by
 unfold sub
 congr 1
 congr 1
 funext v
 have h:=QM v x []
 simp only[List.not_mem_nil,false_or] at h
 unfold tv
 by_cases hq:0<occ v x
 ·rw[JR.2 (h.2 hq)];simp[hq]
 ·have:¬B6 (tvs x []) v=true:=fun q=>hq (h.1 (JR.1 q))
  simp[hq];simpa using this
theorem OO {x:A0} (h:CL x=true):x.AH=1∨x.AH=2∨x.AH=3∨x.AH=4:=by
 cases x with
 |mk k n l=>
  simp only[CL,Bool.and_eq_true] at h
  have h1:=h.1
  unfold Cc at h1
  show k=1∨k=2∨k=3∨k=4
  repeat' split at h1
  all_goals first|omega|simp at h1
theorem eE {x:A0} {v:List ByteArray} (h:Bl x v=true) (hp:Bq x=false):(decide (x.AH=2)||decide (x.AH=1))= !decide (x.AH=4):=by
 have h1:=ON h
 have h3:¬x.AH=3:=fun q=>by rw[JU] at hp;simp[q] at hp
 have h2:x.AH=1∨x.AH=2∨x.AH=3∨x.AH=4:=OO h1
 rcases h2 with q|q|q|q
 ·simp[q]
 ·simp[q]
 ·exact absurd q h3
 ·simp[q]
