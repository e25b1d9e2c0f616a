/- Part 26. No condition. -/
import Derived.Test.YtdooklofebdknaaGreatM15
import Derived.Carry
import Derived.MapKept
namespace Go.Proofs.YtdooklofebdknaaGreat
open Go.RowKit Go.MapKept Tryz
set_option linter.unusedVariables false
set_option maxRecDepth 100000
set_option linter.unusedSimpArgs false
set_option maxHeartbeats 4000000
theorem Ht (l:List A0) (hm:l.length≤1073741824) (g:Nat) (fn:Func) (body:Code) (hg:CT cx.P g fn body) (p:A0→Bool) (k:Nat) (c:DD) (lv:Nat) (hp:∀y∈l,∀lv:Nat,∀h,hpg h lv k=some (.d c)→CS cx.P g [.d (A0.dd false y),.pt lv k []] h (.d (.lf (.bool (p y)))) h) (h:HP) (hcap:hpg h lv k=some (.d c)):CS cx.P 321 [.d (.sl false Ag (l.map (A0.dd false))),.fn g [.pt lv k []]] h (.d (.lf (.int .i64 (CR l p)))) h:=by
 refine Ze func321 rfl 19 ?_
 apply Zr;intros
 refine Zo ?_;simp
 exact Zx
 refine W.seq ?_
 apply Zr;intros
 iterate 3 (refine Zo ?_;simp)
 exact Zx
 refine W.block ?_
 refine W.loopI [0,1,7] [] (fun k0=>[(8,.d (.lf (.int .i64 (k0:Int))))]) (fun _=>[]) l.length (fun k0=>∀j,j<k0→∀y,l[j]? =some y→p y=false) rfl (by simp) (by simp) fun k0 hk0 hi0 T hT=> ?_
 simp at hT;subst hT
 apply Zr;intros
 refine Zo ?_;simp
 exact Zx
 refine Zv rfl ?_ ?_<;>intro hb0<;>try simp at hb0
 have hx:=B1 hb0 (by omega)
 refine W.skip ?_
 refine Zb ?_
 apply Zr;intros
 iterate 2 (refine Zo ?_ (by simp[hb0,hx]<;>omega);simp[hb0,hx])
 exact Zx
 apply Zr;intros
 iterate 5 (refine Zo ?_ (by simp[hb0,hx]<;>omega);simp[hb0,hx])
 refine WL.call [] _ _ _ rfl rfl (by simp) (g:=g) (caps:=[.pt (lv+1) k []]) (by simp) (by simp) hg rfl (by simp[hb0,hx]) (by simp) (by simp[hb0,hx]) (hp l[k0] (gm hb0) (lv+1) _ (by simpa using Df hcap)) rfl ?_;simp[hb0,hx]
 exact Zx
 refine Zc rfl ?_ ?_<;>intro hb1<;>try simp at hb1
 have hres:=EM hi0 hb0 hb1
 apply Zr;intros
 iterate 2 (refine Zo ?_ (by simp[hb0,hx]<;>omega);simp[hb0,hx])
 exact Zx
 refine W.ret (Zq ?_)
 simp[f321,hres]
 refine W.skip ?_
 apply Zs;intros
 iterate 2 (refine Zo ?_ (by simp[hb0,hx]<;>omega);simp[hb0,hx])
 exact Zx
 refine⟨hb0,Bv hi0 hb0 hb1,Wz.to rfl rfl rfl ?_⟩
 simp
 have hkl:k0=l.length:=by omega
 subst hkl
 have hres:=EL hi0
 refine W.exit ?_
 apply Zr;intros
 refine Zo ?_;simp
 exact Zx
 refine W.ret (Zq ?_)
 simp[f321,hres]
theorem G4 (l:List A0) (hm:l.length≤1073741824) (g:Nat) (fn:Func) (body:Code) (hg:CT cx.P g fn body) (p:A0→Bool) (k:Nat) (c:DD) (lv:Nat) (hp:∀y∈l,∀lv:Nat,∀h,hpg h lv k=some (.d c)→CS cx.P g [.d (A0.dd false y),.pt lv k []] h (.d (.lf (.bool (p y)))) h) (h:HP) (hcap:hpg h lv k=some (.d c)):CS cx.P 252 [.d (.sl false Ag (l.map (A0.dd false))),.fn g [.pt lv k []]] h (.d (.lf (.bool (l.any p)))) h:=by
 refine Ze func252 rfl 9 ?_
 apply Zr;intros
 refine Zo ?_;simp
 exact Zx
 apply Zr;intros
 iterate 2 (refine Zo ?_;simp)
 refine Zl [] rfl func321 (Ht l hm g fn body hg p k c (lv+1) hp _ (by simpa using Df hcap)) ?_;simp
 iterate 2 (refine Zo ?_;simp)
 exact Zx
 refine W.ret (Zq ?_)
 simp[f252, ←BQ]
theorem K2 (l:List ByteArray) (hm:l.length≤1073741824) (g:Nat) (fn:Func) (body:Code) (hg:CT cx.P g fn body) (p:ByteArray→Bool) (hp:∀y∈l,∀h,CS cx.P g [.d (dS y)] h (.d (.lf (.bool (p y)))) h) (h:HP):CS cx.P 188 [.d (.sl false .one (l.map (dS))),.fn g []] h (.d (.lf (.int .i64 (CR l p)))) h:=by
 refine Ze func188 rfl 19 ?_
 apply Zr;intros
 refine Zo ?_;simp
 exact Zx
 refine W.seq ?_
 apply Zr;intros
 iterate 3 (refine Zo ?_;simp)
 exact Zx
 refine W.block ?_
 refine W.loopI [0,1,7] [] (fun k0=>[(8,.d (.lf (.int .i64 (k0:Int))))]) (fun _=>[]) l.length (fun k0=>∀j,j<k0→∀y,l[j]? =some y→p y=false) rfl (by simp) (by simp) fun k0 hk0 hi0 T hT=> ?_
 simp at hT;subst hT
 apply Zr;intros
 refine Zo ?_;simp
 exact Zx
 refine Zv rfl ?_ ?_<;>intro hb0<;>try simp at hb0
 have hx:=B1 hb0 (by omega)
 refine W.skip ?_
 refine Zb ?_
 apply Zr;intros
 iterate 2 (refine Zo ?_ (by simp[hb0,hx]<;>omega);simp[hb0,hx])
 exact Zx
 apply Zr;intros
 iterate 5 (refine Zo ?_ (by simp[hb0,hx]<;>omega);simp[hb0,hx])
 refine WL.call [] _ _ _ rfl rfl (by simp) (g:=g) (caps:=[]) (by simp) (by simp) hg rfl (by simp[hb0,hx]) (by simp) (by simp[hb0,hx]) (hp l[k0] (gm hb0) _) rfl ?_;simp[hb0,hx]
 exact Zx
 refine Zc rfl ?_ ?_<;>intro hb1<;>try simp at hb1
 have hres:=EM hi0 hb0 hb1
 apply Zr;intros
 iterate 2 (refine Zo ?_ (by simp[hb0,hx]<;>omega);simp[hb0,hx])
 exact Zx
 refine W.ret (Zq ?_)
 simp[f188,hres]
 refine W.skip ?_
 apply Zs;intros
 iterate 2 (refine Zo ?_ (by simp[hb0,hx]<;>omega);simp[hb0,hx])
 exact Zx
 refine⟨hb0,Bv hi0 hb0 hb1,Wz.to rfl rfl rfl ?_⟩
 simp
 have hkl:k0=l.length:=by omega
 subst hkl
 have hres:=EL hi0
 refine W.exit ?_
 apply Zr;intros
 refine Zo ?_;simp
 exact Zx
 refine W.ret (Zq ?_)
 simp[f188,hres]
theorem HL (l:List ByteArray) (hm:l.length≤1073741824) (g:Nat) (fn:Func) (body:Code) (hg:CT cx.P g fn body) (p:ByteArray→Bool) (hp:∀y∈l,∀h,CS cx.P g [.d (dS y)] h (.d (.lf (.bool (p y)))) h) (h:HP):CS cx.P 113 [.d (.sl false .one (l.map (dS))),.fn g []] h (.d (.lf (.bool (l.any p)))) h:=by
 refine Ze func113 rfl 9 ?_
 apply Zr;intros
 refine Zo ?_;simp
 exact Zx
 apply Zr;intros
 iterate 2 (refine Zo ?_;simp)
 refine Zl [] rfl func188 (K2 l hm g fn body hg p hp _) ?_;simp
 iterate 2 (refine Zo ?_;simp)
 exact Zx
 refine W.ret (Zq ?_)
 simp[f113, ←BQ]
theorem IJ (l:List ByteArray) (hm:l.length≤1073741824) (g:Nat) (fn:Func) (body:Code) (hg:CT cx.P g fn body) (p:ByteArray→Bool) (k:Nat) (c:DD) (lv:Nat) (hp:∀y∈l,∀lv:Nat,∀h,hpg h lv k=some (.d c)→CS cx.P g [.d (dS y),.pt lv k []] h (.d (.lf (.bool (p y)))) h) (h:HP) (hcap:hpg h lv k=some (.d c)):CS cx.P 188 [.d (.sl false .one (l.map (dS))),.fn g [.pt lv k []]] h (.d (.lf (.int .i64 (CR l p)))) h:=by
 refine Ze func188 rfl 19 ?_
 apply Zr;intros
 refine Zo ?_;simp
 exact Zx
 refine W.seq ?_
 apply Zr;intros
 iterate 3 (refine Zo ?_;simp)
 exact Zx
 refine W.block ?_
 refine W.loopI [0,1,7] [] (fun k0=>[(8,.d (.lf (.int .i64 (k0:Int))))]) (fun _=>[]) l.length (fun k0=>∀j,j<k0→∀y,l[j]? =some y→p y=false) rfl (by simp) (by simp) fun k0 hk0 hi0 T hT=> ?_
 simp at hT;subst hT
 apply Zr;intros
 refine Zo ?_;simp
 exact Zx
 refine Zv rfl ?_ ?_<;>intro hb0<;>try simp at hb0
 have hx:=B1 hb0 (by omega)
 refine W.skip ?_
 refine Zb ?_
 apply Zr;intros
 iterate 2 (refine Zo ?_ (by simp[hb0,hx]<;>omega);simp[hb0,hx])
 exact Zx
 apply Zr;intros
 iterate 5 (refine Zo ?_ (by simp[hb0,hx]<;>omega);simp[hb0,hx])
 refine WL.call [] _ _ _ rfl rfl (by simp) (g:=g) (caps:=[.pt (lv+1) k []]) (by simp) (by simp) hg rfl (by simp[hb0,hx]) (by simp) (by simp[hb0,hx]) (hp l[k0] (gm hb0) (lv+1) _ (by simpa using Df hcap)) rfl ?_;simp[hb0,hx]
 exact Zx
 refine Zc rfl ?_ ?_<;>intro hb1<;>try simp at hb1
 have hres:=EM hi0 hb0 hb1
 apply Zr;intros
 iterate 2 (refine Zo ?_ (by simp[hb0,hx]<;>omega);simp[hb0,hx])
 exact Zx
 refine W.ret (Zq ?_)
 simp[f188,hres]
 refine W.skip ?_
 apply Zs;intros
 iterate 2 (refine Zo ?_ (by simp[hb0,hx]<;>omega);simp[hb0,hx])
 exact Zx
 refine⟨hb0,Bv hi0 hb0 hb1,Wz.to rfl rfl rfl ?_⟩
 simp
 have hkl:k0=l.length:=by omega
 subst hkl
 have hres:=EL hi0
 refine W.exit ?_
 apply Zr;intros
 refine Zo ?_;simp
 exact Zx
 refine W.ret (Zq ?_)
 simp[f188,hres]
theorem GI (l:List ByteArray) (hm:l.length≤1073741824) (g:Nat) (fn:Func) (body:Code) (hg:CT cx.P g fn body) (p:ByteArray→Bool) (k:Nat) (c:DD) (lv:Nat) (hp:∀y∈l,∀lv:Nat,∀h,hpg h lv k=some (.d c)→CS cx.P g [.d (dS y),.pt lv k []] h (.d (.lf (.bool (p y)))) h) (h:HP) (hcap:hpg h lv k=some (.d c)):CS cx.P 113 [.d (.sl false .one (l.map (dS))),.fn g [.pt lv k []]] h (.d (.lf (.bool (l.any p)))) h:=by
 refine Ze func113 rfl 9 ?_
 apply Zr;intros
 refine Zo ?_;simp
 exact Zx
 apply Zr;intros
 iterate 2 (refine Zo ?_;simp)
 refine Zl [] rfl func188 (IJ l hm g fn body hg p k c (lv+1) hp _ (by simpa using Df hcap)) ?_;simp
 iterate 2 (refine Zo ?_;simp)
 exact Zx
 refine W.ret (Zq ?_)
 simp[f113, ←BQ]
theorem HI (l:List A9) (hm:l.length≤1073741824) (g:Nat) (fn:Func) (body:Code) (hg:CT cx.P g fn body) (p:A9→Bool) (k:Nat) (c:DD) (lv:Nat) (hp:∀y∈l,∀lv:Nat,∀h,hpg h lv k=some (.d c)→CS cx.P g [.d (A9.dd false y),.pt lv k []] h (.d (.lf (.bool (p y)))) h) (h:HP) (hcap:hpg h lv k=some (.d c)):CS cx.P 288 [.d (.sl false BA (l.map (A9.dd false))),.fn g [.pt lv k []]] h (.d (.lf (.int .i64 (CR l p)))) h:=by
 refine Ze func288 rfl 19 ?_
 apply Zr;intros
 refine Zo ?_;simp
 exact Zx
 refine W.seq ?_
 apply Zr;intros
 iterate 3 (refine Zo ?_;simp)
 exact Zx
 refine W.block ?_
 refine W.loopI [0,1,7] [] (fun k0=>[(8,.d (.lf (.int .i64 (k0:Int))))]) (fun _=>[]) l.length (fun k0=>∀j,j<k0→∀y,l[j]? =some y→p y=false) rfl (by simp) (by simp) fun k0 hk0 hi0 T hT=> ?_
 simp at hT;subst hT
 apply Zr;intros
 refine Zo ?_;simp
 exact Zx
 refine Zv rfl ?_ ?_<;>intro hb0<;>try simp at hb0
 have hx:=B1 hb0 (by omega)
 refine W.skip ?_
 refine Zb ?_
 apply Zr;intros
 iterate 2 (refine Zo ?_ (by simp[hb0,hx]<;>omega);simp[hb0,hx])
 exact Zx
 apply Zr;intros
 iterate 5 (refine Zo ?_ (by simp[hb0,hx]<;>omega);simp[hb0,hx])
 refine WL.call [] _ _ _ rfl rfl (by simp) (g:=g) (caps:=[.pt (lv+1) k []]) (by simp) (by simp) hg rfl (by simp[hb0,hx]) (by simp) (by simp[hb0,hx]) (hp l[k0] (gm hb0) (lv+1) _ (by simpa using Df hcap)) rfl ?_;simp[hb0,hx]
 exact Zx
 refine Zc rfl ?_ ?_<;>intro hb1<;>try simp at hb1
 have hres:=EM hi0 hb0 hb1
 apply Zr;intros
 iterate 2 (refine Zo ?_ (by simp[hb0,hx]<;>omega);simp[hb0,hx])
 exact Zx
 refine W.ret (Zq ?_)
 simp[f288,hres]
 refine W.skip ?_
 apply Zs;intros
 iterate 2 (refine Zo ?_ (by simp[hb0,hx]<;>omega);simp[hb0,hx])
 exact Zx
 refine⟨hb0,Bv hi0 hb0 hb1,Wz.to rfl rfl rfl ?_⟩
 simp
 have hkl:k0=l.length:=by omega
 subst hkl
 have hres:=EL hi0
 refine W.exit ?_
 apply Zr;intros
 refine Zo ?_;simp
 exact Zx
 refine W.ret (Zq ?_)
 simp[f288,hres]
theorem Fo (l:List A9) (hm:l.length≤1073741824) (g:Nat) (fn:Func) (body:Code) (hg:CT cx.P g fn body) (p:A9→Bool) (k:Nat) (c:DD) (lv:Nat) (hp:∀y∈l,∀lv:Nat,∀h,hpg h lv k=some (.d c)→CS cx.P g [.d (A9.dd false y),.pt lv k []] h (.d (.lf (.bool (p y)))) h) (h:HP) (hcap:hpg h lv k=some (.d c)):CS cx.P 214 [.d (.sl false BA (l.map (A9.dd false))),.fn g [.pt lv k []]] h (.d (.lf (.bool (l.any p)))) h:=by
 refine Ze func214 rfl 9 ?_
 apply Zr;intros
 refine Zo ?_;simp
 exact Zx
 apply Zr;intros
 iterate 2 (refine Zo ?_;simp)
 refine Zl [] rfl func288 (HI l hm g fn body hg p k c (lv+1) hp _ (by simpa using Df hcap)) ?_;simp
 iterate 2 (refine Zo ?_;simp)
 exact Zx
 refine W.ret (Zq ?_)
 simp[f214, ←BQ]
theorem IK (l:List AG) (hm:l.length≤1073741824) (g:Nat) (fn:Func) (body:Code) (hg:CT cx.P g fn body) (p:AG→Bool) (hp:∀y∈l,∀h,CS cx.P g [.d (AG.dd false y)] h (.d (.lf (.bool (p y)))) h) (h:HP):CS cx.P 425 [.d (.sl false Be (l.map (AG.dd false))),.fn g []] h (.d (.lf (.int .i64 (CR l p)))) h:=by
 refine Ze func425 rfl 19 ?_
 apply Zr;intros
 refine Zo ?_;simp
 exact Zx
 refine W.seq ?_
 apply Zr;intros
 iterate 3 (refine Zo ?_;simp)
 exact Zx
 refine W.block ?_
 refine W.loopI [0,1,7] [] (fun k0=>[(8,.d (.lf (.int .i64 (k0:Int))))]) (fun _=>[]) l.length (fun k0=>∀j,j<k0→∀y,l[j]? =some y→p y=false) rfl (by simp) (by simp) fun k0 hk0 hi0 T hT=> ?_
 simp at hT;subst hT
 apply Zr;intros
 refine Zo ?_;simp
 exact Zx
 refine Zv rfl ?_ ?_<;>intro hb0<;>try simp at hb0
 have hx:=B1 hb0 (by omega)
 refine W.skip ?_
 refine Zb ?_
 apply Zr;intros
 iterate 2 (refine Zo ?_ (by simp[hb0,hx]<;>omega);simp[hb0,hx])
 exact Zx
 apply Zr;intros
 iterate 5 (refine Zo ?_ (by simp[hb0,hx]<;>omega);simp[hb0,hx])
 refine WL.call [] _ _ _ rfl rfl (by simp) (g:=g) (caps:=[]) (by simp) (by simp) hg rfl (by simp[hb0,hx]) (by simp) (by simp[hb0,hx]) (hp l[k0] (gm hb0) _) rfl ?_;simp[hb0,hx]
 exact Zx
 refine Zc rfl ?_ ?_<;>intro hb1<;>try simp at hb1
 have hres:=EM hi0 hb0 hb1
 apply Zr;intros
 iterate 2 (refine Zo ?_ (by simp[hb0,hx]<;>omega);simp[hb0,hx])
 exact Zx
 refine W.ret (Zq ?_)
 simp[f425,hres]
 refine W.skip ?_
 apply Zs;intros
 iterate 2 (refine Zo ?_ (by simp[hb0,hx]<;>omega);simp[hb0,hx])
 exact Zx
 refine⟨hb0,Bv hi0 hb0 hb1,Wz.to rfl rfl rfl ?_⟩
 simp
 have hkl:k0=l.length:=by omega
 subst hkl
 have hres:=EL hi0
 refine W.exit ?_
 apply Zr;intros
 refine Zo ?_;simp
 exact Zx
 refine W.ret (Zq ?_)
 simp[f425,hres]
theorem GJ (l:List AG) (hm:l.length≤1073741824) (g:Nat) (fn:Func) (body:Code) (hg:CT cx.P g fn body) (p:AG→Bool) (hp:∀y∈l,∀h,CS cx.P g [.d (AG.dd false y)] h (.d (.lf (.bool (p y)))) h) (h:HP):CS cx.P 382 [.d (.sl false Be (l.map (AG.dd false))),.fn g []] h (.d (.lf (.bool (l.any p)))) h:=by
 refine Ze func382 rfl 9 ?_
 apply Zr;intros
 refine Zo ?_;simp
 exact Zx
 apply Zr;intros
 iterate 2 (refine Zo ?_;simp)
 refine Zl [] rfl func425 (IK l hm g fn body hg p hp _) ?_;simp
 iterate 2 (refine Zo ?_;simp)
 exact Zx
 refine W.ret (Zq ?_)
 simp[f382, ←BQ]
theorem K3 (l:List Ab) (hm:l.length≤1073741824) (g:Nat) (fn:Func) (body:Code) (hg:CT cx.P g fn body) (p:Ab→Bool) (hp:∀y∈l,∀h,CS cx.P g [.d (Ab.dd false y)] h (.d (.lf (.bool (p y)))) h) (h:HP):CS cx.P 330 [.d (.sl false BJ (l.map (Ab.dd false))),.fn g []] h (.d (.lf (.int .i64 (CR l p)))) h:=by
 refine Ze func330 rfl 19 ?_
 apply Zr;intros
 refine Zo ?_;simp
 exact Zx
 refine W.seq ?_
 apply Zr;intros
 iterate 3 (refine Zo ?_;simp)
 exact Zx
 refine W.block ?_
 refine W.loopI [0,1,7] [] (fun k0=>[(8,.d (.lf (.int .i64 (k0:Int))))]) (fun _=>[]) l.length (fun k0=>∀j,j<k0→∀y,l[j]? =some y→p y=false) rfl (by simp) (by simp) fun k0 hk0 hi0 T hT=> ?_
 simp at hT;subst hT
 apply Zr;intros
 refine Zo ?_;simp
 exact Zx
 refine Zv rfl ?_ ?_<;>intro hb0<;>try simp at hb0
 have hx:=B1 hb0 (by omega)
 refine W.skip ?_
 refine Zb ?_
 apply Zr;intros
 iterate 2 (refine Zo ?_ (by simp[hb0,hx]<;>omega);simp[hb0,hx])
 exact Zx
 apply Zr;intros
 iterate 5 (refine Zo ?_ (by simp[hb0,hx]<;>omega);simp[hb0,hx])
 refine WL.call [] _ _ _ rfl rfl (by simp) (g:=g) (caps:=[]) (by simp) (by simp) hg rfl (by simp[hb0,hx]) (by simp) (by simp[hb0,hx]) (hp l[k0] (gm hb0) _) rfl ?_;simp[hb0,hx]
 exact Zx
 refine Zc rfl ?_ ?_<;>intro hb1<;>try simp at hb1
 have hres:=EM hi0 hb0 hb1
 apply Zr;intros
 iterate 2 (refine Zo ?_ (by simp[hb0,hx]<;>omega);simp[hb0,hx])
 exact Zx
 refine W.ret (Zq ?_)
 simp[f330,hres]
 refine W.skip ?_
 apply Zs;intros
 iterate 2 (refine Zo ?_ (by simp[hb0,hx]<;>omega);simp[hb0,hx])
 exact Zx
 refine⟨hb0,Bv hi0 hb0 hb1,Wz.to rfl rfl rfl ?_⟩
 simp
 have hkl:k0=l.length:=by omega
 subst hkl
 have hres:=EL hi0
 refine W.exit ?_
 apply Zr;intros
 refine Zo ?_;simp
 exact Zx
 refine W.ret (Zq ?_)
 simp[f330,hres]
theorem HM (l:List Ab) (hm:l.length≤1073741824) (g:Nat) (fn:Func) (body:Code) (hg:CT cx.P g fn body) (p:Ab→Bool) (hp:∀y∈l,∀h,CS cx.P g [.d (Ab.dd false y)] h (.d (.lf (.bool (p y)))) h) (h:HP):CS cx.P 384 [.d (.sl false BJ (l.map (Ab.dd false))),.fn g []] h (.d (.lf (.bool (l.any p)))) h:=by
 refine Ze func384 rfl 9 ?_
 apply Zr;intros
 refine Zo ?_;simp
 exact Zx
 apply Zr;intros
 iterate 2 (refine Zo ?_;simp)
 refine Zl [] rfl func330 (K3 l hm g fn body hg p hp _) ?_;simp
 iterate 2 (refine Zo ?_;simp)
 exact Zx
 refine W.ret (Zq ?_)
 simp[f384, ←BQ]
theorem G3 (l:List A8) (hm:l.length≤1073741824) (g:Nat) (fn:Func) (body:Code) (hg:CT cx.P g fn body) (p:A8→Bool) (k:Nat) (c:DD) (lv:Nat) (hp:∀y∈l,∀lv:Nat,∀h,hpg h lv k=some (.d c)→CS cx.P g [.d (A8.dd false y),.pt lv k []] h (.d (.lf (.bool (p y)))) h) (h:HP) (hcap:hpg h lv k=some (.d c)):CS cx.P 189 [.d (.sl false Dt (l.map (A8.dd false))),.fn g [.pt lv k []]] h (.d (.lf (.int .i64 (CR l p)))) h:=by
 refine Ze func189 rfl 19 ?_
 apply Zr;intros
 refine Zo ?_;simp
 exact Zx
 refine W.seq ?_
 apply Zr;intros
 iterate 3 (refine Zo ?_;simp)
 exact Zx
 refine W.block ?_
 refine W.loopI [0,1,7] [] (fun k0=>[(8,.d (.lf (.int .i64 (k0:Int))))]) (fun _=>[]) l.length (fun k0=>∀j,j<k0→∀y,l[j]? =some y→p y=false) rfl (by simp) (by simp) fun k0 hk0 hi0 T hT=> ?_
 simp at hT;subst hT
 apply Zr;intros
 refine Zo ?_;simp
 exact Zx
 refine Zv rfl ?_ ?_<;>intro hb0<;>try simp at hb0
 have hx:=B1 hb0 (by omega)
 refine W.skip ?_
 refine Zb ?_
 apply Zr;intros
 iterate 2 (refine Zo ?_ (by simp[hb0,hx]<;>omega);simp[hb0,hx])
 exact Zx
 apply Zr;intros
 iterate 5 (refine Zo ?_ (by simp[hb0,hx]<;>omega);simp[hb0,hx])
 refine WL.call [] _ _ _ rfl rfl (by simp) (g:=g) (caps:=[.pt (lv+1) k []]) (by simp) (by simp) hg rfl (by simp[hb0,hx]) (by simp) (by simp[hb0,hx]) (hp l[k0] (gm hb0) (lv+1) _ (by simpa using Df hcap)) rfl ?_;simp[hb0,hx]
 exact Zx
 refine Zc rfl ?_ ?_<;>intro hb1<;>try simp at hb1
 have hres:=EM hi0 hb0 hb1
 apply Zr;intros
 iterate 2 (refine Zo ?_ (by simp[hb0,hx]<;>omega);simp[hb0,hx])
 exact Zx
 refine W.ret (Zq ?_)
 simp[f189,hres]
 refine W.skip ?_
 apply Zs;intros
 iterate 2 (refine Zo ?_ (by simp[hb0,hx]<;>omega);simp[hb0,hx])
 exact Zx
 refine⟨hb0,Bv hi0 hb0 hb1,Wz.to rfl rfl rfl ?_⟩
 simp
 have hkl:k0=l.length:=by omega
 subst hkl
 have hres:=EL hi0
 refine W.exit ?_
 apply Zr;intros
 refine Zo ?_;simp
 exact Zx
 refine W.ret (Zq ?_)
 simp[f189,hres]
theorem H3 (s:ByteArray):∀(es:List MapEntry) (ks:List ByteArray) (i:Nat),es.map (fun e=>(e.key,e.val))=ks.map (fun s=>(Value.string s,Value.bool true))→
  (B6 ks s=true→∃j,Instr.findNow .string (.string s) es i=some (some (j,.bool true)))∧(B6 ks s=false→Instr.findNow .string (.string s) es i=some none)
 |[],[],i,_=>⟨fun h=>by simp[B6] at h,fun _=>rfl⟩
 |[],_::_,_,h=>by simp at h
 |_::_,[],_,h=>by simp at h
 |e::es,k::ks,i,h=>by
  simp only[List.map_cons,List.cons.injEq,Prod.mk.injEq] at h
  obtain⟨⟨h1,h2⟩,h3⟩:=h
  have ih:=H3 s es ks (i+1) h3
  have e0:Instr.findNow .string (.string s) (e::es) i=if s=k then some (some (i,.bool true)) else Instr.findNow .string (.string s) es (i+1):=by
   show (match Instr.sameNow .string (.string s) e.key with
    |some true=>some (some (i,e.val))
    |some false=>Instr.findNow .string (.string s) es (i+1)
    |none=>none)=_
   rw[h1,h2]
   by_cases q:s=k
   ·have:Instr.sameNow .string (.string s) (.string k)=some true:=by show some (s==k)=_;rw[(Go.MapKept.bytes_beq s k).2 q]
    rw[this,if_pos q]
   ·have:Instr.sameNow .string (.string s) (.string k)=some false:=by show some (s==k)=_;congr 1;cases hb:s==k with
     |false=>rfl
     |true=>exact absurd ((Go.MapKept.bytes_beq s k).1 hb) q
    rw[this,if_neg q]
  rw[e0]
  have e1:B6 (k::ks) s=(decide (k=s)||B6 ks s):=rfl
  rw[e1]
  by_cases q:s=k
  ·simp[q]
  ·have q2:¬k=s:=fun e=>q e.symm
   simp only[if_neg q,decide_eq_false q2,Bool.false_or]
   exact ih
theorem LO {P:Program} {w:World} {B:Nat} {ks:List ByteArray} (h:ER w B ks) {T k e:TypeId} (hT:P.underlying T=some (.map k e)) (hk:P.underlying k=some .string) (hz:∀w,(zeroValue e).run P w=.ok (.bool false) w) (s:ByteArray):
  (Instr.lookup T (.map (some B)) (.string s) false).run P w=.ok (.bool (B6 ks s)) w:=by
 obtain⟨es,clock,hb,he⟩:=h
 obtain⟨f1,f2⟩:=H3 s es.toList ks 0 he
 unfold Instr.lookup
 simp only[Sem.run_bind,run_underlying hT,Result.andThen_ok,Go.MapKept.run_getObj_map hb,Sem.run_pure]
 have hc:∀b,(Instr.checkKey b 10000 k (.string s)).run P w=.ok () w:=fun b=>by
  unfold Instr.checkKey
  simp[run_underlying hk]
 simp only[hc,Result.andThen_ok,Instr.findKey,Sem.run_bind,run_underlying hk]
 cases hs:B6 ks s with
 |true=>obtain⟨j,e⟩:=f1 hs;simp[e]
 |false=>simp[f2 hs,hz]
theorem Y4 {P:Program} {w:World} {B:Nat} {ks:List ByteArray} (h:ER w B ks) {T k e:TypeId} (hT:P.underlying T=some (.map k e)) (hk:P.underlying k=some .string) (s:ByteArray) (hs:B6 ks s=false):
  ∃w',(Instr.mapUpdate T (.map (some B)) (.string s) (.bool true)).run P w=.ok () w'∧ER w' B (ks++[s])∧Below B w w':=by
 obtain⟨es,clock,hb,he⟩:=h
 obtain⟨-,f2⟩:=H3 s es.toList ks 0 he
 have hc:(Instr.checkKey false 10000 k (.string s)).run P w=.ok () w:=by
  unfold Instr.checkKey
  simp[run_underlying hk]
 have hlt:B<w.heap.size:=(Array.getElem?_eq_some_iff.1 hb).1
 refine⟨{ w with heap:=w.heap.setIfInBounds B (.map (es.push ⟨.string s,.bool true,clock⟩) (clock+1)) },?_,⟨es.push ⟨.string s,.bool true,clock⟩,clock+1,?_,?_⟩,⟨rfl,rfl,rfl,by simp,fun b hB=> ?_⟩⟩
 ·unfold Instr.mapUpdate
  simp only[Sem.run_bind,run_underlying hT,Result.andThen_ok,Go.MapKept.run_getObj_map hb,hc,Instr.findKey,run_underlying hk,f2 hs,Sem.run_pure]
  exact Go.MapKept.run_setObj_map _ hb
 ·simp[hlt]
 ·rw[Array.toList_push,List.map_append,List.map_append,he];rfl
 ·have:B≠b:=by omega
  simp[this]
theorem ER.new (w:World):ER (w.alloc (.map #[] 0)) w.heap.size []:=⟨#[],0,heap_alloc_new w _,rfl⟩
set_option maxHeartbeats 1000000 in
theorem Sx (l:List ByteArray) (hl:l.length≤134217728) (w:World) (a:Option Addr) (cap:Nat)
  (hE:∀k (hk:k<l.length),∃g off,a=some ⟨g,off,none⟩∧g<w.heap.size∧w.cell? ⟨g,off+k,none⟩=some (.string l[k])):
  Calls prog 49 #[.slice a l.length cap] w fun e w'=>e=.returned (.bool (dst l))∧Below w.heap.size w w':=by
 go_enter func49,Tryz.ntmps49
 go_wp2
 rw[run_makeMap]
 go_wp2
 have H0:Hid (∀j,j<0→FE l j=true):=by intro j hj;omega
 go_loopw [9] (fun i wr=>∃(k:Nat),k≤l.length∧i=.int .i64 k∧ER wr w.heap.size (l.take k)∧Hid (∀j,j<k→FE l j=true)∧Below w.heap.size w wr) (fun i _=>l.length - (intOf i).toNat)
 case atStart=>exact⟨0,Nat.zero_le _,rfl,ER.new w,H0,(Below.refl _ _).alloc (Nat.le_refl _) _⟩
 case round=>
  clear H0
  obtain⟨k,hk,rfl,hset,Hd,hB⟩:=hrel
  by_cases h1:k<l.length
  ·obtain⟨g,off,rfl,hg,hc⟩:=hE k h1
   have hc2:wr.cell? ⟨g,off+k,none⟩=some (.string l[k]):=by rw[(jU hB).1 g _ hg];exact hc
   have hz:∀w,(zeroValue 4).run prog w=.ok (.bool false) w:=fun w=>by first|exact Tryz.zeroValue4 w|rfl
   cases hh:B6 (l.take k) l[k] with
   |true=>
    go_wp2
    rw[LO hset (T:=165) (k:=9) (e:=4) (by kernel_rfl) (by kernel_rfl) hz,hh]
    go_wp2
    go_ret
    exact⟨by rw[Vu h1 hh];rfl,hB⟩
   |false=>
    have hd2:FE l k=true:=by rw[H8 h1,hh];rfl
    obtain⟨w1,m1,m2,m3⟩:=Y4 (P:=prog) hset (T:=165) (k:=9) (e:=4) (by kernel_rfl) (by kernel_rfl) l[k] hh
    have e1:l.take k++[l[k]]=l.take (k+1):=(Y' h1).symm
    rw[e1] at m2
    go_wp2
    rw[LO hset (T:=165) (k:=9) (e:=4) (by kernel_rfl) (by kernel_rfl) hz,hh]
    go_wp2
    go_roundw
    case rel=>exact⟨k+1,h1,by go_num,m2,FX Hd.out hd2,hB.trans m3⟩
    case measure=>simp[intOf];omega
  ·obtain rfl:k=l.length:=by omega
   go_wp2
   go_ret
   exact⟨by rw[R4 Hd.out];rfl,hB⟩
theorem Y5 {w:World} {F:Nat→Nat} (hF:∀b,w.heap.size≤b→F b=0) {l:List ByteArray} {cs:List Value} (h:rp w F (.sl false .one (l.map dS)) cs []):
  ∃a cap,cs=[.slice a l.length cap]∧∀k (hk:k<l.length),∃b off,a=some ⟨b,off,none⟩∧b<w.heap.size∧w.cell? ⟨b,off+k,none⟩=some (.string l[k]):=by
 simp only[rp] at h
 obtain⟨hs,hp,a,cap,h1,h2,h3,h4,h5⟩:=h
 refine⟨a,cap,by simpa using h1,fun k hk=> ?_⟩
 rcases h5 with ⟨-,h5, -⟩|⟨b,off,r,ha,he,hf,h6⟩
 ·have:l=[]:=by simpa using h5
  subst this;simp at hk
 ·obtain⟨c,bk,g1,g2, -⟩:=rpE.get (l.map dS) off r hs he k (dS l[k]) (by simp[List.getElem?_eq_getElem hk])
  refine⟨b,off,ha,?_,?_⟩
  ·rcases Nat.lt_or_ge b w.heap.size with q|q
   ·exact q
   ·have:=hF b q
    simp[Sh.w] at hf;omega
  ·have e:dS l[k]=.lf (.string l[k]):=rfl
   rw[e] at g2
   simp only[rp] at g2
   rw[g2.1] at g1
   have:=g1 0 (.string l[k]) rfl
   simpa[Sh.w] using this
theorem Lk (l:List ByteArray) (hl:l.length≤134217728) (h:HP):CS cx.P 49 [.d (.sl false .one (l.map dS))] h (.d (.lf (.bool (dst l)))) h:=by
 refine CS.ofVal (c:=cx) (args:=[.sl false .one (l.map dS)]) (v:=.bool (dst l)) (fun w F=>⟨?_,rfl⟩) (fun w vs ⟨F,hF,_,hn,hv⟩=> ?_) h
 ·simp only[rp,BL]
  exact⟨trivial,trivial,trivial⟩
 ·obtain⟨c0,h0,e0⟩:=hv 0 _ rfl
  have ev:(DD.sl false .one (l.map dS)).vw=.sl false .one (l.map dS):=by simp only[DD.vw,DD.vws_eq,List.map_map];rfl
  rw[ev] at h0
  obtain⟨a,cap,rfl,hE⟩:=Y5 hF h0
  match vs,hn,e0 with
  |[u],_,e0=>
   simp[DD.mk] at e0
   subst e0
   exact Sx l hl w a cap hE
theorem Ok (s:ByteArray) (hs:s.size≤134217728) (h:HP):CS cx.P 177 [.d (.lf (.string s))] h (.d (.lf (.bool (!BU s)))) h:=by
 refine Ze func177 rfl 6 ?_
 apply Zr;intros
 refine Zo ?_;simp
 exact Zx
 apply Zr;intros
 refine Zo ?_;simp
 refine Zl [] rfl func106 (CV s hs _) ?_;simp
 iterate 2 (refine Zo ?_;simp)
 exact Zx
 refine W.ret (Zq ?_)
 simp[f177]
theorem GB (l:List ByteArray) (hs:∀s∈l,s.size≤134217728) (hm:l.length≤134217728) (h:HP):CS cx.P 107 [.d (.sl false .one (l.map dS))] h (.d (.lf (.bool (dst l && nms l)))) h:=by
 refine Ze func107 rfl 10 ?_
 apply Zr;intros
 refine Zo ?_;simp
 exact Zx
 refine W.seq ?_
 refine W.regJ0 (D:=_) rfl fun _ K hD hK=> ?_
 refine Zo ?_;simp
 refine Zl [] rfl func49 (Lk l hm _) ?_;simp
 refine Zo ?_;simp
 refine WL.split 5 _ rfl (fun g5=> ?_) fun g5=> ?_<;>try simp at g5
 simp
 refine Zg hD rfl rfl ?_;simp
 refine Zk hD rfl rfl [] rfl func113 (HL l (by omega) 177 f177 _ ⟨func177,rfl,rfl⟩ (fun s=> !BU s) (fun y hy h=>Ok y (hs y hy) h) _) ?_;simp
 refine Zg hD rfl rfl ?_;simp
 iterate 2 (refine Zo ?_;simp)
 refine WL.nil (hK _ ?_)
 refine W.ret (Zq ?_)
 simp[f107,nms,g5]
 simp
 iterate 3 (refine Zn hD rfl rfl ?_;simp)
 iterate 2 (refine Zo ?_;simp)
 refine WL.nil (hK _ ?_)
 refine W.ret (Zq ?_)
 simp[f107,nms,g5]
theorem PF (all:List ByteArray) (hm:all.length≤4294967296) (s:ByteArray) (lv k:Nat) (h:HP) (hcap:hpg h lv k=some (.d (.sl false .one (all.map dS)))):CS cx.P 114 [.d (.lf (.string s)),.pt lv k []] h (.d (.lf (.bool (!B6 all s)))) h:=by
 have hc2:=Df hcap
 refine Ze func114 rfl 8 ?_
 apply Zr;intros
 refine Zo ?_ (by simp[hc2]<;>omega);simp[hc2]
 exact Zx
 apply Zr;intros
 iterate 2 (refine Zo ?_ (by simp[hc2]<;>omega);simp[hc2])
 refine Zl [] rfl func115 (DY all s hm _) ?_ (by simp[hc2]);simp[hc2]
 iterate 2 (refine Zo ?_ (by simp[hc2]<;>omega);simp[hc2])
 exact Zx
 refine W.ret (Zq ?_)
 simp[f114]
theorem EE (l all:List ByteArray) (hl:l.length≤1073741824) (hm:all.length≤4294967296) (h:HP):CS cx.P 48 [.d (.sl false .one (l.map dS)),.d (.sl false .one (all.map dS))] h (.d (.lf (.bool (sub l all)))) h:=by
 refine Ze func48 rfl 9 ?_
 apply Zr;intros
 iterate 2 (refine Zo ?_;simp)
 exact Zx
 apply Zr;intros
 iterate 2 (refine Zo ?_;simp)
 refine Zl [] rfl func113 (GI l hl 114 f114 _ ⟨func114,rfl,rfl⟩ (fun s=> !B6 all s) 3 (.sl false .one (all.map dS)) 0 (fun y hy lv h hc=>PF all hm y lv 3 h hc) _ (by simp)) ?_;simp
 iterate 2 (refine Zo ?_;simp)
 exact Zx
 refine W.ret (Zq ?_)
 simp[f48,sub]
