/- Part 20. No condition. -/
import Derived.Test.YtgihkamifpmfdaaGreatDoorM17
import Derived.Test.YtgihkamifpmfdaaGreatDoorM19
import Derived.Carry
import Derived.MapKept
import Derived.Shelf.Strings.Search1
namespace Go.Proofs.YtgihkamifpmfdaaGreatDoor
open Go.RowKit Go.MapKept Go.Shelf Tryz
set_option maxRecDepth 100000
set_option linter.unusedSimpArgs false
set_option maxHeartbeats 4000000
set_option linter.unusedVariables false
theorem I5 (l:List A0) (hm:l.length≤1073741824) (g:Nat) (fn:Func) (body:Code) (hg:CU cx.P g fn body) (p:A0→Bool) (k:Nat) (c:DD) (lv:Nat) (hp:∀y∈l,∀lv:Nat,∀h,hpg h lv k=some (.d c)→CS cx.P g [.d (A0.dd false y),.pt lv k []] h (dB' (p y)) h) (h:HP) (hcap:hpg h lv k=some (.d c)):CS cx.P 373 [.d (.sl false Ai (l.map (A0.dd false))),.fn g [.pt lv k []]] h (dI' (CT l p)) h:=by
 refine Ze func373 rfl 19 ?_
 refine Zw ?_
 refine W.seq ?_
 refine Zw ?_
 refine W.block ?_
 refine W.loopI [0,1,7] [] (fun k0=>[(8,dI' k0)]) (fun _=>[]) l.length (fun k0=>∀j,j<k0→∀y,l[j]? =some y→p y=false) rfl (by simp) (by simp) fun k0 hk0 hi0 T hT=> ?_
 simp at hT;subst hT
 refine Zw ?_
 refine Zv rfl ?_ ?_<;>intro hb0<;>try simp at hb0
 have hx:=B2 hb0 (by omega)
 refine W.skip ?_
 refine Zb ?_
 refine Zw2 ?_
 apply Zr;intros
 iterate 5 (refine Zo ?_ (by simp[hb0,hx]<;>omega);simp[hb0,hx])
 refine WL.call [] _ _ _ rfl rfl (by simp) (g:=g) (caps:=[.pt (lv+1) k []]) (by simp) (by simp) hg rfl (by simp[hb0,hx]) (by simp) (by simp[hb0,hx]) (hp l[k0] (gm hb0) (lv+1) _ (by simpa using Dh hcap)) rfl ?_;simp[hb0,hx]
 exact Zx
 refine Zc rfl ?_ ?_<;>intro hb1<;>try simp at hb1
 have hres:=EO hi0 hb0 hb1
 refine Zw2 ?_
 refine W.ret (Zq ?_)
 simp[f373,hres]
 refine W.skip ?_
 apply Zs;intros
 iterate 2 (refine Zo ?_ (by simp[hb0,hx]<;>omega);simp[hb0,hx])
 exact Zx
 refine⟨hb0,Bv hi0 hb0 hb1,Wz.to rfl rfl rfl ?_⟩
 simp
 have hkl:k0=l.length:=by omega
 subst hkl
 have hres:=EN hi0
 refine W.exit ?_
 refine Zw ?_
 refine W.ret (Zq ?_)
 simp[f373,hres]
theorem G7 (l:List A0) (hm:l.length≤1073741824) (g:Nat) (fn:Func) (body:Code) (hg:CU cx.P g fn body) (p:A0→Bool) (k:Nat) (c:DD) (lv:Nat) (hp:∀y∈l,∀lv:Nat,∀h,hpg h lv k=some (.d c)→CS cx.P g [.d (A0.dd false y),.pt lv k []] h (dB' (p y)) h) (h:HP) (hcap:hpg h lv k=some (.d c)):CS cx.P 313 [.d (.sl false Ai (l.map (A0.dd false))),.fn g [.pt lv k []]] h (dB' (l.any p)) h:=by
 refine Ze func313 rfl 9 ?_
 refine Zw ?_
 apply Zr;intros
 iterate 2 (refine Zo ?_;simp)
 refine Zl [] rfl func373 (I5 l hm g fn body hg p k c (lv+1) hp _ (by simpa using Dh hcap)) ?_;simp
 iterate 2 (refine Zo ?_;simp)
 exact Zx
 refine W.ret (Zq ?_)
 simp[f313, ←BR]
theorem KM (l:List BA') (hm:l.length≤1073741824) (g:Nat) (fn:Func) (body:Code) (hg:CU cx.P g fn body) (p:BA'→Bool) (hp:∀y∈l,∀h,CS cx.P g [.d (dS y)] h (dB' (p y)) h) (h:HP):CS cx.P 232 [.d (.sl false .one (l.map (dS))),.fn g []] h (dI' (CT l p)) h:=by
 refine Ze func232 rfl 19 ?_
 refine Zw ?_
 refine W.seq ?_
 refine Zw ?_
 refine W.block ?_
 refine W.loopI [0,1,7] [] (fun k0=>[(8,dI' k0)]) (fun _=>[]) l.length (fun k0=>∀j,j<k0→∀y,l[j]? =some y→p y=false) rfl (by simp) (by simp) fun k0 hk0 hi0 T hT=> ?_
 simp at hT;subst hT
 refine Zw ?_
 refine Zv rfl ?_ ?_<;>intro hb0<;>try simp at hb0
 have hx:=B2 hb0 (by omega)
 refine W.skip ?_
 refine Zb ?_
 refine Zw2 ?_
 apply Zr;intros
 iterate 5 (refine Zo ?_ (by simp[hb0,hx]<;>omega);simp[hb0,hx])
 refine WL.call [] _ _ _ rfl rfl (by simp) (g:=g) (caps:=[]) (by simp) (by simp) hg rfl (by simp[hb0,hx]) (by simp) (by simp[hb0,hx]) (hp l[k0] (gm hb0) _) rfl ?_;simp[hb0,hx]
 exact Zx
 refine Zc rfl ?_ ?_<;>intro hb1<;>try simp at hb1
 have hres:=EO hi0 hb0 hb1
 refine Zw2 ?_
 refine W.ret (Zq ?_)
 simp[f232,hres]
 refine W.skip ?_
 apply Zs;intros
 iterate 2 (refine Zo ?_ (by simp[hb0,hx]<;>omega);simp[hb0,hx])
 exact Zx
 refine⟨hb0,Bv hi0 hb0 hb1,Wz.to rfl rfl rfl ?_⟩
 simp
 have hkl:k0=l.length:=by omega
 subst hkl
 have hres:=EN hi0
 refine W.exit ?_
 refine Zw ?_
 refine W.ret (Zq ?_)
 simp[f232,hres]
theorem HT (l:List BA') (hm:l.length≤1073741824) (g:Nat) (fn:Func) (body:Code) (hg:CU cx.P g fn body) (p:BA'→Bool) (hp:∀y∈l,∀h,CS cx.P g [.d (dS y)] h (dB' (p y)) h) (h:HP):CS cx.P 152 [.d (.sl false .one (l.map (dS))),.fn g []] h (dB' (l.any p)) h:=by
 refine Ze func152 rfl 9 ?_
 refine Zw ?_
 apply Zr;intros
 iterate 2 (refine Zo ?_;simp)
 refine Zl [] rfl func232 (KM l hm g fn body hg p hp _) ?_;simp
 iterate 2 (refine Zo ?_;simp)
 exact Zx
 refine W.ret (Zq ?_)
 simp[f152, ←BR]
theorem Ic (l:List BA') (hm:l.length≤1073741824) (g:Nat) (fn:Func) (body:Code) (hg:CU cx.P g fn body) (p:BA'→Bool) (k:Nat) (c:DD) (lv:Nat) (hp:∀y∈l,∀lv:Nat,∀h,hpg h lv k=some (.d c)→CS cx.P g [.d (dS y),.pt lv k []] h (dB' (p y)) h) (h:HP) (hcap:hpg h lv k=some (.d c)):CS cx.P 232 [.d (.sl false .one (l.map (dS))),.fn g [.pt lv k []]] h (dI' (CT l p)) h:=by
 refine Ze func232 rfl 19 ?_
 refine Zw ?_
 refine W.seq ?_
 refine Zw ?_
 refine W.block ?_
 refine W.loopI [0,1,7] [] (fun k0=>[(8,dI' k0)]) (fun _=>[]) l.length (fun k0=>∀j,j<k0→∀y,l[j]? =some y→p y=false) rfl (by simp) (by simp) fun k0 hk0 hi0 T hT=> ?_
 simp at hT;subst hT
 refine Zw ?_
 refine Zv rfl ?_ ?_<;>intro hb0<;>try simp at hb0
 have hx:=B2 hb0 (by omega)
 refine W.skip ?_
 refine Zb ?_
 refine Zw2 ?_
 apply Zr;intros
 iterate 5 (refine Zo ?_ (by simp[hb0,hx]<;>omega);simp[hb0,hx])
 refine WL.call [] _ _ _ rfl rfl (by simp) (g:=g) (caps:=[.pt (lv+1) k []]) (by simp) (by simp) hg rfl (by simp[hb0,hx]) (by simp) (by simp[hb0,hx]) (hp l[k0] (gm hb0) (lv+1) _ (by simpa using Dh hcap)) rfl ?_;simp[hb0,hx]
 exact Zx
 refine Zc rfl ?_ ?_<;>intro hb1<;>try simp at hb1
 have hres:=EO hi0 hb0 hb1
 refine Zw2 ?_
 refine W.ret (Zq ?_)
 simp[f232,hres]
 refine W.skip ?_
 apply Zs;intros
 iterate 2 (refine Zo ?_ (by simp[hb0,hx]<;>omega);simp[hb0,hx])
 exact Zx
 refine⟨hb0,Bv hi0 hb0 hb1,Wz.to rfl rfl rfl ?_⟩
 simp
 have hkl:k0=l.length:=by omega
 subst hkl
 have hres:=EN hi0
 refine W.exit ?_
 refine Zw ?_
 refine W.ret (Zq ?_)
 simp[f232,hres]
theorem GP (l:List BA') (hm:l.length≤1073741824) (g:Nat) (fn:Func) (body:Code) (hg:CU cx.P g fn body) (p:BA'→Bool) (k:Nat) (c:DD) (lv:Nat) (hp:∀y∈l,∀lv:Nat,∀h,hpg h lv k=some (.d c)→CS cx.P g [.d (dS y),.pt lv k []] h (dB' (p y)) h) (h:HP) (hcap:hpg h lv k=some (.d c)):CS cx.P 152 [.d (.sl false .one (l.map (dS))),.fn g [.pt lv k []]] h (dB' (l.any p)) h:=by
 refine Ze func152 rfl 9 ?_
 refine Zw ?_
 apply Zr;intros
 iterate 2 (refine Zo ?_;simp)
 refine Zl [] rfl func232 (Ic l hm g fn body hg p k c (lv+1) hp _ (by simpa using Dh hcap)) ?_;simp
 iterate 2 (refine Zo ?_;simp)
 exact Zx
 refine W.ret (Zq ?_)
 simp[f152, ←BR]
theorem HS (l:List A9) (hm:l.length≤1073741824) (g:Nat) (fn:Func) (body:Code) (hg:CU cx.P g fn body) (p:A9→Bool) (k:Nat) (c:DD) (lv:Nat) (hp:∀y∈l,∀lv:Nat,∀h,hpg h lv k=some (.d c)→CS cx.P g [.d (A9.dd false y),.pt lv k []] h (dB' (p y)) h) (h:HP) (hcap:hpg h lv k=some (.d c)):CS cx.P 247 [.d (.sl false BC (l.map (A9.dd false))),.fn g [.pt lv k []]] h (dI' (CT l p)) h:=by
 refine Ze func247 rfl 19 ?_
 refine Zw ?_
 refine W.seq ?_
 refine Zw ?_
 refine W.block ?_
 refine W.loopI [0,1,7] [] (fun k0=>[(8,dI' k0)]) (fun _=>[]) l.length (fun k0=>∀j,j<k0→∀y,l[j]? =some y→p y=false) rfl (by simp) (by simp) fun k0 hk0 hi0 T hT=> ?_
 simp at hT;subst hT
 refine Zw ?_
 refine Zv rfl ?_ ?_<;>intro hb0<;>try simp at hb0
 have hx:=B2 hb0 (by omega)
 refine W.skip ?_
 refine Zb ?_
 refine Zw2 ?_
 apply Zr;intros
 iterate 5 (refine Zo ?_ (by simp[hb0,hx]<;>omega);simp[hb0,hx])
 refine WL.call [] _ _ _ rfl rfl (by simp) (g:=g) (caps:=[.pt (lv+1) k []]) (by simp) (by simp) hg rfl (by simp[hb0,hx]) (by simp) (by simp[hb0,hx]) (hp l[k0] (gm hb0) (lv+1) _ (by simpa using Dh hcap)) rfl ?_;simp[hb0,hx]
 exact Zx
 refine Zc rfl ?_ ?_<;>intro hb1<;>try simp at hb1
 have hres:=EO hi0 hb0 hb1
 refine Zw2 ?_
 refine W.ret (Zq ?_)
 simp[f247,hres]
 refine W.skip ?_
 apply Zs;intros
 iterate 2 (refine Zo ?_ (by simp[hb0,hx]<;>omega);simp[hb0,hx])
 exact Zx
 refine⟨hb0,Bv hi0 hb0 hb1,Wz.to rfl rfl rfl ?_⟩
 simp
 have hkl:k0=l.length:=by omega
 subst hkl
 have hres:=EN hi0
 refine W.exit ?_
 refine Zw ?_
 refine W.ret (Zq ?_)
 simp[f247,hres]
theorem Fr (l:List A9) (hm:l.length≤1073741824) (g:Nat) (fn:Func) (body:Code) (hg:CU cx.P g fn body) (p:A9→Bool) (k:Nat) (c:DD) (lv:Nat) (hp:∀y∈l,∀lv:Nat,∀h,hpg h lv k=some (.d c)→CS cx.P g [.d (A9.dd false y),.pt lv k []] h (dB' (p y)) h) (h:HP) (hcap:hpg h lv k=some (.d c)):CS cx.P 170 [.d (.sl false BC (l.map (A9.dd false))),.fn g [.pt lv k []]] h (dB' (l.any p)) h:=by
 refine Ze func170 rfl 9 ?_
 refine Zw ?_
 apply Zr;intros
 iterate 2 (refine Zo ?_;simp)
 refine Zl [] rfl func247 (HS l hm g fn body hg p k c (lv+1) hp _ (by simpa using Dh hcap)) ?_;simp
 iterate 2 (refine Zo ?_;simp)
 exact Zx
 refine W.ret (Zq ?_)
 simp[f170, ←BR]
theorem Id (l:List AG) (hm:l.length≤1073741824) (g:Nat) (fn:Func) (body:Code) (hg:CU cx.P g fn body) (p:AG→Bool) (hp:∀y∈l,∀h,CS cx.P g [.d (AG.dd false y)] h (dB' (p y)) h) (h:HP):CS cx.P 446 [.d (.sl false Be (l.map (AG.dd false))),.fn g []] h (dI' (CT l p)) h:=by
 refine Ze func446 rfl 19 ?_
 refine Zw ?_
 refine W.seq ?_
 refine Zw ?_
 refine W.block ?_
 refine W.loopI [0,1,7] [] (fun k0=>[(8,dI' k0)]) (fun _=>[]) l.length (fun k0=>∀j,j<k0→∀y,l[j]? =some y→p y=false) rfl (by simp) (by simp) fun k0 hk0 hi0 T hT=> ?_
 simp at hT;subst hT
 refine Zw ?_
 refine Zv rfl ?_ ?_<;>intro hb0<;>try simp at hb0
 have hx:=B2 hb0 (by omega)
 refine W.skip ?_
 refine Zb ?_
 refine Zw2 ?_
 apply Zr;intros
 iterate 5 (refine Zo ?_ (by simp[hb0,hx]<;>omega);simp[hb0,hx])
 refine WL.call [] _ _ _ rfl rfl (by simp) (g:=g) (caps:=[]) (by simp) (by simp) hg rfl (by simp[hb0,hx]) (by simp) (by simp[hb0,hx]) (hp l[k0] (gm hb0) _) rfl ?_;simp[hb0,hx]
 exact Zx
 refine Zc rfl ?_ ?_<;>intro hb1<;>try simp at hb1
 have hres:=EO hi0 hb0 hb1
 refine Zw2 ?_
 refine W.ret (Zq ?_)
 simp[f446,hres]
 refine W.skip ?_
 apply Zs;intros
 iterate 2 (refine Zo ?_ (by simp[hb0,hx]<;>omega);simp[hb0,hx])
 exact Zx
 refine⟨hb0,Bv hi0 hb0 hb1,Wz.to rfl rfl rfl ?_⟩
 simp
 have hkl:k0=l.length:=by omega
 subst hkl
 have hres:=EN hi0
 refine W.exit ?_
 refine Zw ?_
 refine W.ret (Zq ?_)
 simp[f446,hres]
theorem GQ (l:List AG) (hm:l.length≤1073741824) (g:Nat) (fn:Func) (body:Code) (hg:CU cx.P g fn body) (p:AG→Bool) (hp:∀y∈l,∀h,CS cx.P g [.d (AG.dd false y)] h (dB' (p y)) h) (h:HP):CS cx.P 423 [.d (.sl false Be (l.map (AG.dd false))),.fn g []] h (dB' (l.any p)) h:=by
 refine Ze func423 rfl 9 ?_
 refine Zw ?_
 apply Zr;intros
 iterate 2 (refine Zo ?_;simp)
 refine Zl [] rfl func446 (Id l hm g fn body hg p hp _) ?_;simp
 iterate 2 (refine Zo ?_;simp)
 exact Zx
 refine W.ret (Zq ?_)
 simp[f423, ←BR]
theorem KN (l:List Ac) (hm:l.length≤1073741824) (g:Nat) (fn:Func) (body:Code) (hg:CU cx.P g fn body) (p:Ac→Bool) (hp:∀y∈l,∀h,CS cx.P g [.d (Ac.dd false y)] h (dB' (p y)) h) (h:HP):CS cx.P 382 [.d (.sl false BL (l.map (Ac.dd false))),.fn g []] h (dI' (CT l p)) h:=by
 refine Ze func382 rfl 19 ?_
 refine Zw ?_
 refine W.seq ?_
 refine Zw ?_
 refine W.block ?_
 refine W.loopI [0,1,7] [] (fun k0=>[(8,dI' k0)]) (fun _=>[]) l.length (fun k0=>∀j,j<k0→∀y,l[j]? =some y→p y=false) rfl (by simp) (by simp) fun k0 hk0 hi0 T hT=> ?_
 simp at hT;subst hT
 refine Zw ?_
 refine Zv rfl ?_ ?_<;>intro hb0<;>try simp at hb0
 have hx:=B2 hb0 (by omega)
 refine W.skip ?_
 refine Zb ?_
 refine Zw2 ?_
 apply Zr;intros
 iterate 5 (refine Zo ?_ (by simp[hb0,hx]<;>omega);simp[hb0,hx])
 refine WL.call [] _ _ _ rfl rfl (by simp) (g:=g) (caps:=[]) (by simp) (by simp) hg rfl (by simp[hb0,hx]) (by simp) (by simp[hb0,hx]) (hp l[k0] (gm hb0) _) rfl ?_;simp[hb0,hx]
 exact Zx
 refine Zc rfl ?_ ?_<;>intro hb1<;>try simp at hb1
 have hres:=EO hi0 hb0 hb1
 refine Zw2 ?_
 refine W.ret (Zq ?_)
 simp[f382,hres]
 refine W.skip ?_
 apply Zs;intros
 iterate 2 (refine Zo ?_ (by simp[hb0,hx]<;>omega);simp[hb0,hx])
 exact Zx
 refine⟨hb0,Bv hi0 hb0 hb1,Wz.to rfl rfl rfl ?_⟩
 simp
 have hkl:k0=l.length:=by omega
 subst hkl
 have hres:=EN hi0
 refine W.exit ?_
 refine Zw ?_
 refine W.ret (Zq ?_)
 simp[f382,hres]
theorem HU (l:List Ac) (hm:l.length≤1073741824) (g:Nat) (fn:Func) (body:Code) (hg:CU cx.P g fn body) (p:Ac→Bool) (hp:∀y∈l,∀h,CS cx.P g [.d (Ac.dd false y)] h (dB' (p y)) h) (h:HP):CS cx.P 425 [.d (.sl false BL (l.map (Ac.dd false))),.fn g []] h (dB' (l.any p)) h:=by
 refine Ze func425 rfl 9 ?_
 refine Zw ?_
 apply Zr;intros
 iterate 2 (refine Zo ?_;simp)
 refine Zl [] rfl func382 (KN l hm g fn body hg p hp _) ?_;simp
 iterate 2 (refine Zo ?_;simp)
 exact Zx
 refine W.ret (Zq ?_)
 simp[f425, ←BR]
theorem G6 (l:List A8) (hm:l.length≤1073741824) (g:Nat) (fn:Func) (body:Code) (hg:CU cx.P g fn body) (p:A8→Bool) (k:Nat) (c:DD) (lv:Nat) (hp:∀y∈l,∀lv:Nat,∀h,hpg h lv k=some (.d c)→CS cx.P g [.d (A8.dd false y),.pt lv k []] h (dB' (p y)) h) (h:HP) (hcap:hpg h lv k=some (.d c)):CS cx.P 233 [.d (.sl false Dw (l.map (A8.dd false))),.fn g [.pt lv k []]] h (dI' (CT l p)) h:=by
 refine Ze func233 rfl 19 ?_
 refine Zw ?_
 refine W.seq ?_
 refine Zw ?_
 refine W.block ?_
 refine W.loopI [0,1,7] [] (fun k0=>[(8,dI' k0)]) (fun _=>[]) l.length (fun k0=>∀j,j<k0→∀y,l[j]? =some y→p y=false) rfl (by simp) (by simp) fun k0 hk0 hi0 T hT=> ?_
 simp at hT;subst hT
 refine Zw ?_
 refine Zv rfl ?_ ?_<;>intro hb0<;>try simp at hb0
 have hx:=B2 hb0 (by omega)
 refine W.skip ?_
 refine Zb ?_
 refine Zw2 ?_
 apply Zr;intros
 iterate 5 (refine Zo ?_ (by simp[hb0,hx]<;>omega);simp[hb0,hx])
 refine WL.call [] _ _ _ rfl rfl (by simp) (g:=g) (caps:=[.pt (lv+1) k []]) (by simp) (by simp) hg rfl (by simp[hb0,hx]) (by simp) (by simp[hb0,hx]) (hp l[k0] (gm hb0) (lv+1) _ (by simpa using Dh hcap)) rfl ?_;simp[hb0,hx]
 exact Zx
 refine Zc rfl ?_ ?_<;>intro hb1<;>try simp at hb1
 have hres:=EO hi0 hb0 hb1
 refine Zw2 ?_
 refine W.ret (Zq ?_)
 simp[f233,hres]
 refine W.skip ?_
 apply Zs;intros
 iterate 2 (refine Zo ?_ (by simp[hb0,hx]<;>omega);simp[hb0,hx])
 exact Zx
 refine⟨hb0,Bv hi0 hb0 hb1,Wz.to rfl rfl rfl ?_⟩
 simp
 have hkl:k0=l.length:=by omega
 subst hkl
 have hres:=EN hi0
 refine W.exit ?_
 refine Zw ?_
 refine W.ret (Zq ?_)
 simp[f233,hres]
theorem H9 (s:BA'):∀(es:List MapEntry) (ks:List BA') (i:Nat),es.map (fun e=>(e.key,e.val))=ks.map (fun s=>(Value.string s,Value.bool true))→
  (B7 ks s=true→∃j,Instr.findNow .string (.string s) es i=some (some (j,.bool true)))∧(B7 ks s=false→Instr.findNow .string (.string s) es i=some none)
 |[],[],i,_=>⟨fun h=>by simp[B7] at h,fun _=>rfl⟩
 |[],_::_,_,h=>by simp at h
 |_::_,[],_,h=>by simp at h
 |e::es,k::ks,i,h=>by
  simp only[List.map_cons,List.cons.injEq,Prod.mk.injEq] at h
  obtain⟨⟨h1,h2⟩,h3⟩:=h
  have ih:=H9 s es ks (i+1) h3
  have e0:Instr.findNow .string (.string s) (e::es) i=if s=k then some (some (i,.bool true)) else Instr.findNow .string (.string s) es (i+1):=by
   show (match Instr.sameNow .string (.string s) e.key with
    |some true=>some (some (i,e.val))
    |some false=>Instr.findNow .string (.string s) es (i+1)
    |none=>none)=_
   rw[h1,h2]
   by_cases q:s=k
   ·have:Instr.sameNow .string (.string s) (.string k)=some true:=by show some (s==k)=_;rw[(Go.MapKept.bytes_beq s k).2 q]
    rw[this,if_pos q]
   ·have:Instr.sameNow .string (.string s) (.string k)=some false:=by show some (s==k)=_;congr 1;cases hb:s==k with
     |false=>rfl
     |true=>exact absurd ((Go.MapKept.bytes_beq s k).1 hb) q
    rw[this,if_neg q]
  rw[e0]
  have e1:B7 (k::ks) s=(decide (k=s)||B7 ks s):=rfl
  rw[e1]
  by_cases q:s=k
  ·simp[q]
  ·have q2:¬k=s:=fun e=>q e.symm
   simp only[if_neg q,decide_eq_false q2,Bool.false_or]
   exact ih
theorem Ll {P:Program} {w:World} {B:Nat} {ks:List BA'} (h:ET w B ks) {T k e:TypeId} (hT:P.underlying T=some (.map k e)) (hk:P.underlying k=some .string) (hz:∀w,(zeroValue e).run P w=.ok (.bool false) w) (s:BA'):
  (Instr.lookup T (.map (some B)) (.string s) false).run P w=.ok (.bool (B7 ks s)) w:=by
 obtain⟨es,clock,hb,he⟩:=h
 obtain⟨f1,f2⟩:=H9 s es.toList ks 0 he
 unfold Instr.lookup
 simp only[Sem.run_bind,run_underlying hT,Result.andThen_ok,Go.MapKept.run_getObj_map hb,Sem.run_pure]
 have hc:∀b,(Instr.checkKey b 10000 k (.string s)).run P w=.ok () w:=fun b=>by
  unfold Instr.checkKey
  simp[run_underlying hk]
 simp only[hc,Result.andThen_ok,Instr.findKey,Sem.run_bind,run_underlying hk]
 cases hs:B7 ks s with
 |true=>obtain⟨j,e⟩:=f1 hs;simp[e]
 |false=>simp[f2 hs,hz]
theorem Yz {P:Program} {w:World} {B:Nat} {ks:List BA'} (h:ET w B ks) {T k e:TypeId} (hT:P.underlying T=some (.map k e)) (hk:P.underlying k=some .string) (s:BA') (hs:B7 ks s=false):
  ∃w',(Instr.mapUpdate T (.map (some B)) (.string s) (.bool true)).run P w=.ok () w'∧ET w' B (ks++[s])∧Below B w w':=by
 obtain⟨es,clock,hb,he⟩:=h
 obtain⟨-,f2⟩:=H9 s es.toList ks 0 he
 have hc:(Instr.checkKey false 10000 k (.string s)).run P w=.ok () w:=by
  unfold Instr.checkKey
  simp[run_underlying hk]
 have hlt:B<w.heap.size:=(Array.getElem?_eq_some_iff.1 hb).1
 refine⟨{ w with heap:=w.heap.setIfInBounds B (.map (es.push ⟨.string s,.bool true,clock⟩) (clock+1)) },?_,⟨es.push ⟨.string s,.bool true,clock⟩,clock+1,?_,?_⟩,⟨rfl,rfl,rfl,by simp,fun b hB=> ?_⟩⟩
 ·unfold Instr.mapUpdate
  simp only[Sem.run_bind,run_underlying hT,Result.andThen_ok,Go.MapKept.run_getObj_map hb,hc,Instr.findKey,run_underlying hk,f2 hs,Sem.run_pure]
  exact Go.MapKept.run_setObj_map _ hb
 ·simp[hlt]
 ·rw[Array.toList_push,List.map_append,List.map_append,he];rfl
 ·have:B≠b:=by omega
  simp[this]
theorem ET.new (w:World):ET (w.alloc (.map #[] 0)) w.heap.size []:=⟨#[],0,heap_alloc_new w _,rfl⟩
set_option maxHeartbeats 1000000 in
theorem Tb (l:List BA') (hl:l.length≤134217728) (w:World) (a:Option Addr) (cap:Nat)
  (hE:∀k (hk:k<l.length),∃g off,a=some ⟨g,off,none⟩∧g<w.heap.size∧w.cell? ⟨g,off+k,none⟩=some (.string l[k])):
  Calls prog 77 #[.slice a l.length cap] w fun e w'=>e=.returned (.bool (dst l))∧Below w.heap.size w w':=by
 go_enter func77,Tryz.ntmps77
 go_wp2
 rw[run_makeMap]
 go_wp2
 have H0:Hid (∀j,j<0→FG l j=true):=by intro j hj;omega
 go_loopw [9] (fun i wr=>∃(k:Nat),k≤l.length∧i=.int .i64 k∧ET wr w.heap.size (l.take k)∧Hid (∀j,j<k→FG l j=true)∧Below w.heap.size w wr) (fun i _=>l.length - (intOf i).toNat)
 case atStart=>exact⟨0,Nat.zero_le _,rfl,ET.new w,H0,(Below.refl _ _).alloc (Nat.le_refl _) _⟩
 case round=>
  clear H0
  obtain⟨k,hk,rfl,hset,Hd,hB⟩:=hrel
  by_cases h1:k<l.length
  ·obtain⟨g,off,rfl,hg,hc⟩:=hE k h1
   have hc2:wr.cell? ⟨g,off+k,none⟩=some (.string l[k]):=by rw[(lG hB).1 g _ hg];exact hc
   have hz:∀w,(zeroValue 4).run prog w=.ok (.bool false) w:=fun w=>by first|exact Tryz.zeroValue4 w|rfl
   cases hh:B7 (l.take k) l[k] with
   |true=>
    go_wp2
    rw[Ll hset (T:=223) (k:=9) (e:=4) (by kernel_rfl) (by kernel_rfl) hz,hh]
    go_wp2
    go_ret
    exact⟨by rw[We h1 hh];rfl,hB⟩
   |false=>
    have hd2:FG l k=true:=by rw[HE h1,hh];rfl
    obtain⟨w1,m1,m2,m3⟩:=Yz (P:=prog) hset (T:=223) (k:=9) (e:=4) (by kernel_rfl) (by kernel_rfl) l[k] hh
    have e1:l.take k++[l[k]]=l.take (k+1):=(Y' h1).symm
    rw[e1] at m2
    go_wp2
    rw[Ll hset (T:=223) (k:=9) (e:=4) (by kernel_rfl) (by kernel_rfl) hz,hh]
    go_wp2
    go_roundw
    case rel=>exact⟨k+1,h1,by go_num,m2,FZ Hd.out hd2,hB.trans m3⟩
    case measure=>simp[intOf];omega
  ·obtain rfl:k=l.length:=by omega
   go_wp2
   go_ret
   exact⟨by rw[Rd Hd.out];rfl,hB⟩
theorem Z0 {w:World} {F:Nat→Nat} (hF:∀b,w.heap.size≤b→F b=0) {l:List BA'} {cs:List Value} (h:rp w F (.sl false .one (l.map dS)) cs []):
  ∃a cap,cs=[.slice a l.length cap]∧∀k (hk:k<l.length),∃b off,a=some ⟨b,off,none⟩∧b<w.heap.size∧w.cell? ⟨b,off+k,none⟩=some (.string l[k]):=by
 simp only[rp] at h
 obtain⟨hs,hp,a,cap,h1,h2,h3,h4,h5⟩:=h
 refine⟨a,cap,by simpa using h1,fun k hk=> ?_⟩
 rcases h5 with ⟨-,h5, -⟩|⟨b,off,r,ha,he,hf,h6⟩
 ·have:l=[]:=by simpa using h5
  subst this;simp at hk
 ·obtain⟨c,bk,g1,g2, -⟩:=rpE.get (l.map dS) off r hs he k (dS l[k]) (by simp[List.getElem?_eq_getElem hk])
  refine⟨b,off,ha,?_,?_⟩
  ·rcases Nat.lt_or_ge b w.heap.size with q|q
   ·exact q
   ·have:=hF b q
    simp[Sh.w] at hf;omega
  ·have e:dS l[k]=.lf (.string l[k]):=rfl
   rw[e] at g2
   simp only[rp] at g2
   rw[g2.1] at g1
   have:=g1 0 (.string l[k]) rfl
   simpa[Sh.w] using this
theorem M7 (l:List BA') (hl:l.length≤134217728) (h:HP):CS cx.P 77 [.d (.sl false .one (l.map dS))] h (dB' (dst l)) h:=by
 refine CS.ofVal (c:=cx) (args:=[.sl false .one (l.map dS)]) (v:=.bool (dst l)) (fun w F=>⟨?_,rfl⟩) (fun w vs ⟨F,hF,_,hn,hv⟩=> ?_) h
 ·simp only[rp,BK]
  exact⟨trivial,trivial,trivial⟩
 ·obtain⟨c0,h0,e0⟩:=hv 0 _ rfl
  have ev:(DD.sl false .one (l.map dS)).vw=.sl false .one (l.map dS):=by simp only[DD.vw,DD.vws_eq,List.map_map];rfl
  rw[ev] at h0
  obtain⟨a,cap,rfl,hE⟩:=Z0 hF h0
  match vs,hn,e0 with
  |[u],_,e0=>
   simp[DD.mk] at e0
   subst e0
   exact Tb l hl w a cap hE
theorem Vp (s:BA') (c:Int) (w:World):Calls prog 452 #[.string s,.int .u8 c] w fun e w'=>e=.returned (.int .i64 (Lib.indexByte s.data.toList c.toNat.toUInt8))∧w'=w:=by
 go_enter func452,Tryz.ntmps452
 go_wp2
 rw[run_callFunc_extern func456 (by kernel_rfl) (by kernel_rfl) (by kernel_rfl) (e:=Extern.BytealgIndexByte.indexByte) (by kernel_rfl),Lib.run_indexByteString]
 simp only[Result.andThen]
 rw[Oper.upon_value]
 go_wp2
 go_ret
 exact⟨rfl,rfl⟩
theorem IE {w:World} {B b:Nat} {o:Obj} (h:b≠B):({ w with heap:=w.heap.setIfInBounds B o }:World).heap[b]? =w.heap[b]? :=by
 have:B≠b:=fun e=>h e.symm
 simp[this]
theorem Uz {P:Program} {w:World} {B:Nat} {ks:List BA'} (h:ET w B ks) {T k e:TypeId} (hT:P.underlying T=some (.map k e)) (hk:P.underlying k=some .string) (s:BA') (hs:B7 ks s=false):
  ∃o,(Instr.mapUpdate T (.map (some B)) (.string s) (.bool true)).run P w=.ok () { w with heap:=w.heap.setIfInBounds B o }∧ET { w with heap:=w.heap.setIfInBounds B o } B (ks++[s]):=by
 obtain⟨es,clock,hb,he⟩:=h
 obtain⟨-,f2⟩:=H9 s es.toList ks 0 he
 have hc:(Instr.checkKey false 10000 k (.string s)).run P w=.ok () w:=by
  unfold Instr.checkKey
  simp[run_underlying hk]
 have hlt:B<w.heap.size:=(Array.getElem?_eq_some_iff.1 hb).1
 refine⟨.map (es.push ⟨.string s,.bool true,clock⟩) (clock+1),?_,⟨es.push ⟨.string s,.bool true,clock⟩,clock+1,?_,?_⟩⟩
 ·unfold Instr.mapUpdate
  simp only[Sem.run_bind,run_underlying hT,Result.andThen_ok,Go.MapKept.run_getObj_map hb,hc,Instr.findKey,run_underlying hk,f2 hs,Sem.run_pure]
  exact Go.MapKept.run_setObj_map _ hb
 ·simp[hlt]
 ·rw[Array.toList_push,List.map_append,List.map_append,he];rfl
theorem fC {w:World} {F:Nat→Nat} {B:Nat} {o:Obj} {E:Nat→Prop} (h0:F B=0) (hE:E B):Ks w F { w with heap:=w.heap.setIfInBounds B o } F E where
 os:=rfl
 tape:=rfl
 output:=rfl
 size:=by simp
 cell:=fun b q hq=>Fx (IE (fun e=>by subst e;omega)) q
 mono:=fun _=>Nat.le_refl _
 out:=fun b _ hn=>⟨IE (fun e=>hn (by rw[e];exact hE)),rfl⟩
theorem fD {w:World} {F:Nat→Nat} {o:Obj} {E:Nat→Prop} (ht:∀b,w.heap.size≤b→F b=0):Ks w F (w.alloc o) F E:=by
 have he:∀b,b<w.heap.size→(w.alloc o).heap[b]? =w.heap[b]? :=fun b hb=>by
  show(w.heap.push o)[b]? =_
  rw[Array.getElem?_push_lt hb,Array.getElem?_eq_getElem hb]
 refine⟨rfl,rfl,rfl,?_,fun b q hq=> ?_,fun _=>Nat.le_refl _,fun b hb _=>⟨he b hb,rfl⟩⟩
 ·show w.heap.size≤(w.heap.push o).size
  simp
 ·rcases Nat.lt_or_ge b w.heap.size with h|h
  ·exact Fx (he b h) q
  ·have:=ht b h;omega
section
variable {c:Cx} {o:Oper} {S:St}
theorem Ou (hd:∀k,o.dst=some k→k<S.n) (T:Nat) (ho:o.op=.makeMap T none):Snd c o S ⟨S.n,B1 S.tm o.dst (.mt []),S.hp⟩:=by
 intro w F Θ own a hR
 have hrun:(execOp a.eval o).run c.P w=.ok (.value (.map (some w.heap.size))) (w.alloc (.map #[] 0)):=by
  unfold execOp
  simp[ho,Instr.makeMap]
 have hsz:(w.alloc (.map #[] 0)).heap.size=w.heap.size+1:=by show(w.heap.push _).size=_;simp
 obtain⟨own',g1,g2⟩:=hR.fin (w':=w.alloc (.map #[] 0)) (F':=F) o.dst hd [] (.mt []) (.map (some w.heap.size)) [w.heap.size] (fD hR.top) (fun b hb=>hR.top b (by omega))
  (by simp only[rv];exact⟨fun u h=>(by cases h),_,rfl,rfl,hR.top _ (Nat.le_refl _),ET.new w⟩) (by simp) (fun b hb=>by simp only[List.mem_singleton] at hb;exact .inr (by omega)) (fun b hb=>by simp only[List.mem_singleton] at hb;omega)
 exact⟨_,_,F,Θ,own',.inl hrun,g1,g2⟩
theorem Ov (hd:∀k,o.dst=some k→k<S.n) (T:Nat) (x i:Operand) (ho:o.op=.lookup T x i false) {v:Value} {ks:List BA'} {t:Nat} {s:BA'} (hx:evT c 0 S x=.pv v) (ox:okO c 0 x) (hi:evT c 0 S i=dS' s) (oi:okO c 0 i) (hm:S.tm t=.mn v ks)
  {k e:Nat} (hT:c.P.underlying T=some (.map k e)) (hk:c.P.underlying k=some .string) (hz:∀w,(zeroValue e).run c.P w=.ok (.bool false) w):Snd c o S ⟨S.n,B1 S.tm o.dst (.d (.lf (.bool (B7 ks s)))),S.hp⟩:=by
 intro w F Θ own a hR
 obtain⟨e2, -⟩:=CM hR hi oi
 have hvx:=BU hR ox
 rw[hx] at hvx
 simp only[rv] at hvx
 obtain⟨-,e1⟩:=hvx
 have hb:=hR.tm t
 rw[hm] at hb
 simp only[rv] at hb
 obtain⟨h0,B,h1,h2,h3,h4⟩:=hb
 have h0:=h0 v rfl
 have hrun:(execOp a.eval o).run c.P w=.ok (.value (.bool (B7 ks s))) w:=by
  unfold execOp
  have e3:a.eval x=.map (some B):=by rw[e1, ←h0,h1]
  simp[ho,e3,e2,Ll h4 hT hk hz s]
 obtain⟨own',g1,g2⟩:=hR.pure o.dst hd [] List.nodup_nil (.d (.lf (.bool (B7 ks s)))) _ (Dr trivial)
 exact⟨_,w,F,Θ,own',.inl hrun,g1,g2⟩
theorem Ot (hd:o.dst=none) (T:Nat) (x i:Operand) (ho:o.op=.mapUpdate T x i (.const (.bool true))) {v:Value} {ks:List BA'} {t:Nat} {s:BA'} (hx:evT c 0 S x=.pv v) (ox:okO c 0 x) (hi:evT c 0 S i=dS' s) (oi:okO c 0 i) (hm:S.tm t=.mn v ks) (htn:t<S.n)
  {k e:Nat} (hT:c.P.underlying T=some (.map k e)) (hk:c.P.underlying k=some .string) (hs:B7 ks s=false):Snd c o S ⟨S.n,upd (BD S.tm [t]) t (.mn v (ks++[s])),S.hp⟩:=by
 intro w F Θ own a hR
 obtain⟨e2, -⟩:=CM hR hi oi
 have hvx:=BU hR ox
 rw[hx] at hvx
 simp only[rv] at hvx
 obtain⟨-,e1⟩:=hvx
 have hb:=hR.tm t
 rw[hm] at hb
 simp only[rv] at hb
 obtain⟨h0,B,h1,h2,h3,h4⟩:=hb
 have h0:=h0 v rfl
 obtain⟨ob,k1,k2⟩:=Uz h4 hT hk s hs
 have hrun:(execOp a.eval o).run c.P w=.ok .skip { w with heap:=w.heap.setIfInBounds B ob }:=by
  unfold execOp
  have e3:a.eval x=.map (some B):=by rw[e1, ←h0,h1]
  have e4:a.eval (.const (.bool true))=.bool true:=rfl
  simp[ho,e3,e2,e4,k1]
 have hB:B∈own (.t t):=by rw[h2];simp
 obtain⟨own',w1,w2⟩:=hR.fin (w':={ w with heap:=w.heap.setIfInBounds B ob }) (F':=F) (some t) (fun k hk=>by cases hk;exact htn) [t] (.mn v (ks++[s])) (a.tmps.getD t undef) [B]
  (fC h3 ⟨t, by simp, hB⟩) (fun b hb => hR.top b (by simpa using hb)) (by simp only [rv]; exact ⟨fun u h => (by cases h; exact h0), B, h1, rfl, h3, k2⟩) (by simp) (fun b hb => by simp only [List.mem_singleton] at hb; subst hb; exact .inl ⟨t, by simp, hB⟩) (fun b hb => by
   simp only[List.mem_singleton] at hb;subst hb
   have:=hR.lt _ _ hB
   simpa using this)
 rw[Gs] at w1
 refine⟨undef,_,F,Θ,own',.inr ⟨rfl,hrun⟩,?_,w2⟩
 rw[hd]
 exact w1
theorem Rel.mtOpen {w:World} {F:Nat→Nat} {Θ:Ty} {own:Who→List Nat} {a:Act} (h:Rel w F Θ own S a) {t:Nat} {ks:List BA'} (ht:S.tm t=.mt ks):∃v,Rel w F Θ own ⟨S.n,upd S.tm t (.mn v ks),S.hp⟩ a:=by
 have hv:=h.tm t
 rw[ht] at hv
 simp only[rv] at hv
 obtain⟨-,hv⟩:=hv
 refine⟨a.tmps.getD t undef,h.asT t _ ?_⟩
 simp only[rv]
 exact⟨fun u q=>(by cases q;rfl),hv⟩
theorem W.mtOpen {code:Code} {Q:Exit→St→Prop} (t:Nat) {ks:List BA'} (k:∀v,W c code ⟨S.n,upd S.tm t (.mn v ks),S.hp⟩ Q) (ht:S.tm t=.mt ks:=by rfl):W c code S Q:=fun w F Θ own a hR=>by
 obtain⟨v,h⟩:=hR.mtOpen ht
 exact k v w F Θ own a h
end
section
variable {c:Cx} {M:List Nat} {ops:Array Oper} {o:Oper} {l:List Oper} {K:St→Prop} {Q:Exit→St→Prop} {code:Code} {n d k t:Nat} {f:Nat→AV} {hp:HP}
theorem kE:cx.P.underlying 223=some (.map 9 4):=by kernel_rfl
theorem kG:cx.P.underlying 9=some .string:=by kernel_rfl
theorem oA:∀w,(zeroValue 4).run cx.P w=.ok (.bool false) w:=fun w=>by first|exact Tryz.zeroValue4 w|rfl
theorem Fqn {v:Value} {ks:List BA'} (ho:o.op=.move (.tmp t):=by rfl) (hx:f t=.mn v ks:=by rfl) (hd:o.dst=some k:=by rfl) (hm:mvB M (some k)=false:=by rfl) (hk:Nat.ble (k+1) n=true:=by rfl):FO c M o ⟨n,f,hp⟩ ⟨n,upn f k (.pv v),hp⟩ ⟨[],.val⟩:=by
 have hk:=B8 hk
 refine⟨?_,?_,?_⟩
 ·simp only[okP,cls,ho,hd,hm,cond_false];exact⟨fun _ h=>by cases h;exact hk,by simp,trivial⟩
 ·simp only[nx,nxP,cls,val,ho,hd,hm,cond_false,B0,evT,hx,AV.vw,BD,B1]
 ·simp only[B5,Fsk.sk,Ef.kd,cls,ho,hd,hm,cond_false]
theorem Fqa {ks:List BA'} (ho:o.op=.assign (.tmp t):=by rfl) (hx:f t=.mt ks:=by rfl) (hd:o.dst=some k:=by rfl) (hk:Nat.ble (k+1) n=true:=by rfl):FO c M o ⟨n,f,hp⟩ ⟨n,upn (upn f t .un) k (.mt ks),hp⟩ ⟨[t],.val⟩:=by
 have hk:=B8 hk
 refine⟨?_,?_,?_⟩
 ·simp only[okP,cls,ho,hd,tmO];exact⟨fun _ h=>by cases h;exact hk,by simp,by trivial⟩
 ·simp only[nx,nxP,cls,val,ho,hd,B0,tkT,hx,tmO,BD,B1,AV.vw]
 ·simp only[B5,Fsk.sk,Ef.kd,cls,ho,tmO]
theorem Xqm (M:List Nat) {S S1:St} {sk:Sk} (kk:WL c ops l S1 K) (hg:o.guard=none:=by rfl) (h:FO c M o S S1 sk:=by first|exact Fqn|exact Fqa):WL c ops (o::l) S K:=WL.op M hg h.ok h.nx kk
theorem XqN {T:Nat} (kk:WL c ops l ⟨n,upn f d (.mt []),hp⟩ K) (ho:o.op=.makeMap T none:=by rfl) (hd:o.dst=some d:=by rfl) (hg:o.guard=none:=by rfl) (hk:Nat.ble (d+1) n=true:=by rfl):WL c ops (o::l) ⟨n,f,hp⟩ K:=by
 have hk:=B8 hk
 refine WL.cons (OS.op (by unfold wnt;rw[hg]) (Ou (fun q hq=>by rw[hd] at hq;cases hq;exact hk) T ho)) ?_
 simp only[hd,B1]
 rw[B0] at kk;exact kk
theorem XqO (t:Nat) {ks:List BA'} (kk:∀v,W c code ⟨n,upn f t (.mn v ks),hp⟩ Q) (ht:f t=.mt ks:=by rfl):W c code ⟨n,f,hp⟩ Q:=
 W.mtOpen t (fun v=>by have h:=kk v;rw[B0] at h;exact h) ht
theorem XqH (t:Nat) {x i:Nat} {v:Value} {ks:List BA'} {s:BA'} {r:Bool} (kk:WL cx ops l ⟨n,upn f d (dB' r),hp⟩ K) (ho:o.op=.lookup 223 (.tmp x) (.tmp i) false:=by rfl) (hx:f x=.pv v:=by rfl) (hi:f i=dS' s:=by rfl) (ht:f t=.mn v ks:=by rfl) (hd:o.dst=some d:=by rfl) (hg:o.guard=none:=by rfl) (hr:B7 ks s=r:=by rfl) (hk:Nat.ble (d+1) n=true:=by rfl):WL cx ops (o::l) ⟨n,f,hp⟩ K:=by
 have hk:=B8 hk
 subst hr
 refine WL.cons (OS.op (by unfold wnt;rw[hg]) (Ov (fun q hq=>by rw[hd] at hq;cases hq;exact hk) _ (.tmp x) (.tmp i) ho (v:=v) (s:=s) (by simp only[evT,hx,AV.vw]) trivial (by simp only[evT,hi,AV.vw,DD.vw]) trivial ht kE kG oA)) ?_
 simp only[hd,B1]
 rw[B0] at kk;exact kk
theorem XqP (t:Nat) {x i:Nat} {v:Value} {ks ks':List BA'} {s:BA'} (kk:WL cx ops l ⟨n,upn f t (.mn v ks'),hp⟩ K) (ho:o.op=.mapUpdate 223 (.tmp x) (.tmp i) (.const (.bool true)):=by rfl) (hx:f x=.pv v:=by rfl) (hi:f i=dS' s:=by rfl) (ht:f t=.mn v ks:=by rfl) (hd:o.dst=none:=by rfl) (hg:o.guard=none:=by rfl) (hs:B7 ks s=false:=by assumption) (hE:ks++[s]=ks':=by rfl) (htn:Nat.ble (t+1) n=true:=by rfl):WL cx ops (o::l) ⟨n,f,hp⟩ K:=by
 have htn:=B8 htn
 subst hE
 refine WL.cons (OS.op (by unfold wnt;rw[hg]) (Ot hd _ (.tmp x) (.tmp i) ho (v:=v) (s:=s) (by simp only[evT,hx,AV.vw]) trivial (by simp only[evT,hi,AV.vw,DD.vw]) trivial ht htn kE kG hs)) ?_
 have e:(upd (BD f [t]) t (.mn v (ks++[s])):Nat→AV)=upn f t (.mn v (ks++[s])):=by
  simp only[B0,BD]
  funext u
  by_cases e:u=t
  ·subst e;rw[Aw,Aw]
  ·rw[BE _ _ e,BE _ _ e,BE _ _ e]
 show WL cx ops l ⟨n,_,hp⟩ K
 rw[e];exact kk
end
