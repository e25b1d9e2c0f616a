/- Part 33. No condition. -/
import Derived.Test.YtdooklofebdknaaGreatM32
namespace Go.Proofs.YtdooklofebdknaaGreat
open Go.RowKit
set_option linter.unusedSimpArgs false
set_option linter.unusedVariables false
def szW (t:A0):Int:=IntKind.i64.wrap (AQ t:Int)
def tbg (a b:A0):Bool:=decide (4000<IntKind.i64.wrap (szW a+szW b))
theorem cE:cF tbg:=fun a b h h1 h2=>by
 unfold big at h1 h2
 unfold tbg szW at h
 rw[BF (n:=(AQ a:Int)) (by omega) (by omega),BF (n:=(AQ b:Int)) (by omega) (by omega),BF (by omega) (by omega)] at h
 simp only[decide_eq_false_iff_not] at h
 omega
def ulK (f:List A5→A0→A0→Option (Option (List A5))) (s:List A5) (a b:List A0) (k:Nat):List A5:=((unL f s (a.take k) (b.take k)).getD none).getD []
def ulI (f:List A5→A0→A0→Option (Option (List A5))) (s:List A5) (a b:List A0) (k:Nat):Prop:=unL f s (a.take k) (b.take k)=some (some (ulK f s a b k))
section
variable {f:List A5→A0→A0→Option (Option (List A5))}
theorem X5 (s:List A5) (b:List A0):unL f s [] b=some (some s):=by cases b<;>rfl
theorem X4 (s:List A5) (x y:A0):unL f s [x] [y]=f s x y:=by
 rw[unL]
 cases f s x y with
 |none=>rfl
 |some q=>cases q<;>rfl
theorem L9:∀(a b a2 b2:List A0) (s:List A5),a.length=b.length→unL f s (a++a2) (b++b2)=match unL f s a b with|some (some s1)=>unL f s1 a2 b2|r=>r
 |[],[],a2,b2,s,_=>by simp[unL]
 |x::a,y::b,a2,b2,s,h=>by
  simp only[List.cons_append,unL]
  cases f s x y with
  |none=>rfl
  |some q=>
   cases q with
   |none=>rfl
   |some s1=>exact L9 a b a2 b2 s1 (by simpa using h)
 |[],_::_,_,_,_,h=>by simp at h
 |_::_,[],_,_,_,h=>by simp at h
theorem MZ (s:List A5) (a b:List A0):ulK f s a b 0=s:=by simp[ulK,unL]
theorem Ma (s:List A5) (a b:List A0):ulI f s a b 0:=by simp[ulI,ulK,unL]
variable {s s1:List A5} {a b:List A0} {k:Nat}
theorem Mb (hl:a.length=b.length) (h:ulI f s a b k) (hk:k<a.length):unL f s (a.take (k+1)) (b.take (k+1))=f (ulK f s a b k) a[k] (b[k]'(by omega)):=by
 rw[Y' hk,Y' (show k<b.length by omega),L9 _ _ _ _ _ (by simp;omega),h]
 exact X4 _ _ _
theorem X8 (hl:a.length=b.length) (h:ulI f s a b k) (hk:k<a.length) (e:f (ulK f s a b k) a[k] (b[k]'(by omega))=some (some s1)):ulI f s a b (k+1)∧ulK f s a b (k+1)=s1:=by
 have h1:=Mb hl h hk
 rw[e] at h1
 have h2:ulK f s a b (k+1)=s1:=by unfold ulK;rw[h1];rfl
 exact⟨by unfold ulI;rw[h1,h2],h2⟩
theorem Mc (hl:a.length=b.length) (h:ulI f s a b k) (hk:k<a.length) {r:Option (Option (List A5))} (e:f (ulK f s a b k) a[k] (b[k]'(by omega))=r) (hr:∀s1,r≠some (some s1)):unL f s a b=r:=by
 have h1:=Mb hl h hk
 rw[e] at h1
 have h2:=L9 (f:=f) (a.take (k+1)) (b.take (k+1)) (a.drop (k+1)) (b.drop (k+1)) s (by simp;omega)
 rw[List.take_append_drop,List.take_append_drop,h1] at h2
 rw[h2]
 cases r with
 |none=>rfl
 |some q=>
  cases q with
  |none=>rfl
  |some s1=>exact absurd rfl (hr s1)
theorem br (hl:a.length=b.length) (h:ulI f s a b k) (hk:k<a.length) (e:f (ulK f s a b k) a[k] (b[k]'(by omega))=some none):unL f s a b=some none:=Mc hl h hk e (by simp)
theorem GP (hl:a.length=b.length) (h:ulI f s a b k) (hk:k<a.length) (hs:(unL f s a b).isSome=true):(f (ulK f s a b k) a[k] (b[k]'(by omega))).isSome=true:=by
 cases e:f (ulK f s a b k) a[k] (b[k]'(by omega)) with
 |none=>rw[Mc hl h hk e (by simp)] at hs;cases hs
 |some r=>rfl
theorem X9 (hl:a.length=b.length) (h:ulI f s a b k) (hk:a.length≤k):unL f s a b=some (some (ulK f s a b k)):=by
 unfold ulI at h
 rwa [List.take_of_length_le hk,List.take_of_length_le (by omega)] at h
end
theorem fE {s:List A5} {v:ByteArray} {t:A0} (h:∀b∈s,b.AM.wd) (ht:t.wd):∀b∈bnd s v t,b.AM.wd:=fun b hb=>by
 unfold bnd at hb
 rcases List.mem_append.1 hb with hb|hb
 ·obtain⟨c,hc,rfl⟩:=List.mem_map.1 hb
  exact MP (M6 ht) (h c hc)
 ·simp only[List.mem_singleton] at hb;subst hb;exact ht
theorem Dy {U:List ByteArray}:∀{l:List A0},D7 U l→∀x∈l,vin U x
 |y::l,h,x,hx=>by
  simp only[D7] at h
  rcases List.mem_cons.1 hx with rfl|hx
  ·exact h.1
  ·exact Dy h.2 x hx
theorem L5 {U:List ByteArray}:∀{l:List A0},(∀x∈l,vin U x)→D7 U l
 |[],_=>trivial
 |x::l,h=>by simp only[D7];exact⟨h x (by simp),L5 fun y hy=>h y (by simp[hy])⟩
structure UI (U:List ByteArray) (s:List A5):Prop where
 id:Idm U s
 wd:∀b∈s,b.AM.wd
 ln:U.length≤67108864
structure UT (U:List ByteArray) (x:A0):Prop where
 vi:vin U x
 wd:x.wd
theorem UI.len {U:List ByteArray} {s:List A5} (h:UI U s):s.length≤67108864:=Nat.le_trans h.id.len h.ln
theorem UT.ap {U:List ByteArray} {s:List A5} {x:A0} (h:UI U s) (hx:UT U x):UT U (ap s x):=⟨HR h.id.vu hx.vi,MP h.wd hx.wd⟩
theorem UT.args {U:List ByteArray} {x:A0} (h:UT U x):∀y∈x.AB,UT U y:=fun y hy=>⟨Dy (Eb h.vi) y hy,Bj h.wd y hy⟩
theorem UI.bnd {U:List ByteArray} {s:List A5} {x y:A0} (h:UI U s) (hx:UT U x) (hy:UT U y) (hk:(ap s x).AH=1) (ho:occ (ap s x).A6 (ap s y)=0):UI U (bnd s (ap s x).A6 (ap s y)):=
 ⟨h.id.bnd (GL (hx.ap h).vi hk) (Hm (Fr (fun _ q=>q) h.id.fr x) hk) (hy.ap h).vi (Fr (fun _ q=>q) h.id.fr y) ho,fE h.wd (hy.ap h).wd,h.ln⟩
theorem MW {s s1:List A5} {v:ByteArray} {t:A0} (h:unV s v t=some (some s1)):occ v t=0∧s1=bnd s v t:=by
 unfold unV at h
 split at h
 ·cases h
 ·split at h
  ·cases h;exact⟨‹_›,rfl⟩
  ·cases h
theorem LA {f:List A5→A0→A0→Option (Option (List A5))} {U:List ByteArray} (hf:∀s s1 x y,f s x y=some (some s1)→UI U s→UT U x→UT U y→UI U s1):∀(a b:List A0) (s s1:List A5),unL f s a b=some (some s1)→UI U s→(∀x∈a,UT U x)→(∀x∈b,UT U x)→UI U s1
 |x::a,y::b,s,s1,h,hs,ha,hb=>by
  rw[unL] at h
  cases e:f s x y with
  |none=>rw[e] at h;cases h
  |some q=>
   rw[e] at h
   cases q with
   |none=>cases h
   |some s2=>exact LA hf a b s2 s1 h (hf _ _ _ _ e hs (ha x (by simp)) (hb y (by simp))) (fun z hz=>ha z (by simp[hz])) (fun z hz=>hb z (by simp[hz]))
 |[],b,s,s1,h,hs,_,_=>by rw[X5] at h;cases h;exact hs
 |_::_,[],s,s1,h,hs,_,_=>by simp only[unL] at h;cases h;exact hs
theorem TU {tb:A0→A0→Bool} {U:List ByteArray}:∀(n:Nat) (s s1:List A5) (x y:A0),un tb n s x y=some (some s1)→UI U s→UT U x→UT U y→UI U s1
 |0,_,_,_,_,h,_,_,_=>by simp[un] at h
 |n+1,s,s1,x,y,h,hs,hx,hy=>by
  rw[un] at h
  split at h
  ·cases h;exact hs
  ·split at h
   ·cases h
   ·split at h
    ·rename_i hk
     obtain⟨ho,rfl⟩:=MW h
     exact hs.bnd hx hy hk ho
    ·split at h
     ·rename_i hk
      obtain⟨ho,rfl⟩:=MW h
      exact hs.bnd hy hx hk ho
     ·split at h
      ·exact LA (fun s s1 x y=>TU n s s1 x y) _ _ _ _ h hs (hx.ap hs).args (hy.ap hs).args
      ·cases h
theorem TX {n:Nat} {U:List ByteArray} {s:List A5} {a b:List A0} {k:Nat} (h:ulI (un tbg n) s a b k) (hs:UI U s) (ha:∀x∈a,UT U x) (hb:∀x∈b,UT U x):UI U (ulK (un tbg n) s a b k):=
 LA (fun s s1 x y=>TU n s s1 x y) _ _ _ _ h hs (fun x hx=>ha x (List.mem_of_mem_take hx)) (fun x hx=>hb x (List.mem_of_mem_take hx))
def unG (n:Nat) (s:List A5) (x y:A0):Option (List A5):=(un tbg n s x y).getD none
def E2 (n:Nat) (s:List A5) (a b:List A0):Option (List A5):=(unL (un tbg n) s a b).getD none
theorem getD_some {α:Type} {o:Option (Option α)} {r:Option α} (h:o.isSome=true) (e:o.getD none=r):o=some r:=by
 cases o with
 |none=>cases h
 |some q=>simp only[Option.getD_some] at e;rw[e]
section
variable {n:Nat} {s s1:List A5} {a b:List A0} {k:Nat}
theorem MX (hl:a.length=b.length) (h:ulI (un tbg n) s a b k) (hk:a.length≤k):E2 n s a b=some (ulK (un tbg n) s a b k):=by
 unfold E2;rw[X9 hl h hk];rfl
theorem LB (hl:a.length=b.length) (h:ulI (un tbg n) s a b k) (hk:k<a.length) (hs:(unL (un tbg n) s a b).isSome=true) (e:unG n (ulK (un tbg n) s a b k) a[k] (b[k]'(by omega))=none):E2 n s a b=none:=by
 unfold E2;rw[br hl h hk (getD_some (GP hl h hk hs) e)];rfl
theorem Im (hl:a.length=b.length) (h:ulI (un tbg n) s a b k) (hk:k<a.length) (hs:(unL (un tbg n) s a b).isSome=true) (e:unG n (ulK (un tbg n) s a b k) a[k] (b[k]'(by omega))=some s1):ulI (un tbg n) s a b (k+1)∧ulK (un tbg n) s a b (k+1)=s1:=
 X8 hl h hk (getD_some (GP hl h hk hs) e)
end
def unX (n:Nat) (s:List A5) (X Y:A0):Option (List A5):=
 if eqT X Y=true then some s
 else if 4000<IntKind.i64.wrap (szW X+szW Y) then none
 else if X.AH=1 then (if occ X.A6 Y=0 then some (bnd s X.A6 Y) else none)
 else if Y.AH=1 then (if occ Y.A6 X=0 then some (bnd s Y.A6 X) else none)
 else if X.AH=Y.AH∧X.A6=Y.A6∧X.AB.length=Y.AB.length then E2 n s X.AB Y.AB
 else none
theorem bo {n:Nat} {s:List A5} {x y:A0} (h:(un tbg (n+1) s x y).isSome=true):un tbg (n+1) s x y=some (unX n s (ap s x) (ap s y)):=by
 rw[un] at h ⊢
 unfold unX
 generalize ap s x=X at h ⊢
 generalize ap s y=Y at h ⊢
 by_cases h1:X=Y
 ·have h1':eqT X Y=true:=by simp[eqT,h1]
  simp only[if_pos h1,if_pos h1']
 have h1':¬eqT X Y=true:=by simp[eqT,h1]
 simp only[if_neg h1,if_neg h1'] at h ⊢
 by_cases h2:tbg X Y=true
 ·have h2':4000<IntKind.i64.wrap (szW X+szW Y):=by simpa[tbg] using h2
  simp only[if_pos h2,if_pos h2']
 have h2':¬4000<IntKind.i64.wrap (szW X+szW Y):=by simpa[tbg] using h2
 simp only[if_neg h2,if_neg h2'] at h ⊢
 by_cases h3:X.AH=1
 ·simp only[if_pos h3,unV] at h ⊢
  by_cases hb:big Y
  ·rw[if_pos hb] at h;cases h
  ·rw[if_neg hb]
 simp only[if_neg h3] at h ⊢
 by_cases h4:Y.AH=1
 ·simp only[if_pos h4,unV] at h ⊢
  by_cases hb:big X
  ·rw[if_pos hb] at h;cases h
  ·rw[if_neg hb]
 simp only[if_neg h4] at h ⊢
 by_cases h5:X.AH=Y.AH∧X.A6=Y.A6∧X.AB.length=Y.AB.length
 ·simp only[if_pos h5] at h ⊢
  unfold E2
  cases hq:unL (un tbg n) s X.AB Y.AB with
  |none=>rw[hq] at h;cases h
  |some r=>rfl
 ·simp only[if_neg h5]
theorem L8 {n:Nat} {s:List A5} {x y:A0} (h:(un tbg (n+1) s x y).isSome=true) (h1:¬eqT (ap s x) (ap s y)=true) (h2:¬4000<IntKind.i64.wrap (szW (ap s x)+szW (ap s y))):
  ((ap s x).AH=1→AQ (ap s y)<4611686018427387904)∧(¬(ap s x).AH=1→(ap s y).AH=1→AQ (ap s x)<4611686018427387904)∧(¬(ap s x).AH=1→¬(ap s y).AH=1→(ap s x).AH=(ap s y).AH∧(ap s x).A6=(ap s y).A6∧(ap s x).AB.length=(ap s y).AB.length→(unL (un tbg n) s (ap s x).AB (ap s y).AB).isSome=true):=by
 rw[un,if_neg (by simpa[eqT] using h1),if_neg (by simpa[tbg] using h2)] at h
 refine⟨fun h3=> ?_,fun h3 h4=> ?_,fun h3 h4 h5=> ?_⟩
 ·rw[if_pos h3,unV] at h
  split at h
  ·cases h
  ·rename_i e;unfold big at e;omega
 ·rw[if_neg h3,if_pos h4,unV] at h
  split at h
  ·cases h
  ·rename_i e;unfold big at e;omega
 ·rw[if_neg h3,if_neg h4,if_pos h5] at h;exact h
theorem Rk (n:Nat) (s:List A5) (X Y:A0):
  (unX n s X Y=some s∧eqT X Y=true)∨
  (unX n s X Y=none∧eqT X Y=false∧4000<IntKind.i64.wrap (szW X+szW Y))∨
  (unX n s X Y=none∧eqT X Y=false∧IntKind.i64.wrap (szW X+szW Y)≤4000∧X.AH=1∧0<occ X.A6 Y)∨
  (unX n s X Y=some (bnd s X.A6 Y)∧eqT X Y=false∧IntKind.i64.wrap (szW X+szW Y)≤4000∧X.AH=1∧occ X.A6 Y=0)∨
  (unX n s X Y=none∧eqT X Y=false∧IntKind.i64.wrap (szW X+szW Y)≤4000∧¬X.AH=1∧Y.AH=1∧0<occ Y.A6 X)∨
  (unX n s X Y=some (bnd s Y.A6 X)∧eqT X Y=false∧IntKind.i64.wrap (szW X+szW Y)≤4000∧¬X.AH=1∧Y.AH=1∧occ Y.A6 X=0)∨
  (unX n s X Y=none∧eqT X Y=false∧IntKind.i64.wrap (szW X+szW Y)≤4000∧¬X.AH=1∧¬Y.AH=1∧¬(X.AH=Y.AH∧X.A6=Y.A6∧X.AB.length=Y.AB.length))∨
  (unX n s X Y=E2 n s X.AB Y.AB∧eqT X Y=false∧IntKind.i64.wrap (szW X+szW Y)≤4000∧¬X.AH=1∧¬Y.AH=1∧X.AH=Y.AH∧X.A6=Y.A6∧X.AB.length=Y.AB.length∧X.AB≠[]):=by
 unfold unX
 cases h1:eqT X Y with
 |true=>simp
 |false=>
  by_cases h2:4000<IntKind.i64.wrap (szW X+szW Y)
  ·simp[h2]
  ·have h2':IntKind.i64.wrap (szW X+szW Y)≤4000:=by omega
   by_cases h3:X.AH=1
   ·by_cases h4:occ X.A6 Y=0
    ·simp[h2,h2',h3,h4]
    ·have:0<occ X.A6 Y:=by omega
     simp[h2,h2',h3,h4,this]
   ·by_cases h4:Y.AH=1
    ·by_cases h5:occ Y.A6 X=0
     ·simp[h2,h2',h3,h4,h5]
     ·have:0<occ Y.A6 X:=by omega
      simp[h2,h2',h3,h4,h5,this]
    ·by_cases h5:X.AH=Y.AH∧X.A6=Y.A6∧X.AB.length=Y.AB.length
     ·have h6:X.AB≠[]:=fun e=>by
       obtain⟨a,b,l⟩:=X
       obtain⟨c,d,m⟩:=Y
       simp only at e h5
       subst e
       obtain⟨rfl,rfl,h7⟩:=h5
       have:m=[]:=List.eq_nil_of_length_eq_zero (by simpa using h7.symm)
       subst this
       simp[eqT] at h1
      exact .inr (.inr (.inr (.inr (.inr (.inr (.inr ⟨by simp[h2,h4,h5],rfl,h2',h3,h4,h5.1,h5.2.1,h5.2.2,h6⟩))))))
     ·exact .inr (.inr (.inr (.inr (.inr (.inr (.inl ⟨by simp only[Bool.false_eq_true,if_false,if_neg h2,if_neg h3,if_neg h4,if_neg h5],rfl,h2',h3,h4,h5⟩))))))
def uMR (s:Option (List A5)):AV:=match s with
 |some s=> .tp [.ms B9 (s.map (A5.dd true)),.d (.lf (.bool true))]
 |none=> .tp [.un,.d (.lf (.bool false))]
theorem Me (s:List A5):uMR (some s)=.tp [.ms B9 (s.map (A5.dd true)),.d (.lf (.bool true))]:=rfl
theorem Mf:uMR none=.tp [.un,.d (.lf (.bool false))]:=rfl
def upK (s:List A5) (v:ByteArray) (t:A0) (k:Nat):List A5:=(s.take k).map (bnB v t)++s.drop k
theorem TQ (s:List A5) (v:ByteArray) (t:A0):upK s v t 0=s:=by simp[upK]
theorem PT {s:List A5} {v:ByteArray} {t:A0} {k:Nat} (h:s.length≤k):upK s v t k=s.map (bnB v t):=by unfold upK;rw[List.take_of_length_le h,List.drop_eq_nil_of_le h,List.append_nil]
theorem L7 (s:List A5) (v:ByteArray) (t:A0) (k:Nat):(upK s v t k).length=s.length:=by simp[upK];omega
theorem TR {s:List A5} {v:ByteArray} {t:A0} {k:Nat} (h:k<s.length):(upK s v t k)[k]'(by rw[L7];exact h)=s[k]:=by
 have h1:((s.take k).map (bnB v t)).length=k:=by simp;omega
 simp only[upK]
 rw[List.getElem_append_right (by omega)]
 simp only[h1,Nat.sub_self,List.getElem_drop,Nat.add_zero]
theorem bm {s:List A5} {v:ByteArray} {t:A0} {k:Nat} (h:k<s.length):upK s v t (k+1)=(upK s v t k).set k (bnB v t s[k]):=by
 have h1:((s.take k).map (bnB v t)).length=k:=by simp;omega
 unfold upK
 have h2:(s.drop k).set 0 (bnB v t s[k])=bnB v t s[k]::s.drop (k+1):=by rw[List.drop_eq_getElem_cons h];rfl
 rw[List.set_append_right _ _ (by omega),h1,Nat.sub_self,h2,Y' h,List.map_append]
 simp
theorem X3 {s:List A5} {v:ByteArray} {t:A0} {k:Nat} (h:k<s.length) (h2:k<((upK s v t k).map (A5.dd true)).length):D8 (((upK s v t k).map (A5.dd true))[k]) [1]=(s[k].AM).dd true:=by
 rw[List.getElem_map,TR h];rfl
theorem X2 {s:List A5} {v:ByteArray} {t:A0} {k:Nat} (h:k<s.length) (h2:k<((upK s v t k).map (A5.dd true)).length):((upK s v t k).map (A5.dd true)).set k (Dd (((upK s v t k).map (A5.dd true))[k]) [1] ((ap [⟨v,t⟩] s[k].AM).dd true))=(upK s v t (k+1)).map (A5.dd true):=by
 rw[List.getElem_map,TR h,bm h,List.map_set];rfl
mutual
theorem bG:∀x:A0,(x.dd true).ow
 |⟨a,b,l⟩=>by simp[DD.ow,DD.ows,M1 l]
theorem M1:∀l:List A0,DD.ows (l.map (A0.dd true))
 |[]=>trivial
 |x::l=>by simp only[List.map_cons,DD.ows];exact⟨bG x,M1 l⟩
end
theorem jT (b:A5):(b.dd true).ow:=by simp[DD.ow,DD.ows,M1]
theorem P8:∀l:List A5,DD.ows (l.map (A5.dd true))
 |[]=>trivial
 |x::l=>by simp only[List.map_cons,DD.ows];exact⟨jT x,P8 l⟩
attribute [simp] M1 P8 DD.ow DD.ows
theorem TW {n:Nat} {s:List A5} {x y:A0} (h:(un tbg (n+1) s x y).isSome=true):unG (n+1) s x y=unX n s (ap s x) (ap s y):=by unfold unG;rw[bo h];rfl
theorem MV {n:Nat} {s:List A5} {x y:A0} (h:(un tbg (n+1) s x y).isSome=true):
  (eqT (ap s x) (ap s y)=false→IntKind.i64.wrap (szW (ap s x)+szW (ap s y))≤4000→(ap s x).AH=1→AQ (ap s y)<4611686018427387904)∧
  (eqT (ap s x) (ap s y)=false→IntKind.i64.wrap (szW (ap s x)+szW (ap s y))≤4000→¬(ap s x).AH=1→(ap s y).AH=1→AQ (ap s x)<4611686018427387904)∧
  (eqT (ap s x) (ap s y)=false→IntKind.i64.wrap (szW (ap s x)+szW (ap s y))≤4000→¬(ap s x).AH=1→¬(ap s y).AH=1→(ap s x).AH=(ap s y).AH→(ap s x).A6=(ap s y).A6→(ap s x).AB.length=(ap s y).AB.length→(unL (un tbg n) s (ap s x).AB (ap s y).AB).isSome=true):=
 ⟨fun h1 h2=>(L8 h (by rw[h1];decide) (by omega)).1,fun h1 h2 h3 h4=>(L8 h (by rw[h1];decide) (by omega)).2.1 h3 h4,fun h1 h2 h3 h4 h5 h6 h7=>(L8 h (by rw[h1];decide) (by omega)).2.2 h3 h4 ⟨h5,h6,h7⟩⟩
theorem X6 {n:Nat} {U:List ByteArray} {s s1:List A5} {a b:List A0} (h:E2 n s a b=some s1) (hs:UI U s) (ha:∀x∈a,UT U x) (hb:∀x∈b,UT U x):UI U s1:=by
 unfold E2 at h
 cases hq:unL (un tbg n) s a b with
 |none=>rw[hq] at h;cases h
 |some r=>
  rw[hq] at h;simp only[Option.getD_some] at h
  subst h
  exact LA (fun s s1 x y=>TU n s s1 x y) _ _ _ _ hq hs ha hb
noncomputable def unR (a b:A0):Option (List A5):=open Classical in if h:∃n r,unL (un tbg n) [] [a] [b]=some r then Classical.choose (Classical.choose_spec h) else none
theorem bp {a b:A0} (h:uOk a b):∃n,unL (un tbg n) [] [a] [b]=some (unR a b):=by
 have h1:=TT tbg cE h
 unfold unR
 rw[dif_pos h1]
 exact⟨_,Classical.choose_spec (Classical.choose_spec h1)⟩
theorem PW {a b:A0} (h:uOk a b) (ha:a.wd) (hb:b.wd):∃(N:Nat) (U:List ByteArray),UI U []∧UT U a∧UT U b∧(unL (un tbg N) [] [a] [b]).isSome=true∧E2 N [] [a] [b]=unR a b:=by
 obtain⟨N,hN⟩:=bp h
 obtain⟨U,hU,h1,h2, -, -⟩:=h
 exact⟨N,U,⟨Idm.nil U,by simp,by omega⟩,⟨h1,ha⟩,⟨h2,hb⟩,by rw[hN];rfl,by unfold E2;rw[hN];rfl⟩
def apt (a b:A0):A0:=ap (apR (tv a) (tv b)) b
mutual
theorem Dz {U V:List ByteArray} (h:∀v∈U,v∈V):∀{t:A0},vin U t→vin V t
 |⟨k,n,l⟩,q=>by simp only[vin] at q ⊢;exact⟨fun e=>h n (q.1 e),KJ h q.2⟩
theorem KJ {U V:List ByteArray} (h:∀v∈U,v∈V):∀{l:List A0},D7 U l→D7 V l
 |[],_=>trivial
 |x::l,q=>by simp only[D7] at q ⊢;exact⟨Dz h q.1,KJ h q.2⟩
end
mutual
theorem PR:∀(x:A0) (o:List ByteArray),vin (tvs x o) x∧∀v∈o,v∈tvs x o
 |⟨k,n,l⟩,o=>by
  have h:=MR l (tvS o k n)
  simp only[tvs,vin]
  refine⟨⟨fun e=>h.2 n ?_,h.1⟩,fun v hv=>h.2 v ?_⟩
  ·unfold tvS
   split
   ·simp
   ·rename_i q
    by_cases hq:n∈o
    ·exact hq
    ·exact absurd (by simp[e,Dg,hq]) q
  ·unfold tvS
   split
   ·simp[hv]
   ·exact hv
theorem MR:∀(l:List A0) (o:List ByteArray),D7 (CC l o) l∧∀v∈o,v∈CC l o
 |[],o=>by simp[CC,D7]
 |x::l,o=>by
  have h1:=PR x o
  have h2:=MR l (tvs x o)
  simp only[CC,D7]
  exact⟨⟨Dz h2.2 h1.1,h2.1⟩,fun v hv=>h2.2 v (h1.2 v hv)⟩
end
theorem HQ (x:A0):vin (tv x) x:=(PR x []).1
def ren (r:List A5):Prop:=∀b∈r,b.AM.AH=1∧b.AM.AB=[]
def nmR (r:List A5) (v:ByteArray):ByteArray:=match lkB r v with|some t=>t.A6|none=>v
mutual
theorem PS {r:List A5} (hr:ren r) {V:List ByteArray}:∀{x:A0},vin V x→vin (V.map (nmR r)) (ap r x)∧AQ (ap r x)≤AQ x
 |⟨k,n,l⟩,h=>by
  simp only[vin] at h
  have hl:=MQ hr h.2
  rw[ap]
  split
  ·rename_i u hu
   split at hu
   ·rename_i hk
    obtain⟨b,h1, -,h3⟩:=F5 hu
    have h4:=hr b h1
    rw[h3] at h4
    obtain⟨k2,n2,l2⟩:=u
    simp only at h4
    obtain⟨rfl,rfl⟩:=h4
    refine⟨?_,by simp only[AQ,Ae];omega⟩
    simp only[vin,D7,and_true]
    refine fun _=>List.mem_map.2 ⟨n,h.1 hk,by simp[nmR,hu]⟩
   ·cases hu
  ·rename_i hu
   simp only[vin,AQ]
   refine⟨⟨fun hk=>List.mem_map.2 ⟨n,h.1 hk,?_⟩,hl.1⟩,by omega⟩
   rw[if_pos hk] at hu
   simp[nmR,hu]
theorem MQ {r:List A5} (hr:ren r) {V:List ByteArray}:∀{l:List A0},D7 V l→D7 (V.map (nmR r)) (aps r l)∧Ae (aps r l)≤Ae l
 |[],_=>by simp[aps,D7,Ae]
 |x::l,h=>by
  simp only[D7] at h
  have h1:=PS hr h.1
  have h2:=MQ hr h.2
  simp only[aps,D7,Ae]
  exact⟨⟨h1.1,h2.1⟩,by omega⟩
end
theorem a3 {a u l:List ByteArray}:∀k,ren (apK a u l k).2:=by
 intro k
 induction k with
 |zero=>simp[apK,ren]
 |succ k ih=>
  by_cases h:k<l.length
  ·rw[Hr h,OG]
   split
   ·intro b hb
    rcases List.mem_append.1 hb with hb|hb
    ·exact ih b hb
    ·simp only[List.mem_singleton] at hb;subst hb;exact⟨rfl,rfl⟩
   ·exact ih
  ·unfold apK at ih ⊢
   rw[List.take_of_length_le (by omega)] at ih ⊢;exact ih
def hdS (x:A0):Prop:=AQ x≤60∧(tv x).length≤3
theorem PZ {a b:A0} (ha:hdS a) (hb:hdS b):uOk a (apt a b):=by
 have h:=PS (a3 (a:=tv a) (u:=unN (tv a) (tv b)) (l:=tv b) (tv b).length) (HQ b)
 refine⟨tv a++(tv b).map (nmR (apR (tv a) (tv b))),by have:=ha.2;have:=hb.2;simp;omega,Dz (fun v hv=>List.mem_append_left _ hv) (HQ a),Dz (fun v hv=>List.mem_append_right _ hv) h.1,ha.1,Nat.le_trans h.2 hb.1⟩
theorem Wh {a b:A0} (hb:b.wd):(apt a b).wd:=MP (PE _) hb
noncomputable def TS (a b:A0):Bool:=(unR a (apt a b)).isSome
noncomputable def ovA (a b:AJ):Bool:=if a.AK=b.AK∧TS a.Ar b.Ar=true then (Gp a.Ar b.Ar && b.CY)||(Gp b.Ar a.Ar && a.CY) else true
noncomputable def bdA (w:A1) (o:A3) (l:List A3):Bool:=l.any fun r=> !ovA (Am w r) (Am w o)
noncomputable def ovS (w:A1) (l:List A3) (i:Nat):List A3:=match l[i]? with
 |some o=>if bdA w o (l.take i)=true then [o] else []
 |none=>[]
noncomputable def ovK (w:A1) (l:List A3) (k:Nat):List A3:=(List.range k).flatMap (ovS w l)
noncomputable def over (w:A1):List A3:=ovK w (BD w) (BD w).length
theorem J6 (w:A1) (l:List A3):ovK w l 0=[]:=rfl
theorem Ui (w:A1) {l:List A3} {k:Nat} (h:k<l.length):ovK w l (k+1)=if bdA w l[k] (l.take k)=true then ovK w l k++[l[k]] else ovK w l k:=by
 unfold ovK
 rw[List.range_succ,List.flatMap_append]
 simp only[List.flatMap_cons,List.flatMap_nil,List.append_nil,ovS,List.getElem?_eq_getElem h]
 split<;>simp
theorem dL (w:A1) (l:List A3) (i:Nat):(ovS w l i).length≤1:=by
 unfold ovS
 split
 ·split<;>simp
 ·simp
theorem LT (w:A1) (l:List A3):∀k,(ovK w l k).length≤k
 |0=>by rw[J6];exact Nat.le_refl _
 |k+1=>by
  have h:=LT w l k
  have h2:=dL w l k
  unfold ovK at h ⊢
  rw[List.range_succ,List.flatMap_append,List.length_append]
  simp only[List.flatMap_cons,List.flatMap_nil,List.append_nil]
  omega
theorem fI (w:A1) (o:A3) {l:List A3} {k:Nat} (h:k<l.length):bdA w o (l.drop k)=(!ovA (Am w l[k]) (Am w o)||bdA w o (l.drop (k+1))):=by
 rw[List.drop_eq_getElem_cons h];rfl
theorem RN (w:A1) (o:A3) {l:List A3} {k:Nat} (h:l.length≤k):bdA w o (l.drop k)=false:=by
 rw[List.drop_eq_nil_of_le h];rfl
theorem PN (n:Int):IntKind.i64.wrap n=Int.bmod n 18446744073709551616:=by
 have h:IntKind.i64.wrap n=if n % 18446744073709551616≥9223372036854775808 then n % 18446744073709551616 - 18446744073709551616 else n % 18446744073709551616:=by
  unfold IntKind.wrap;simp[IntKind.bits,IntKind.signed]
 rw[h,Int.bmod]
 split<;>split<;>omega
theorem MN (a b:Int):IntKind.i64.wrap (IntKind.i64.wrap a+IntKind.i64.wrap b)=IntKind.i64.wrap (a+b):=by
 simp only[PN,Int.bmod_add_bmod,Int.add_bmod_bmod]
theorem Rd (a b:Int):IntKind.i64.wrap (IntKind.i64.wrap a+b)=IntKind.i64.wrap (a+b):=by
 simp only[PN,Int.bmod_add_bmod]
theorem Hu:∀(l:List A0) (x:A0),Ae (l++[x])=Ae l+AQ x
 |[],x=>by simp[Ae]
 |y::l,x=>by simp only[List.cons_append,Ae,Hu l x];omega
theorem Ka (v:ByteArray):∀(l:List A0) (x:A0),DV v (l++[x])=DV v l+occ v x
 |[],x=>by simp[DV]
 |y::l,x=>by simp only[List.cons_append,DV,Ka v l x];omega
def swK (l:List A0) (k:Nat):Int:=IntKind.i64.wrap ((1+Ae (l.take k):Nat):Int)
theorem Mn (l:List A0):swK l 0=1:=by simp only[swK,List.take_zero,Ae];exact BF (by decide) (by decide)
theorem U2 {l:List A0} {k:Nat} (h:k<l.length):IntKind.i64.wrap (swK l k+szW l[k])=swK l (k+1):=by
 unfold swK szW
 rw[MN,Y' h,Hu]
 congr 1;omega
theorem Pj {l:List A0} {k:Nat} (h:l.length≤k) (a:Int) (n:ByteArray):swK l k=szW ⟨a,n,l⟩:=by
 unfold swK szW;rw[List.take_of_length_le h];rfl
def ocW (v:ByteArray) (x:A0):Int:=IntKind.i64.wrap (occ v x:Int)
theorem Um {v:ByteArray} {x:A0} (h:AQ x<4611686018427387904):ocW v x=(occ v x:Int):=by
 have:=Ul v x
 exact BF (by omega) (by omega)
def ocC (v:ByteArray) (c:Nat) (l:List A0) (k:Nat):Int:=IntKind.i64.wrap ((c+DV v (l.take k):Nat):Int)
theorem Un (v:ByteArray) (l:List A0):ocC v 0 l 0=0∧ocC v 1 l 0=1:=by
 simp only[ocC,List.take_zero,DV]
 exact⟨BF (by decide) (by decide),BF (by decide) (by decide)⟩
theorem Uo {v:ByteArray} {c:Nat} {l:List A0} {k:Nat} (h:k<l.length):IntKind.i64.wrap (ocC v c l k+ocW v l[k])=ocC v c l (k+1):=by
 unfold ocC ocW
 rw[MN,Y' h,Ka]
 congr 1;omega
theorem QN {v:ByteArray} {c:Nat} {a:Int} {n:ByteArray} {l:List A0} {k:Nat} (h:l.length≤k) (hc:(if a=1∧n=v then 1 else 0)=c):ocC v c l k=ocW v ⟨a,n,l⟩:=by
 unfold ocC ocW;rw[List.take_of_length_le h];simp only[occ,hc]
def tvO (x:A0) (o:List ByteArray):Prop:=x.wd∧∃U:List ByteArray,U.length≤67108864∧vin U x∧o.Nodup∧∀v∈o,v∈U
theorem OK {U:List ByteArray} {o:List ByteArray} {k:Int} {n:ByteArray} (h:k=1→n∈U) (ho:o.Nodup∧∀v∈o,v∈U):(tvS o k n).Nodup∧∀v∈tvS o k n,v∈U:=by
 unfold tvS
 split
 ·rename_i e
  refine⟨List.nodup_append.2 ⟨ho.1,by simp,fun a ha b hb q=> ?_⟩,fun v hv=> ?_⟩
  ·simp only[List.mem_singleton] at hb;subst hb;subst q
   exact e.2 (Dg.2 ha)
  ·rcases List.mem_append.1 hv with hv|hv
   ·exact ho.2 v hv
   ·simp only[List.mem_singleton] at hv;subst hv;exact h e.1
 ·exact ho
mutual
theorem Tc {U:List ByteArray}:∀(x:A0) (o:List ByteArray),vin U x→(o.Nodup∧∀v∈o,v∈U)→(tvs x o).Nodup∧∀v∈tvs x o,v∈U
 |⟨k,n,l⟩,o,h,ho=>by
  simp only[vin] at h
  simp only[tvs];exact IL l _ h.2 (OK h.1 ho)
theorem IL {U:List ByteArray}:∀(l:List A0) (o:List ByteArray),D7 U l→(o.Nodup∧∀v∈o,v∈U)→(CC l o).Nodup∧∀v∈CC l o,v∈U
 |[],o,_,ho=>by simpa[CC] using ho
 |x::l,o,h,ho=>by
  simp only[D7] at h
  simp only[CC];exact IL l _ h.2 (Tc x o h.1 ho)
end
theorem Ri {U:List ByteArray} {l:List A0} (h:D7 U l) (k:Nat):D7 U (l.take k):=L5 fun x hx=>Dy h x (List.mem_of_mem_take hx)
def tvk (a:Int) (n:ByteArray) (l:List A0) (o:List ByteArray) (k:Nat):List ByteArray:=CC (l.take k) (tvS o a n)
theorem Pc {a:Int} {n:ByteArray} {l:List A0} {o:List ByteArray} {k:Nat} (h:l.length≤k):tvk a n l o k=tvs ⟨a,n,l⟩ o:=by unfold tvk;rw[List.take_of_length_le h];simp only[tvs]
def tvJ (l:List A0) (o:List ByteArray) (k:Nat):List ByteArray:=CC (l.take k) o
theorem Mi (l:List A0) (o:List ByteArray):tvJ l o 0=o:=by simp[tvJ,CC]
theorem OL {l:List A0} {o:List ByteArray} {k:Nat} (h:k<l.length):tvs l[k] (tvJ l o k)=tvJ l o (k+1):=by
 unfold tvJ;rw[Y' h,GS];rfl
theorem Tf {a:Int} {n:ByteArray} {l:List A0} {o:List ByteArray} {k:Nat} (h:tvO ⟨a,n,l⟩ o) (hk:k<l.length):tvO l[k] (tvk a n l o k):=by
 obtain⟨hw,U,h1,h2,h3⟩:=h
 simp only[vin] at h2
 exact⟨Bj hw _ (gm hk),U,h1,Dy h2.2 _ (gm hk),IL _ _ (Ri h2.2 k) (OK h2.1 h3)⟩
theorem XB {x:A0} {o:List ByteArray} (h:tvO x o):o.length≤67108864:=by
 obtain⟨hw,U,h1,h2,h3⟩:=h
 have:=Bu h3.1 h3.2;omega
theorem GX {x:A0} {o:List ByteArray} (h:tvO x o):(tvs x o).length≤67108864:=by
 obtain⟨hw,U,h1,h2,h3⟩:=h
 have h4:=Tc x o h2 h3
 have:=Bu h4.1 h4.2;omega
theorem IM {x:A0} {U:List ByteArray} (hw:x.wd) (hU:U.length≤67108864) (h:vin U x):tvO x []:=⟨hw,U,hU,h,by simp,by simp⟩
theorem iX {l:List A0} {k:Nat} (h:k<l.length):D1 (l.drop k)=(Bq l[k]||D1 (l.drop (k+1))):=by
 rw[List.drop_eq_getElem_cons h];simp only[D1]
theorem dA {l:List A0} {k:Nat} (h:l.length≤k):D1 (l.drop k)=false:=by
 rw[List.drop_eq_nil_of_le h];rfl
theorem iW (a:Int) (n:ByteArray) (l:List A0):Bq ⟨a,n,l⟩=(D1 l||decide (a=3)):=by simp only[Bq]
