/- Part 32. No condition. -/
import Derived.Test.YtgihkamifpmfdaaGreatDoorM31
namespace Go.Proofs.YtgihkamifpmfdaaGreatDoor
open Go.RowKit Tryz
set_option linter.unusedVariables false
set_option maxRecDepth 10000
set_option linter.unusedSimpArgs false
set_option maxHeartbeats 4000000
theorem Di {l:List BA'} {s:BA'}:B7 l s=true↔s∈l:=by unfold B7;simp
def unS (o:List BA') (x:BA'):List BA':=if B7 o x then o else o++[x]
def unO (o l:List BA'):List BA':=l.foldl unS o
def unK (o l:List BA') (k:Nat):List BA':=unO o (l.take k)
theorem Mw (o l:List BA'):unK o l 0=o:=by simp[unK,unO]
theorem LY {o l:List BA'} {k:Nat} (h:k<l.length):unK o l (k+1)=if B7 (unK o l k) l[k]=true then unK o l k else unK o l k++[l[k]]:=by
 unfold unK;rw[Y' h,unO,List.foldl_append];rfl
theorem Lb {o l:List BA'} {k:Nat} (h:l.length≤k):unK o l k=unO o l:=by unfold unK;rw[List.take_of_length_le h]
theorem GV:∀(l o:List BA'),(unO o l).length≤o.length+l.length
 |[],o=>by simp[unO]
 |x::l,o=>by
  have h:=GV l (unS o x)
  have h2:(unS o x).length≤o.length+1:=by unfold unS;split<;>simp
  simp only[unO,List.foldl_cons,List.length_cons] at h ⊢;omega
theorem La (o l:List BA') (k:Nat):(unK o l k).length≤o.length+k:=by
 have:=GV (l.take k) o
 unfold unK;simp only[List.length_take] at this;omega
def unN (a b:List BA'):List BA':=unO (unO [] a) b
theorem Px (a b:List BA'):(unN a b).length≤a.length+b.length:=by
 have h1:=GV a []
 have h2:=GV b (unO [] a)
 unfold unN;simp only[List.length_nil] at h1;omega
theorem Pw:∀{l o:List BA'} {s:BA'},s∈unO o l↔s∈o∨s∈l
 |[],o,s=>by simp[unO]
 |x::l,o,s=>by
  have h:=@Pw l (unS o x) s
  simp only[unO,List.foldl_cons] at h ⊢
  rw[h]
  unfold unS
  split
  ·rename_i e;have e:=Di.1 e
   simp only[List.mem_cons];grind
  ·simp only[List.mem_append,List.mem_singleton,List.mem_cons];grind
def zit:Nat→BA'→BA'
 |0,s=>s
 |k+1,s=>zsf (zit k s)
theorem FP:∀(k:Nat) (s:BA'),(zit k s).size=s.size+k
 |0,s=>rfl
 |k+1,s=>by rw[zit,zsf,ByteArray.size_append,FP k s];rfl
theorem Ey:∀(k:Nat) (s:BA'),zit k (zsf s)=zit (k+1) s
 |0,s=>rfl
 |k+1,s=>by rw[zit,Ey k s];rfl
theorem ib (n:Nat) (s:BA') (u:List BA') (h:∀k,k<n→zit k s∈u):n≤u.length:=by
 have hn : ((List.range n).map fun k => zit k s).Nodup := List.pairwise_map.2 (List.nodup_range.imp fun {a b} hab e => hab (by
  have h2:=congrArg ByteArray.size e
  simp only[FP] at h2;omega))
 have := Bu (m := u) hn (fun x hx => by
  obtain⟨k,hk,rfl⟩:=List.mem_map.1 hx
  exact h k (List.mem_range.1 hk))
 simpa using this
theorem bR (u:List BA') (s:BA'):∃k,k≤u.length∧B7 u (zit k s)=false:=by
 rcases Classical.em (∃k,k≤u.length∧B7 u (zit k s)=false) with h|h
 ·exact h
 ·have h2 := ib (u.length + 1) s u (fun k hk => by
   rcases hq:B7 u (zit k s) with _|_
   ·exact absurd ⟨k,by omega,hq⟩ h
   ·exact Di.1 hq)
  omega
def zF (u:List BA'):Nat→BA'→Nat
 |0,_=>0
 |n+1,s=>if B7 u s then zF u n (zsf s)+1 else 0
theorem bU:∀{u:List BA'} {n:Nat} {s:BA'} {k:Nat},k<zF u n s→B7 u (zit k s)=true
 |u,0,s,k,h=>by exact absurd h (Nat.not_lt_zero _)
 |u,n+1,s,k,h=>by
  rw[zF] at h
  split at h
  ·rename_i e
   cases k with
   |zero=>exact e
   |succ k=>rw[←Ey];exact bU (n:=n) (by omega)
  ·omega
theorem bT:∀{u:List BA'} {n:Nat} {s:BA'} {k:Nat},k<n→B7 u (zit k s)=false→B7 u (zit (zF u n s) s)=false
 |u,0,s,k,h,_=>by omega
 |u,n+1,s,k,h,e=>by
  rw[zF]
  split
  ·rename_i e2
   cases k with
   |zero=>rw[zit] at e;rw[e] at e2;cases e2
   |succ k=>rw[←Ey];exact bT (k:=k) (by omega) (by rw[Ey];exact e)
  ·rename_i e2;simpa[zit] using e2
def zN (u:List BA') (s:BA'):Nat:=zF u (u.length+1) s
theorem Mi {u:List BA'} {s:BA'} {k:Nat} (h:k<zN u s):B7 u (zit k s)=true:=bU h
theorem Tf (u:List BA') (s:BA'):B7 u (zit (zN u s) s)=false:=by
 obtain⟨k,h1,h2⟩:=bR u s
 exact bT (by omega) h2
theorem bS (u:List BA') (s:BA'):zN u s≤u.length:=by
 obtain⟨k,h1,h2⟩:=bR u s
 rcases Nat.lt_or_ge k (zN u s) with h|h
 ·rw[Mi h] at h2;cases h2
 ·omega
def frN (u:List BA') (s:BA'):BA':=zit (zN u s) s
theorem aE {u:List BA'} {s:BA'} (h:s∈u):frN u s=frN u (zsf s):=by
 have h1:zN u s=zN u (zsf s)+1:=by
  rcases Nat.lt_trichotomy (zN u s) (zN u (zsf s)+1) with hc|hc|hc
  ·exfalso
   have hn:=Tf u s
   generalize hz:zN u s=m at hc hn
   cases m with
   |zero=>rw[zit,Di.2 h] at hn;cases hn
   |succ m=>rw[←Ey,Mi (show m<zN u (zsf s) by omega)] at hn;cases hn
  ·exact hc
  ·exfalso
   have hn:=Tf u (zsf s)
   rw[Ey,Mi hc] at hn;cases hn
 rw[frN,frN,h1,Ey]
def bnB (v:BA') (t:A0) (b:A6):A6:=⟨b.Fl,ap [⟨v,t⟩] b.AM⟩
theorem MU (s:List A6) (v:BA') (t:A0):bnd s v t=s.map (bnB v t)++[⟨v,t⟩]:=rfl
theorem MT {v:BA'} {t:A0} (h:t.wd):∀b∈([⟨v,t⟩]:List A6),b.AM.wd:=by
 intro b hb;simp only[List.mem_singleton] at hb;subst hb;exact h
def Of (a:List BA') (u:List BA'×List A6) (v:BA'):List BA'×List A6:=
 if B7 a v then (u.1++[frN u.1 (zsf v)],u.2++[⟨v,⟨1,frN u.1 (zsf v),[]⟩⟩]) else u
def apK (a u l:List BA') (k:Nat):List BA'×List A6:=(l.take k).foldl (Of a) (u,[])
theorem LM (a u l:List BA'):(apK a u l 0).1=u:=by simp[apK]
theorem LL (a u l:List BA'):(apK a u l 0).2=[]:=by simp[apK]
theorem I3 {a u l:List BA'} {k:Nat} (h:k<l.length):apK a u l (k+1)=Of a (apK a u l k) l[k]:=by
 unfold apK;rw[Y' h,List.foldl_append];rfl
theorem S4 {a u l:List BA'} {k:Nat} (h:k<l.length) (e:B7 a l[k]=true):(apK a u l (k+1)).1=(apK a u l k).1++[frN (apK a u l k).1 (zsf l[k])]∧(apK a u l (k+1)).2=(apK a u l k).2++[⟨l[k],⟨1,frN (apK a u l k).1 (zsf l[k]),[]⟩⟩]:=by
 rw[I3 h,Of,if_pos e];exact⟨rfl,rfl⟩
theorem Xq {a u l:List BA'} {k:Nat} (h:k<l.length) (e:B7 a l[k]=false):apK a u l (k+1)=apK a u l k:=by
 rw[I3 h,Of,if_neg (by rw[e];decide)]
theorem S5 {a u l:List BA'}:∀k,(apK a u l k).1.length≤u.length+k∧(apK a u l k).2.length≤k:=by
 intro k
 induction k with
 |zero=>simp[apK]
 |succ k ih=>
  by_cases h:k<l.length
  ·rw[I3 h,Of]
   split<;>(try simp only[List.length_append,List.length_singleton])<;>omega
  ·unfold apK at ih ⊢
   rw[List.take_of_length_le (by omega)] at ih ⊢;omega
theorem bG {a u l:List BA'}:∀(k:Nat) (s:BA'),s∈u→s∈(apK a u l k).1:=by
 intro k
 induction k with
 |zero=>intro s h;simpa[apK] using h
 |succ k ih=>
  intro s h
  by_cases hk:k<l.length
  ·rw[I3 hk,Of]
   split
   ·exact List.mem_append_left _ (ih s h)
   ·exact ih s h
  ·have:=ih s h
   unfold apK at this ⊢
   rw[List.take_of_length_le (by omega)] at this ⊢;exact this
def apR (a l:List BA'):List A6:=(apK a (unN a l) l l.length).2
mutual
theorem UF:∀(x:A0) (o:List BA') (B:Nat),x.sz≤B→(∀v∈o,v.size≤B)→∀v∈tvs x o,v.size≤B
 |⟨k,n,l⟩,o,B,h,ho=>by
  simp only[A0.sz] at h
  simp only[tvs]
  refine Q0 l _ B (by omega) ?_
  unfold tvS
  split
  ·intro v hv
   rcases List.mem_append.1 hv with hv|hv
   ·exact ho v hv
   ·simp only[List.mem_singleton] at hv;subst hv;omega
  ·exact ho
theorem Q0:∀(l:List A0) (o:List BA') (B:Nat),A0.szLs l≤B→(∀v∈o,v.size≤B)→∀v∈CC l o,v.size≤B
 |[],o,B,_,ho=>by simpa[CC] using ho
 |x::l,o,B,h,ho=>by
  simp only[A0.szLs] at h
  simp only[CC]
  exact Q0 l _ B (by omega) (UF x o B (by omega) ho)
end
theorem bc {x:A0} {k:Nat} {B:Nat} (hx:x.sz≤B) (h:k<(tv x).length):(tv x)[k].size≤B:=UF x [] B hx (by simp) _ (gm h)
theorem N5 (x:A0):(tv x).length≤1+x.sz:=by
 have h1:=Ga x []
 have h2:=Cn x
 unfold tv;simp only[List.length_nil] at h1;omega
theorem Pk {u:List BA'} {s:BA'} {k:Nat} (h:k=zN u s):zit k s=frN u s:=by rw[frN,h]
theorem W7 (u:List BA') (s:BA'):B7 u (frN u s)=false:=Tf u s
theorem Pe {a u l:List BA'}:∀k,∀b∈(apK a u l k).2,b.AM.wd:=by
 intro k
 induction k with
 |zero=>simp[apK]
 |succ k ih=>
  by_cases h:k<l.length
  ·rw[I3 h,Of]
   split
   ·intro b hb
    rcases List.mem_append.1 hb with hb|hb
    ·exact ih b hb
    ·simp only[List.mem_singleton] at hb;subst hb;simp[A0.wd,A0.wds]
   ·exact ih
  ·unfold apK at ih ⊢
   rw[List.take_of_length_le (by omega)] at ih ⊢;exact ih
theorem Mh (s:BA'):zit 0 s=s:=rfl
theorem Te (k:Nat) (s:BA'):zit (k+1) s=zsf (zit k s):=rfl
theorem Pj (s:BA'):s++⟨#[122]⟩=zsf s:=rfl
theorem S6 {a l:List BA'} {k:Nat} (h:k=l.length):(apK a (unN a l) l k).2=apR a l:=by rw[apR,h]
def szW (t:A0):Int:=IntKind.i64.wrap (AR t:Int)
def tbg (a b:A0):Bool:=decide (4000<IntKind.i64.wrap (szW a+szW b))
theorem db:dc tbg:=fun a b h h1 h2=>by
 unfold big at h1 h2
 unfold tbg szW at h
 rw[BH (n:=(AR a:Int)) (by omega) (by omega),BH (n:=(AR b:Int)) (by omega) (by omega),BH (by omega) (by omega)] at h
 simp only[decide_eq_false_iff_not] at h
 omega
def ulK (f:List A6→A0→A0→Option (Option (List A6))) (s:List A6) (a b:List A0) (k:Nat):List A6:=((unL f s (a.take k) (b.take k)).getD none).getD []
def ulI (f:List A6→A0→A0→Option (Option (List A6))) (s:List A6) (a b:List A0) (k:Nat):Prop:=unL f s (a.take k) (b.take k)=some (some (ulK f s a b k))
section
variable {f:List A6→A0→A0→Option (Option (List A6))}
theorem YC (s:List A6) (b:List A0):unL f s [] b=some (some s):=by cases b<;>rfl
theorem YB (s:List A6) (x y:A0):unL f s [x] [y]=f s x y:=by
 rw[unL]
 cases f s x y with
 |none=>rfl
 |some q=>cases q<;>rfl
theorem LU:∀(a b a2 b2:List A0) (s:List A6),a.length=b.length→unL f s (a++a2) (b++b2)=match unL f s a b with|some (some s1)=>unL f s1 a2 b2|r=>r
 |[],[],a2,b2,s,_=>by simp[unL]
 |x::a,y::b,a2,b2,s,h=>by
  simp only[List.cons_append,unL]
  cases f s x y with
  |none=>rfl
  |some q=>
   cases q with
   |none=>rfl
   |some s1=>exact LU a b a2 b2 s1 (by simpa using h)
 |[],_::_,_,_,_,h=>by simp at h
 |_::_,[],_,_,_,h=>by simp at h
theorem Mx (s:List A6) (a b:List A0):ulK f s a b 0=s:=by simp[ulK,unL]
theorem My (s:List A6) (a b:List A0):ulI f s a b 0:=by simp[ulI,ulK,unL]
variable {s s1:List A6} {a b:List A0} {k:Nat}
theorem Mz (hl:a.length=b.length) (h:ulI f s a b k) (hk:k<a.length):unL f s (a.take (k+1)) (b.take (k+1))=f (ulK f s a b k) a[k] (b[k]'(by omega)):=by
 rw[Y' hk,Y' (show k<b.length by omega),LU _ _ _ _ _ (by simp;omega),h]
 exact YB _ _ _
theorem YF (hl:a.length=b.length) (h:ulI f s a b k) (hk:k<a.length) (e:f (ulK f s a b k) a[k] (b[k]'(by omega))=some (some s1)):ulI f s a b (k+1)∧ulK f s a b (k+1)=s1:=by
 have h1:=Mz hl h hk
 rw[e] at h1
 have h2:ulK f s a b (k+1)=s1:=by unfold ulK;rw[h1];rfl
 exact⟨by unfold ulI;rw[h1,h2],h2⟩
theorem N0 (hl:a.length=b.length) (h:ulI f s a b k) (hk:k<a.length) {r:Option (Option (List A6))} (e:f (ulK f s a b k) a[k] (b[k]'(by omega))=r) (hr:∀s1,r≠some (some s1)):unL f s a b=r:=by
 have h1:=Mz hl h hk
 rw[e] at h1
 have h2:=LU (f:=f) (a.take (k+1)) (b.take (k+1)) (a.drop (k+1)) (b.drop (k+1)) s (by simp;omega)
 rw[List.take_append_drop,List.take_append_drop,h1] at h2
 rw[h2]
 cases r with
 |none=>rfl
 |some q=>
  cases q with
  |none=>rfl
  |some s1=>exact absurd rfl (hr s1)
theorem dM (hl:a.length=b.length) (h:ulI f s a b k) (hk:k<a.length) (e:f (ulK f s a b k) a[k] (b[k]'(by omega))=some none):unL f s a b=some none:=N0 hl h hk e (by simp)
theorem GW (hl:a.length=b.length) (h:ulI f s a b k) (hk:k<a.length) (hs:(unL f s a b).isSome=true):(f (ulK f s a b k) a[k] (b[k]'(by omega))).isSome=true:=by
 cases e:f (ulK f s a b k) a[k] (b[k]'(by omega)) with
 |none=>rw[N0 hl h hk e (by simp)] at hs;cases hs
 |some r=>rfl
theorem YG (hl:a.length=b.length) (h:ulI f s a b k) (hk:a.length≤k):unL f s a b=some (some (ulK f s a b k)):=by
 unfold ulI at h
 rwa [List.take_of_length_le hk,List.take_of_length_le (by omega)] at h
end
theorem gk {s:List A6} {v:BA'} {t:A0} (h:∀b∈s,b.AM.wd) (ht:t.wd):∀b∈bnd s v t,b.AM.wd:=fun b hb=>by
 unfold bnd at hb
 rcases List.mem_append.1 hb with hb|hb
 ·obtain⟨c,hc,rfl⟩:=List.mem_map.1 hb
  exact Mm (MT ht) (h c hc)
 ·simp only[List.mem_singleton] at hb;subst hb;exact ht
theorem E2 {U:List BA'}:∀{l:List A0},D8 U l→∀x∈l,vin U x
 |y::l,h,x,hx=>by
  simp only[D8] at h
  rcases List.mem_cons.1 hx with rfl|hx
  ·exact h.1
  ·exact E2 h.2 x hx
theorem LR {U:List BA'}:∀{l:List A0},(∀x∈l,vin U x)→D8 U l
 |[],_=>trivial
 |x::l,h=>by simp only[D8];exact⟨h x (by simp),LR fun y hy=>h y (by simp[hy])⟩
structure UI (U:List BA') (s:List A6):Prop where
 id:Idm U s
 wd:∀b∈s,b.AM.wd
 ln:U.length≤67108864
structure UT (U:List BA') (x:A0):Prop where
 vi:vin U x
 wd:x.wd
theorem UI.len {U:List BA'} {s:List A6} (h:UI U s):s.length≤67108864:=Nat.le_trans h.id.len h.ln
theorem UT.ap {U:List BA'} {s:List A6} {x:A0} (h:UI U s) (hx:UT U x):UT U (ap s x):=⟨HX h.id.vu hx.vi,Mm h.wd hx.wd⟩
theorem UT.args {U:List BA'} {x:A0} (h:UT U x):∀y∈x.AB,UT U y:=fun y hy=>⟨E2 (Ed h.vi) y hy,Bj h.wd y hy⟩
theorem UI.bnd {U:List BA'} {s:List A6} {x y:A0} (h:UI U s) (hx:UT U x) (hy:UT U y) (hk:(ap s x).AH=1) (ho:occ (ap s x).A5 (ap s y)=0):UI U (bnd s (ap s x).A5 (ap s y)):=
 ⟨h.id.bnd (GS (hx.ap h).vi hk) (Hw (Fu (fun _ q=>q) h.id.fr x) hk) (hy.ap h).vi (Fu (fun _ q=>q) h.id.fr y) ho,gk h.wd (hy.ap h).wd,h.ln⟩
theorem Mt {s s1:List A6} {v:BA'} {t:A0} (h:unV s v t=some (some s1)):occ v t=0∧s1=bnd s v t:=by
 unfold unV at h
 split at h
 ·cases h
 ·split at h
  ·cases h;exact⟨‹_›,rfl⟩
  ·cases h
theorem LV {f:List A6→A0→A0→Option (Option (List A6))} {U:List BA'} (hf:∀s s1 x y,f s x y=some (some s1)→UI U s→UT U x→UT U y→UI U s1):∀(a b:List A0) (s s1:List A6),unL f s a b=some (some s1)→UI U s→(∀x∈a,UT U x)→(∀x∈b,UT U x)→UI U s1
 |x::a,y::b,s,s1,h,hs,ha,hb=>by
  rw[unL] at h
  cases e:f s x y with
  |none=>rw[e] at h;cases h
  |some q=>
   rw[e] at h
   cases q with
   |none=>cases h
   |some s2=>exact LV hf a b s2 s1 h (hf _ _ _ _ e hs (ha x (by simp)) (hb y (by simp))) (fun z hz=>ha z (by simp[hz])) (fun z hz=>hb z (by simp[hz]))
 |[],b,s,s1,h,hs,_,_=>by rw[YC] at h;cases h;exact hs
 |_::_,[],s,s1,h,hs,_,_=>by simp only[unL] at h;cases h;exact hs
theorem U5 {tb:A0→A0→Bool} {U:List BA'}:∀(n:Nat) (s s1:List A6) (x y:A0),un tb n s x y=some (some s1)→UI U s→UT U x→UT U y→UI U s1
 |0,_,_,_,_,h,_,_,_=>by simp[un] at h
 |n+1,s,s1,x,y,h,hs,hx,hy=>by
  rw[un] at h
  split at h
  ·cases h;exact hs
  ·split at h
   ·cases h
   ·split at h
    ·rename_i hk
     obtain⟨ho,rfl⟩:=Mt h
     exact hs.bnd hx hy hk ho
    ·split at h
     ·rename_i hk
      obtain⟨ho,rfl⟩:=Mt h
      exact hs.bnd hy hx hk ho
     ·split at h
      ·exact LV (fun s s1 x y=>U5 n s s1 x y) _ _ _ _ h hs (hx.ap hs).args (hy.ap hs).args
      ·cases h
theorem U8 {n:Nat} {U:List BA'} {s:List A6} {a b:List A0} {k:Nat} (h:ulI (un tbg n) s a b k) (hs:UI U s) (ha:∀x∈a,UT U x) (hb:∀x∈b,UT U x):UI U (ulK (un tbg n) s a b k):=
 LV (fun s s1 x y=>U5 n s s1 x y) _ _ _ _ h hs (fun x hx=>ha x (List.mem_of_mem_take hx)) (fun x hx=>hb x (List.mem_of_mem_take hx))
def unG (n:Nat) (s:List A6) (x y:A0):Option (List A6):=(un tbg n s x y).getD none
def E4 (n:Nat) (s:List A6) (a b:List A0):Option (List A6):=(unL (un tbg n) s a b).getD none
theorem getD_some {α:Type} {o:Option (Option α)} {r:Option α} (h:o.isSome=true) (e:o.getD none=r):o=some r:=by
 cases o with
 |none=>cases h
 |some q=>simp only[Option.getD_some] at e;rw[e]
section
variable {n:Nat} {s s1:List A6} {a b:List A0} {k:Nat}
theorem Mu (hl:a.length=b.length) (h:ulI (un tbg n) s a b k) (hk:a.length≤k):E4 n s a b=some (ulK (un tbg n) s a b k):=by
 unfold E4;rw[YG hl h hk];rfl
theorem LW (hl:a.length=b.length) (h:ulI (un tbg n) s a b k) (hk:k<a.length) (hs:(unL (un tbg n) s a b).isSome=true) (e:unG n (ulK (un tbg n) s a b k) a[k] (b[k]'(by omega))=none):E4 n s a b=none:=by
 unfold E4;rw[dM hl h hk (getD_some (GW hl h hk hs) e)];rfl
theorem J2 (hl:a.length=b.length) (h:ulI (un tbg n) s a b k) (hk:k<a.length) (hs:(unL (un tbg n) s a b).isSome=true) (e:unG n (ulK (un tbg n) s a b k) a[k] (b[k]'(by omega))=some s1):ulI (un tbg n) s a b (k+1)∧ulK (un tbg n) s a b (k+1)=s1:=
 YF hl h hk (getD_some (GW hl h hk hs) e)
end
def unX (n:Nat) (s:List A6) (X Y:A0):Option (List A6):=
 if eqT X Y=true then some s
 else if 4000<IntKind.i64.wrap (szW X+szW Y) then none
 else if X.AH=1 then (if occ X.A5 Y=0 then some (bnd s X.A5 Y) else none)
 else if Y.AH=1 then (if occ Y.A5 X=0 then some (bnd s Y.A5 X) else none)
 else if X.AH=Y.AH∧X.A5=Y.A5∧X.AB.length=Y.AB.length then E4 n s X.AB Y.AB
 else none
theorem dJ {n:Nat} {s:List A6} {x y:A0} (h:(un tbg (n+1) s x y).isSome=true):un tbg (n+1) s x y=some (unX n s (ap s x) (ap s y)):=by
 rw[un] at h ⊢
 unfold unX
 generalize ap s x=X at h ⊢
 generalize ap s y=Y at h ⊢
 by_cases h1:X=Y
 ·have h1':eqT X Y=true:=by simp[eqT,h1]
  simp only[if_pos h1,if_pos h1']
 have h1':¬eqT X Y=true:=by simp[eqT,h1]
 simp only[if_neg h1,if_neg h1'] at h ⊢
 by_cases h2:tbg X Y=true
 ·have h2':4000<IntKind.i64.wrap (szW X+szW Y):=by simpa[tbg] using h2
  simp only[if_pos h2,if_pos h2']
 have h2':¬4000<IntKind.i64.wrap (szW X+szW Y):=by simpa[tbg] using h2
 simp only[if_neg h2,if_neg h2'] at h ⊢
 by_cases h3:X.AH=1
 ·simp only[if_pos h3,unV] at h ⊢
  by_cases hb:big Y
  ·rw[if_pos hb] at h;cases h
  ·rw[if_neg hb]
 simp only[if_neg h3] at h ⊢
 by_cases h4:Y.AH=1
 ·simp only[if_pos h4,unV] at h ⊢
  by_cases hb:big X
  ·rw[if_pos hb] at h;cases h
  ·rw[if_neg hb]
 simp only[if_neg h4] at h ⊢
 by_cases h5:X.AH=Y.AH∧X.A5=Y.A5∧X.AB.length=Y.AB.length
 ·simp only[if_pos h5] at h ⊢
  unfold E4
  cases hq:unL (un tbg n) s X.AB Y.AB with
  |none=>rw[hq] at h;cases h
  |some r=>rfl
 ·simp only[if_neg h5]
theorem LT {n:Nat} {s:List A6} {x y:A0} (h:(un tbg (n+1) s x y).isSome=true) (h1:¬eqT (ap s x) (ap s y)=true) (h2:¬4000<IntKind.i64.wrap (szW (ap s x)+szW (ap s y))):
  ((ap s x).AH=1→AR (ap s y)<4611686018427387904)∧(¬(ap s x).AH=1→(ap s y).AH=1→AR (ap s x)<4611686018427387904)∧(¬(ap s x).AH=1→¬(ap s y).AH=1→(ap s x).AH=(ap s y).AH∧(ap s x).A5=(ap s y).A5∧(ap s x).AB.length=(ap s y).AB.length→(unL (un tbg n) s (ap s x).AB (ap s y).AB).isSome=true):=by
 rw[un,if_neg (by simpa[eqT] using h1),if_neg (by simpa[tbg] using h2)] at h
 refine⟨fun h3=> ?_,fun h3 h4=> ?_,fun h3 h4 h5=> ?_⟩
 ·rw[if_pos h3,unV] at h
  split at h
  ·cases h
  ·rename_i e;unfold big at e;omega
 ·rw[if_neg h3,if_pos h4,unV] at h
  split at h
  ·cases h
  ·rename_i e;unfold big at e;omega
 ·rw[if_neg h3,if_neg h4,if_pos h5] at h;exact h
theorem SK (n:Nat) (s:List A6) (X Y:A0):
  (unX n s X Y=some s∧eqT X Y=true)∨
  (unX n s X Y=none∧eqT X Y=false∧4000<IntKind.i64.wrap (szW X+szW Y))∨
  (unX n s X Y=none∧eqT X Y=false∧IntKind.i64.wrap (szW X+szW Y)≤4000∧X.AH=1∧0<occ X.A5 Y)∨
  (unX n s X Y=some (bnd s X.A5 Y)∧eqT X Y=false∧IntKind.i64.wrap (szW X+szW Y)≤4000∧X.AH=1∧occ X.A5 Y=0)∨
  (unX n s X Y=none∧eqT X Y=false∧IntKind.i64.wrap (szW X+szW Y)≤4000∧¬X.AH=1∧Y.AH=1∧0<occ Y.A5 X)∨
  (unX n s X Y=some (bnd s Y.A5 X)∧eqT X Y=false∧IntKind.i64.wrap (szW X+szW Y)≤4000∧¬X.AH=1∧Y.AH=1∧occ Y.A5 X=0)∨
  (unX n s X Y=none∧eqT X Y=false∧IntKind.i64.wrap (szW X+szW Y)≤4000∧¬X.AH=1∧¬Y.AH=1∧¬(X.AH=Y.AH∧X.A5=Y.A5∧X.AB.length=Y.AB.length))∨
  (unX n s X Y=E4 n s X.AB Y.AB∧eqT X Y=false∧IntKind.i64.wrap (szW X+szW Y)≤4000∧¬X.AH=1∧¬Y.AH=1∧X.AH=Y.AH∧X.A5=Y.A5∧X.AB.length=Y.AB.length∧X.AB≠[]):=by
 unfold unX
 cases h1:eqT X Y with
 |true=>simp
 |false=>
  by_cases h2:4000<IntKind.i64.wrap (szW X+szW Y)
  ·simp[h2]
  ·have h2':IntKind.i64.wrap (szW X+szW Y)≤4000:=by omega
   by_cases h3:X.AH=1
   ·by_cases h4:occ X.A5 Y=0
    ·simp[h2,h2',h3,h4]
    ·have:0<occ X.A5 Y:=by omega
     simp[h2,h2',h3,h4,this]
   ·by_cases h4:Y.AH=1
    ·by_cases h5:occ Y.A5 X=0
     ·simp[h2,h2',h3,h4,h5]
     ·have:0<occ Y.A5 X:=by omega
      simp[h2,h2',h3,h4,h5,this]
    ·by_cases h5:X.AH=Y.AH∧X.A5=Y.A5∧X.AB.length=Y.AB.length
     ·have h6:X.AB≠[]:=fun e=>by
       obtain⟨a,b,l⟩:=X
       obtain⟨c,d,m⟩:=Y
       simp only at e h5
       subst e
       obtain⟨rfl,rfl,h7⟩:=h5
       have:m=[]:=List.eq_nil_of_length_eq_zero (by simpa using h7.symm)
       subst this
       simp[eqT] at h1
      exact .inr (.inr (.inr (.inr (.inr (.inr (.inr ⟨by simp[h2,h4,h5],rfl,h2',h3,h4,h5.1,h5.2.1,h5.2.2,h6⟩))))))
     ·exact .inr (.inr (.inr (.inr (.inr (.inr (.inl ⟨by simp only[Bool.false_eq_true,if_false,if_neg h2,if_neg h3,if_neg h4,if_neg h5],rfl,h2',h3,h4,h5⟩))))))
def uMR (s:Option (List A6)):AV:=match s with
 |some s=> .tp [.ms BB (s.map (A6.dd true)),.d (.lf (.bool true))]
 |none=> .tp [.un,.d (.lf (.bool false))]
theorem N2 (s:List A6):uMR (some s)=.tp [.ms BB (s.map (A6.dd true)),dB' true]:=rfl
theorem N3:uMR none=.tp [.un,dB' false]:=rfl
def upK (s:List A6) (v:BA') (t:A0) (k:Nat):List A6:=(s.take k).map (bnB v t)++s.drop k
theorem U1 (s:List A6) (v:BA') (t:A0):upK s v t 0=s:=by simp[upK]
theorem Ps {s:List A6} {v:BA'} {t:A0} {k:Nat} (h:s.length≤k):upK s v t k=s.map (bnB v t):=by unfold upK;rw[List.take_of_length_le h,List.drop_eq_nil_of_le h,List.append_nil]
theorem LS (s:List A6) (v:BA') (t:A0) (k:Nat):(upK s v t k).length=s.length:=by simp[upK];omega
theorem U2 {s:List A6} {v:BA'} {t:A0} {k:Nat} (h:k<s.length):(upK s v t k)[k]'(by rw[LS];exact h)=s[k]:=by
 have h1:((s.take k).map (bnB v t)).length=k:=by simp;omega
 simp only[upK]
 rw[List.getElem_append_right (by omega)]
 simp only[h1,Nat.sub_self,List.getElem_drop,Nat.add_zero]
theorem dG {s:List A6} {v:BA'} {t:A0} {k:Nat} (h:k<s.length):upK s v t (k+1)=(upK s v t k).set k (bnB v t s[k]):=by
 have h1:((s.take k).map (bnB v t)).length=k:=by simp;omega
 unfold upK
 have h2:(s.drop k).set 0 (bnB v t s[k])=bnB v t s[k]::s.drop (k+1):=by rw[List.drop_eq_getElem_cons h];rfl
 rw[List.set_append_right _ _ (by omega),h1,Nat.sub_self,h2,Y' h,List.map_append]
 simp
theorem YA {s:List A6} {v:BA'} {t:A0} {k:Nat} (h:k<s.length) (h2:k<((upK s v t k).map (A6.dd true)).length):D9 (((upK s v t k).map (A6.dd true))[k]) [1]=(s[k].AM).dd true:=by
 rw[List.getElem_map,U2 h];rfl
theorem Y9 {s:List A6} {v:BA'} {t:A0} {k:Nat} (h:k<s.length) (h2:k<((upK s v t k).map (A6.dd true)).length):((upK s v t k).map (A6.dd true)).set k (Df (((upK s v t k).map (A6.dd true))[k]) [1] ((ap [⟨v,t⟩] s[k].AM).dd true))=(upK s v t (k+1)).map (A6.dd true):=by
 rw[List.getElem_map,U2 h,dG h,List.map_set];rfl
mutual
theorem cd:∀x:A0,(x.dd true).ow
 |⟨a,b,l⟩=>by simp[DD.ow,DD.ows,MP l]
theorem MP:∀l:List A0,DD.ows (l.map (A0.dd true))
 |[]=>trivial
 |x::l=>by simp only[List.map_cons,DD.ows];exact⟨cd x,MP l⟩
end
theorem lF (b:A6):(b.dd true).ow:=by simp[DD.ow,DD.ows,MP]
theorem PY:∀l:List A6,DD.ows (l.map (A6.dd true))
 |[]=>trivial
 |x::l=>by simp only[List.map_cons,DD.ows];exact⟨lF x,PY l⟩
attribute [simp] MP PY DD.ow DD.ows
theorem U7 {n:Nat} {s:List A6} {x y:A0} (h:(un tbg (n+1) s x y).isSome=true):unG (n+1) s x y=unX n s (ap s x) (ap s y):=by unfold unG;rw[dJ h];rfl
theorem Ms {n:Nat} {s:List A6} {x y:A0} (h:(un tbg (n+1) s x y).isSome=true):
  (eqT (ap s x) (ap s y)=false→IntKind.i64.wrap (szW (ap s x)+szW (ap s y))≤4000→(ap s x).AH=1→AR (ap s y)<4611686018427387904)∧
  (eqT (ap s x) (ap s y)=false→IntKind.i64.wrap (szW (ap s x)+szW (ap s y))≤4000→¬(ap s x).AH=1→(ap s y).AH=1→AR (ap s x)<4611686018427387904)∧
  (eqT (ap s x) (ap s y)=false→IntKind.i64.wrap (szW (ap s x)+szW (ap s y))≤4000→¬(ap s x).AH=1→¬(ap s y).AH=1→(ap s x).AH=(ap s y).AH→(ap s x).A5=(ap s y).A5→(ap s x).AB.length=(ap s y).AB.length→(unL (un tbg n) s (ap s x).AB (ap s y).AB).isSome=true):=
 ⟨fun h1 h2=>(LT h (by rw[h1];decide) (by omega)).1,fun h1 h2 h3 h4=>(LT h (by rw[h1];decide) (by omega)).2.1 h3 h4,fun h1 h2 h3 h4 h5 h6 h7=>(LT h (by rw[h1];decide) (by omega)).2.2 h3 h4 ⟨h5,h6,h7⟩⟩
theorem YD {n:Nat} {U:List BA'} {s s1:List A6} {a b:List A0} (h:E4 n s a b=some s1) (hs:UI U s) (ha:∀x∈a,UT U x) (hb:∀x∈b,UT U x):UI U s1:=by
 unfold E4 at h
 cases hq:unL (un tbg n) s a b with
 |none=>rw[hq] at h;cases h
 |some r=>
  rw[hq] at h;simp only[Option.getD_some] at h
  subst h
  exact LV (fun s s1 x y=>U5 n s s1 x y) _ _ _ _ hq hs ha hb
noncomputable def unR (a b:A0):Option (List A6):=open Classical in if h:∃n r,unL (un tbg n) [] [a] [b]=some r then Classical.choose (Classical.choose_spec h) else none
theorem dK {a b:A0} (h:uOk a b):∃n,unL (un tbg n) [] [a] [b]=some (unR a b):=by
 have h1:=U4 tbg db h
 unfold unR
 rw[dif_pos h1]
 exact⟨_,Classical.choose_spec (Classical.choose_spec h1)⟩
theorem Pv {a b:A0} (h:uOk a b) (ha:a.wd) (hb:b.wd):∃(N:Nat) (U:List BA'),UI U []∧UT U a∧UT U b∧(unL (un tbg N) [] [a] [b]).isSome=true∧E4 N [] [a] [b]=unR a b:=by
 obtain⟨N,hN⟩:=dK h
 obtain⟨U,hU,h1,h2, -, -⟩:=h
 exact⟨N,U,⟨Idm.nil U,by simp,by omega⟩,⟨h1,ha⟩,⟨h2,hb⟩,by rw[hN];rfl,by unfold E4;rw[hN];rfl⟩
def apt (a b:A0):A0:=ap (apR (tv a) (tv b)) b
mutual
theorem E3 {U V:List BA'} (h:∀v∈U,v∈V):∀{t:A0},vin U t→vin V t
 |⟨k,n,l⟩,q=>by simp only[vin] at q ⊢;exact⟨fun e=>h n (q.1 e),Ke h q.2⟩
theorem Ke {U V:List BA'} (h:∀v∈U,v∈V):∀{l:List A0},D8 U l→D8 V l
 |[],_=>trivial
 |x::l,q=>by simp only[D8] at q ⊢;exact⟨E3 h q.1,Ke h q.2⟩
end
mutual
theorem Pq:∀(x:A0) (o:List BA'),vin (tvs x o) x∧∀v∈o,v∈tvs x o
 |⟨k,n,l⟩,o=>by
  have h:=Mo l (tvS o k n)
  simp only[tvs,vin]
  refine⟨⟨fun e=>h.2 n ?_,h.1⟩,fun v hv=>h.2 v ?_⟩
  ·unfold tvS
   split
   ·simp
   ·rename_i q
    by_cases hq:n∈o
    ·exact hq
    ·exact absurd (by simp[e,Di,hq]) q
  ·unfold tvS
   split
   ·simp[hv]
   ·exact hv
theorem Mo:∀(l:List A0) (o:List BA'),D8 (CC l o) l∧∀v∈o,v∈CC l o
 |[],o=>by simp[CC,D8]
 |x::l,o=>by
  have h1:=Pq x o
  have h2:=Mo l (tvs x o)
  simp only[CC,D8]
  exact⟨⟨E3 h2.2 h1.1,h2.1⟩,fun v hv=>h2.2 v (h1.2 v hv)⟩
end
theorem HW (x:A0):vin (tv x) x:=(Pq x []).1
def ren (r:List A6):Prop:=∀b∈r,b.AM.AH=1∧b.AM.AB=[]
def nmR (r:List A6) (v:BA'):BA':=match lkB r v with|some t=>t.A5|none=>v
mutual
theorem Pr {r:List A6} (hr:ren r) {V:List BA'}:∀{x:A0},vin V x→vin (V.map (nmR r)) (ap r x)∧AR (ap r x)≤AR x
 |⟨k,n,l⟩,h=>by
  simp only[vin] at h
  have hl:=Mn hr h.2
  rw[ap]
  split
  ·rename_i u hu
   split at hu
   ·rename_i hk
    obtain⟨b,h1, -,h3⟩:=F7 hu
    have h4:=hr b h1
    rw[h3] at h4
    obtain⟨k2,n2,l2⟩:=u
    simp only at h4
    obtain⟨rfl,rfl⟩:=h4
    refine⟨?_,by simp only[AR,Ag];omega⟩
    simp only[vin,D8,and_true]
    refine fun _=>List.mem_map.2 ⟨n,h.1 hk,by simp[nmR,hu]⟩
   ·cases hu
  ·rename_i hu
   simp only[vin,AR]
   refine⟨⟨fun hk=>List.mem_map.2 ⟨n,h.1 hk,?_⟩,hl.1⟩,by omega⟩
   rw[if_pos hk] at hu
   simp[nmR,hu]
theorem Mn {r:List A6} (hr:ren r) {V:List BA'}:∀{l:List A0},D8 V l→D8 (V.map (nmR r)) (aps r l)∧Ag (aps r l)≤Ag l
 |[],_=>by simp[aps,D8,Ag]
 |x::l,h=>by
  simp only[D8] at h
  have h1:=Pr hr h.1
  have h2:=Mn hr h.2
  simp only[aps,D8,Ag]
  exact⟨⟨h1.1,h2.1⟩,by omega⟩
end
theorem bH {a u l:List BA'}:∀k,ren (apK a u l k).2:=by
 intro k
 induction k with
 |zero=>simp[apK,ren]
 |succ k ih=>
  by_cases h:k<l.length
  ·rw[I3 h,Of]
   split
   ·intro b hb
    rcases List.mem_append.1 hb with hb|hb
    ·exact ih b hb
    ·simp only[List.mem_singleton] at hb;subst hb;exact⟨rfl,rfl⟩
   ·exact ih
  ·unfold apK at ih ⊢
   rw[List.take_of_length_le (by omega)] at ih ⊢;exact ih
def hdS (x:A0):Prop:=AR x≤60∧(tv x).length≤3
theorem Py {a b:A0} (ha:hdS a) (hb:hdS b):uOk a (apt a b):=by
 have h:=Pr (bH (a:=tv a) (u:=unN (tv a) (tv b)) (l:=tv b) (tv b).length) (HW b)
 refine⟨tv a++(tv b).map (nmR (apR (tv a) (tv b))),by have:=ha.2;have:=hb.2;simp;omega,E3 (fun v hv=>List.mem_append_left _ hv) (HW a),E3 (fun v hv=>List.mem_append_right _ hv) h.1,ha.1,Nat.le_trans h.2 hb.1⟩
theorem Xj {a b:A0} (hb:b.wd):(apt a b).wd:=Mm (Pe _) hb
noncomputable def U3 (a b:A0):Bool:=(unR a (apt a b)).isSome
noncomputable def ovA (a b:AJ):Bool:=if a.AK=b.AK∧U3 a.At b.At=true then (Gw a.At b.At && b.Ca)||(Gw b.At a.At && a.Ca) else true
noncomputable def bdA (w:A1) (o:A3) (l:List A3):Bool:=l.any fun r=> !ovA (Ao w r) (Ao w o)
noncomputable def ovS (w:A1) (l:List A3) (i:Nat):List A3:=match l[i]? with
 |some o=>if bdA w o (l.take i)=true then [o] else []
 |none=>[]
noncomputable def ovK (w:A1) (l:List A3) (k:Nat):List A3:=(List.range k).flatMap (ovS w l)
noncomputable def over (w:A1):List A3:=ovK w (BF w) (BF w).length
theorem JP (w:A1) (l:List A3):ovK w l 0=[]:=rfl
theorem VI (w:A1) {l:List A3} {k:Nat} (h:k<l.length):ovK w l (k+1)=if bdA w l[k] (l.take k)=true then ovK w l k++[l[k]] else ovK w l k:=by
 unfold ovK
 rw[List.range_succ,List.flatMap_append]
 simp only[List.flatMap_cons,List.flatMap_nil,List.append_nil,ovS,List.getElem?_eq_getElem h]
 split<;>simp
theorem ez (w:A1) (l:List A3) (i:Nat):(ovS w l i).length≤1:=by
 unfold ovS
 split
 ·split<;>simp
 ·simp
theorem Ls (w:A1) (l:List A3):∀k,(ovK w l k).length≤k
 |0=>by rw[JP];exact Nat.le_refl _
 |k+1=>by
  have h:=Ls w l k
  have h2:=ez w l k
  unfold ovK at h ⊢
  rw[List.range_succ,List.flatMap_append,List.length_append]
  simp only[List.flatMap_cons,List.flatMap_nil,List.append_nil]
  omega
theorem gq (w:A1) (o:A3) {l:List A3} {k:Nat} (h:k<l.length):bdA w o (l.drop k)=(!ovA (Ao w l[k]) (Ao w o)||bdA w o (l.drop (k+1))):=by
 rw[List.drop_eq_getElem_cons h];rfl
theorem Rt (w:A1) (o:A3) {l:List A3} {k:Nat} (h:l.length≤k):bdA w o (l.drop k)=false:=by
 rw[List.drop_eq_nil_of_le h];rfl
def fAj:List AD→A9→Nat→Int
 |[],_,_=> -1
 |a::l,g,i=>if eqG a.DT g=true then (i:Int) else fAj l g (i+1)
theorem gC {l:List AD} {g:A9} {k:Nat} (h:k<l.length):fAj (l.drop k) g k=if eqG l[k].DT g=true then (k:Int) else fAj (l.drop (k+1)) g (k+1):=by
 rw[List.drop_eq_getElem_cons h];rfl
theorem aK {l:List AD} {g:A9} {k:Nat} (h:l.length≤k):fAj (l.drop k) g k= -1:=by
 rw[List.drop_eq_nil_of_le h];rfl
def fAi (F:List AD) (g:A9):Int:=fAj F g 0
mutual
def evN:A7→Nat
 |⟨_,_,_,l⟩=>1+KY l
def KY:List A7→Nat
 |[]=>0
 |x::l=>evN x+KY l
end
mutual
def A7.wd:A7→Prop
 |⟨_,_,_,l⟩=>l.length≤134217728∧A7.wds l
def A7.wds:List A7→Prop
 |[]=>True
 |x::l=>x.wd∧A7.wds l
end
theorem RZ:∀{l:List A7},A7.wds l→∀y∈l,y.wd
 |x::l,h,y,hy=>by
  simp only[A7.wds] at h
  rcases List.mem_cons.1 hy with rfl|hy
  ·exact h.1
  ·exact RZ h.2 y hy
theorem WT:∀{l:List A7},(∀y∈l,y.wd)→A7.wds l
 |[],_=>trivial
 |x::l,h=>by simp only[A7.wds];exact⟨h x (by simp),WT fun y hy=>h y (by simp[hy])⟩
theorem WW (x:A7):x.wd↔x.AB.length≤134217728∧∀y∈x.AB,y.wd:=by
 cases x;simp only[A7.wd]
 exact⟨fun h=>⟨h.1,RZ h.2⟩,fun h=>⟨h.1,WT h.2⟩⟩
theorem Rb {l:List A7} {k:Nat} (h:k<l.length):evN l[k]≤KY l:=by
 induction l generalizing k with
 |nil=>simp at h
 |cons x l ih=>
  cases k with
  |zero=>simp[KY]
  |succ k=>have:=ih (k:=k) (by simpa using h);simp only[KY,List.getElem_cons_succ];omega
theorem OD (x:A7):KY x.AB<evN x:=by cases x;simp only[evN];omega
theorem WX:∀x:A7,(⟨x.AH,x.fN,⟨x.fAt.BA,x.fAt.fAt⟩,x.AB⟩:A7)=x:=fun x=>by cases x;rfl
def GI (e:A7) (l:List Int) (k:Nat):A7:=apS e (l.take k)
theorem LK (e:A7) (l:List Int):GI e l 0=e:=by simp[GI,apS]
theorem Rz {e:A7} {l:List Int} {k:Nat} (h:k<l.length):GI e l (k+1)=⟨3,l[k],⟨0,0⟩,[GI e l k]⟩:=by
 unfold GI apS;rw[Y' h,List.foldl_append];rfl
theorem Oe {e:A7} {l:List Int} {k:Nat} (h:l.length≤k):GI e l k=apS e l:=by unfold GI;rw[List.take_of_length_le h]
theorem W8 {α β:Type} {f:α→List β} {g:α→Nat} (h:∀x,(f x).length≤g x):∀l:List α,(l.flatMap f).length≤szL g l
 |[]=>Nat.le_refl _
 |x::l=>by have h1:=W8 h l;have h2:=h x;simp only[List.flatMap_cons,List.length_append,szL];omega
theorem Ue (w:A1):(Uf w).length≤w.sz:=by
 have h1 : (Uf w).length ≤ szL A8.sz w.A2 := W8 (fun p => by
  have h2:(p.Aj.flatMap AU.Aq).length≤szL AU.sz p.Aj:=W8 (fun t=>by have:=t.sz_eq;unfold szs at this;omega) _
  have h3:=p.sz_eq;unfold szs at h3;omega) _
 have h4:=w.sz_eq;unfold szs at h4;omega
theorem Ex (w:A1) (s:BA'):(Ce w s).length≤w.sz:=by
 obtain⟨n,h1⟩:=Md w s
 obtain⟨m,r,h2,h3,h4, -⟩:=Ud w (Uf w) (fun s t ht=>Gi ht) _ _ (Al w s) [] rfl rfl (by simp) (by simp) (fun t ht=>Gi ht)
 rw[Q9 h1 h2]
 exact Nat.le_trans (Bu h3 h4) (Ue w)
theorem S7 (w:A1) (s:BA'):∃n,SP w w.sz n s []:=by
 obtain⟨n,h1⟩:=Md w s
 exact⟨n+1,n,by omega,_,h1,Ex w s⟩
theorem Xu (w:A1) (s:BA'):He w (Al w s) []=Ce w s:=by
 obtain⟨n,h1⟩:=Md w s
 exact Ii h1
noncomputable def acT (w:A1) (t:AU):Bool:= !B7 (Ce w t.A5) t.A5
noncomputable def acP (w:A1) (p:A8):Bool:=p.Aj.all (acT w)
theorem S8 (w:A1):Tc w=w.A2.all (acP w):=rfl
def ptF (w:A1) (to:BA') (n i:Nat) (t:BA'):Option (List Nat):=match n with
 |0=>none
 |m+1=>(pth w to m t).map (i:: ·)
theorem CR (w:A1) (to s:BA') (n:Nat):pth w to n s=if s=to then some [] else fs (ptF w to n) 0 (Al w s):=by
 cases n with
 |zero=>
  by_cases h:s=to
  ·simp[pth,h]
  ·simp only[pth,h,if_false];exact(It (fun _ _=>rfl)).symm
 |succ m=>simp only[pth];rfl
theorem EX {w:A1} {to:BA'} {n:Nat} (h:0<n) (i:Nat) (t:BA'):ptF w to n i t=(pth w to (n - 1) t).map (i:: ·):=by
 cases n with
 |zero=>omega
 |succ m=>rfl
theorem F5 {w:A1} {to:BA'} {k:Nat} (l:List BA'):fs (ptF w to 0) k l=none:=It fun _ _=>rfl
theorem Im {w:A1} {to:BA'}:∀(n:Nat) (s:BA') (r:List Nat),pth w to n s=some r→r.length≤n
 |0,s,r,h=>by
  rw[CR] at h
  split at h
  ·cases h;simp
  ·rw[F5] at h;cases h
 |n+1,s,r,h=>by
  rw[CR] at h
  split at h
  ·cases h;simp
  ·obtain⟨k,hk,h1, -⟩:=ME h
   simp only[ptF,Nat.zero_add] at h1
   cases hq:pth w to n (Al w s)[k] with
   |none=>rw[hq] at h1;cases h1
   |some r2=>rw[hq] at h1;simp at h1;subst h1;have:=Im n _ _ hq;simp;omega
def asO (w:A1) (b:A9) (i:Nat) (u:BA'):AD:=⟨⟨u,b.AM⟩,(i:Int),((pth w u 8 b.AK).getD []).map fun (n:Nat)=>(n:Int)⟩
theorem ct (w:A1) (b:A9) (i:Nat) (u:BA'):(asO w b i u).DT=⟨u,b.AM⟩:=rfl
theorem cr (w:A1) (b:A9) (i:Nat) (u:BA'):(asO w b i u).Eu=(i:Int):=rfl
theorem cq (w:A1) (b:A9) (i:Nat) (u:BA'):(asO w b i u).DY.map dI=((pth w u 8 b.AK).getD []).map dN:=by unfold asO;rw[List.map_map];rfl
noncomputable def asK (w:A1) (l:List A9) (k:Nat):List AD:=asF w 0 (l.take k)
theorem KC (w:A1) (l:List A9):asK w l 0=[]:=by simp[asK,asF]
theorem Rv (w:A1):∀(a b:List A9) (i:Nat),asF w i (a++b)=asF w i a++asF w (i+a.length) b
 |[],b,i=>by simp[asF]
 |x::a,b,i=>by
  have h:=Rv w a b (i+1)
  simp only[List.cons_append,asF,h,List.append_assoc,List.length_cons]
  rw[show i+1+a.length=i+(a.length+1) by omega]
theorem PZ {w:A1} {l:List A9} {k:Nat} (h:k<l.length):asK w l (k+1)=(asK w l k++[⟨l[k],(k:Int),[]⟩])++(Ce w l[k].AK).map (asO w l[k] k):=by
 unfold asK
 rw[Y' h,Rv]
 have:(l.take k).length=k:=by simp;omega
 simp only[asF,this,Nat.zero_add,List.append_nil,List.append_assoc,List.singleton_append];rfl
theorem MY {w:A1} {l:List A9} {k:Nat} (h:l.length≤k):asK w l k=asm w l:=by unfold asK asm;rw[List.take_of_length_le h]
theorem Iw (w:A1) (l:List A9):∀k,k≤l.length→(asK w l k).length≤k*(1+w.sz)
 |0,_=>by simp[KC]
 |k+1,h=>by
  have h1:=Iw w l k (by omega)
  have h2:=Ex w (l[k]'(by omega)).AK
  rw[PZ (by omega)]
  simp only[List.length_append,List.length_singleton,List.length_map]
  rw[Nat.add_mul,Nat.one_mul];omega
theorem eJ (w:A1) (to:BA'):∀(N n:Nat),n<N→n≤8→∀(s:BA') (h:HP),CS cx.P 369 [.d ((w).dd false),dS' s,dS' to,dI' ((n:Nat):Int)] h (.tp [.d (.sl true .one ((((pth w to n s).getD [])).map (dN))),dB' ((pth w to n s).isSome)]) h:=by
 intro N
 induction N with
 |zero=>intro n hn;omega
 |succ N ih=>
 intro n hn hn8 s h
 have ii:∀(s:BA') (m:Nat),Ct cx 369 [.d (Au w),.d (.lf (.string (s))),.d (.lf (.string (to))),.d (.lf (.int .i64 ((m:Nat):Int)))] (m<N∧m≤8) (.tp [.d (.sl true .one ((((pth w to m s).getD [])).map (dN))),.d (.lf (.bool ((pth w to m s).isSome)))]):=fun s m=>⟨fk1 func369,fun hp h=>by have q:=ih m hp.1 hp.2 s h;first|exact q|simpa using q⟩
 have hsu:∀s,(trR w s).1.Aq=Al w s:=fun _=>rfl
 have hw:0<n→IntKind.i64.wrap ((n:Int) - 1)=((n - 1:Nat):Int):=fun h0=>by rw[BH (by omega) (by omega)];omega
 have hpl:=@Im w to
 refine Xe func369 rfl 57 [.tmp 8,.tmp 9] ?_
 let M:List Nat:=[54]
 let G:List Nat:=[]
 have H:=AN
 have hn0:¬n=0→0<n:=fun e=>by omega
 replace H:=AI hn0 (AI hsu (AI hw H))
 repeat' (first|refine GO ?_|(refine Two.mk ?_ ?_<;>intro hb<;>(try simp at hb)<;>(try norm_cast at hb)<;>try replace H:=HN hb H)|(refine RG.mk ?_;(try clear hK hD);first|intro _ K hD hK|intro K hD hK)|(refine RF.mk ?_;intro hr)|(refine LF.mk ?_;(try clear hK hD);first|rfl|(simp[CR,F5, *];done)|(simp_all [CR,F5];done)|grind [CR,F5]))
 refine W.loopR [2,3,4,10] [4,10] (fun k0 _=>[(13,dI' k0)]) (fun _ _=>[]) ((Al w s).length) (fun k0 _=>fs (ptF w to n) 0 (Al w s)=fs (ptF w to n) k0 ((Al w s).drop k0)) (fun S=>()) rfl (by simp) (by first|trivial|rfl|(simp;done)|(simp[CR,Ay,EX];done)|(simp_all [CR,Ay,EX];done)) ?_
 · intro k0 hk0 s0 hi0 T hT;simp at hT;subst hT
   by_cases hkk:k0<(Al w s).length
   rotate_left
   have hfe:fs (ptF w to n) 0 (Al w s)=none:=by rw[hi0,As _ _ (by omega)]
   clear hi0
   rotate_left
   have hf0:n=0→fs (ptF w to n) 0 (Al w s)=none:=fun e=>by rw[e,F5]
   rcases hpt:pth w to (n - 1) (Al w s)[k0] with _|r<;>replace H:=AI hpt H
   all_goals repeat' (first|refine GO ?_|(refine Two.mk ?_ ?_<;>intro hb<;>(try simp at hb)<;>(try norm_cast at hb)<;>try replace H:=HN hb H)|(refine RG.mk ?_;(try clear hK hD);first|intro _ K hD hK|intro K hD hK)|(refine RF.mk ?_;intro hr)|(refine LF.mk ?_;(try clear hK hD);first|rfl|(simp[CR,Ay,EX, *];done)|(simp_all [CR,Ay,EX];done)|grind [CR,Ay,EX]))
instance nR (w:A1) (s to:BA'):Ct cx 369 [.d (Au w),dS' s,dS' to,dI' 8] True (.tp [.d (.sl true .one ((((pth w to 8 s).getD [])).map (dN))),dB' ((pth w to 8 s).isSome)]):=⟨fk1 func369,fun _ h=>by have q:=eJ w to 9 8 (by omega) (by omega) s h;first|exact q|simpa using q⟩
theorem TE (N:Nat) (ii:∀(k:Int) (n:BA') (l:List A0),Ct cx 252 [.d (uK k n l)] (AR (⟨k,n,l⟩:A0)<N∧A0.wd (⟨k,n,l⟩:A0)) (.d (((⟨k,n,l⟩:A0)).dd true))):∀(l:List A0),Ct cx 332 [.d (.sl false Ai ((l).map (A0.dd false)))] (Ag l<N∧l.length≤134217728∧(∀y∈l,y.wd)) (.d (.sl true Ai (((l)).map (A0.dd true)))):=fun l=>by
 refine Xi func332 23 [.tmp 2] [15,22] [] AN trivial ?_;intro hp h M G H E
 have gx:∀k (hk:k<l.length),AR l[k]<N∧l[k].wd:=fun k hk=>⟨by have:=Bo hk;have:=hp.1;omega,hp.2.2 _ (gm hk)⟩;replace H:=AI gx H
 have hF:TOF (A0.dd true) (.st [.lf (.int .i64 0),.lf (.string ⟨#[]⟩),.sl true Ai []]) Ai l:=⟨A0.sh_dd true,rfl,by decide⟩
 repeat' (first|(refine iE ?_;(obtain rfl:k0=l.length:=(by omega));refine XFb 3 8 l ?_;refine GN ?_)|(refine IN.mk ?_;intros)|(refine iTw ?_;refine T2 ?_ ?_<;>((try clear H);intro hb H)<;>try exact hb.elim)|(refine LF.mk ?_;exact LX)|refine GN ?_|(refine XTb [3,9,10] 11 8 l ?_;intro k0 hk0 hr;have hs:=hr.2.2.1;(try simp at hs);replace H:=AI hr (AI hs H))|fail)
theorem Vv:∀(N:Nat) (k:Int) (n:BA') (l:List A0),Ct cx 252 [.d (uK k n l)] (AR (⟨k,n,l⟩:A0)<N∧A0.wd (⟨k,n,l⟩:A0)) (.d (((⟨k,n,l⟩:A0)).dd true)):=by
 intro N
 induction N with
 |zero=>intro k n l;exact⟨fk1 func252,fun hp=>absurd hp.1 (Nat.not_lt_zero _)⟩
 |succ N ih=>
 intro k n l
 have jj:=TE N ih
 refine Xi func252 8 [.cell 2 85] [7] [] AN trivial ?_;intro hp h M G H E
 have hla:Ag l<N∧l.length≤134217728∧(∀y∈l,y.wd):=⟨by have:=BG ⟨k,n,l⟩;have:=hp.1;simp only at*;omega,D0 hp.2,Bj hp.2⟩;replace H:=AI hla H
 all_goals exact GA0
instance fd (k:Int) (n:BA') (l:List A0):Ct cx 252 [.d (uK k n l)] (A0.wd (⟨k,n,l⟩:A0)) (.d (((⟨k,n,l⟩:A0)).dd true)):=⟨fk1 func252,fun hp h=>(Vv _ k n l).cs ⟨Nat.lt_succ_self _,hp⟩ h⟩
instance iLook (s:List A6) (v:BA'):Ct cx 385 [.d (.sl false BB ((s).map (A6.dd false))),dS' v] (∀b∈s,b.AM.wd) (.tp [.d ((((lkB s v).getD zT)).dd true),dB' ((lkB s v).isSome)]):=by
 refine Xi func385 23 [.cell 4 85,.tmp 5] [13] [] AN (AI @cL<|AI @VW<|@zT.eq_1) ?_;intro hp h M G H E
 have hpp:=fun k (h:k<s.length)=>hp _ (gm h);replace H:=AI hpp H
 repeat' (first|(refine IN.mk ?_;intros)|(refine iTw ?_;refine T2 ?_ ?_<;>((try clear H);intro hb H)<;>try exact hb.elim)|(refine LF.mk ?_;exact LX)|refine GN ?_|(refine XC [1,4,8,9] [4] 10 (s.length) (fun k0=>lkB s v=lkB (s.drop k0) v) ?_;intro k0 hk0 hi0)|fail)
def apD (s:List A6) (y:A0):DD:=(ap s y).dd true
theorem bI (s:List A6) (l:List A0):(l.map (ap s)).map (A0.dd true)=l.map (apD s):=by rw[List.map_map];rfl
theorem TF (N:Nat) (ii:∀(s:List A6) (k:Int) (n:BA') (l:List A0),Ct cx 328 [.d (.sl false BB ((s).map (A6.dd false))),.d (uK k n l)] (AR (⟨k,n,l⟩:A0)<N∧A0.wd (⟨k,n,l⟩:A0)∧∀b∈s,b.AM.wd) (.d (((ap s (⟨k,n,l⟩:A0))).dd true))):∀(s:List A6) (l:List A0),Ct cx 386 [.d (.sl false BB ((s).map (A6.dd false))),.d (.sl false Ai ((l).map (A0.dd false)))] (Ag l<N∧l.length≤134217728∧(∀y∈l,y.wd)∧∀b∈s,b.AM.wd) (.d (.sl true Ai (((l.map (ap s))).map (A0.dd true)))):=fun s l=>by
 refine Xi func386 26 [.tmp 4] [17,25] [] AN trivial ?_;intro hp h M G H E
 have gx:∀k (hk:k<l.length),AR l[k]<N∧l[k].wd:=fun k hk=>⟨by have:=Bo hk;have:=hp.1;omega,hp.2.2.1 _ (gm hk)⟩;replace H:=AI gx H;have hpp:=hp.2.2.2;replace H:=AI hpp H
 have hF:TOF (apD s) (.st [.lf (.int .i64 0),.lf (.string ⟨#[]⟩),.sl true Ai []]) Ai l:=⟨fun y=>A0.sh_dd true _,rfl,by decide⟩
 have hmd:=bI s l;replace H:=AI hmd H
 repeat' (first|(refine iE ?_;(obtain rfl:k0=l.length:=(by omega));refine XFb 5 10 l ?_;refine GN ?_)|(refine IN.mk ?_;intros)|(refine iTw ?_;refine T2 ?_ ?_<;>((try clear H);intro hb H)<;>try exact hb.elim)|(refine LF.mk ?_;exact LX)|refine GN ?_|(refine XTb [0,5,11,12] 13 10 l ?_;intro k0 hk0 hr;have hs:=hr.2.2.1;(try simp[apD] at hs);replace H:=AI hr (AI hs H))|fail)
theorem Vx:∀(N:Nat) (s:List A6) (k:Int) (n:BA') (l:List A0),Ct cx 328 [.d (.sl false BB ((s).map (A6.dd false))),.d (uK k n l)] (AR (⟨k,n,l⟩:A0)<N∧A0.wd (⟨k,n,l⟩:A0)∧∀b∈s,b.AM.wd) (.d (((ap s (⟨k,n,l⟩:A0))).dd true)):=by
 intro N
 induction N with
 |zero=>intro s k n l;exact⟨fk1 func328,fun hp=>absurd hp.1 (Nat.not_lt_zero _)⟩
 |succ N ih=>
 intro s k n l
 have jj:=TF N ih
 refine Xi func328 28 [.cell 4 85] [10,15,18] [] AN trivial ?_;intro hp h M G H E
 have hla:Ag l<N∧l.length≤134217728∧(∀y∈l,y.wd):=⟨by have:=BG ⟨k,n,l⟩;have:=hp.1;simp only at*;omega,D0 hp.2.1,Bj hp.2.1⟩;replace H:=AI hla H;have hpp:=hp.2.2;replace H:=AI hpp H
 have he:=cu s ⟨k,n,l⟩;simp only at he;replace H:=AI he H
 all_goals exact GA2
instance fh (s:List A6) (k:Int) (n:BA') (l:List A0):Ct cx 328 [.d (.sl false BB ((s).map (A6.dd false))),.d (uK k n l)] (A0.wd (⟨k,n,l⟩:A0)∧∀b∈s,b.AM.wd) (.d (((ap s (⟨k,n,l⟩:A0))).dd true)):=⟨fk1 func328,fun hp h=>(Vx _ s k n l).cs ⟨Nat.lt_succ_self _,hp⟩ h⟩
theorem fU (w:A1) (to:BA'):∀(N n:Nat),n<N→n≤8→∀(s:BA') (h:HP),CS cx.P 396 [.d ((w).dd false),dS' s,dS' to,dI' ((n:Nat):Int)] h (.tp [.d (.sl true .one ((((pth w to n s).getD [])).map (dN))),dB' ((pth w to n s).isSome)]) h:=by
 intro N
 induction N with
 |zero=>intro n hn;omega
 |succ N ih=>
 intro n hn hn8 s h
 have ii:∀(s:BA') (m:Nat),Ct cx 396 [.d (Au w),.d (.lf (.string (s))),.d (.lf (.string (to))),.d (.lf (.int .i64 ((m:Nat):Int)))] (m<N∧m≤8) (.tp [.d (.sl true .one ((((pth w to m s).getD [])).map (dN))),.d (.lf (.bool ((pth w to m s).isSome)))]):=fun s m=>⟨fk1 func396,fun hp h=>by have q:=ih m hp.1 hp.2 s h;first|exact q|simpa using q⟩
 have hsu:∀s,(trR w s).1.Aq=Al w s:=fun _=>rfl
 have hw:0<n→IntKind.i64.wrap ((n:Int) - 1)=((n - 1:Nat):Int):=fun h0=>by rw[BH (by omega) (by omega)];omega
 have hpl:=@Im w to
 refine Xe func396 rfl 53 [.tmp 8,.tmp 9] ?_
 let M:List Nat:=[50]
 let G:List Nat:=[]
 have H:=AN
 have hn0:¬n=0→0<n:=fun e=>by omega
 replace H:=AI hn0 (AI hsu (AI hw H))
 repeat' (first|refine GO ?_|(refine Two.mk ?_ ?_<;>intro hb<;>(try simp at hb)<;>(try norm_cast at hb)<;>try replace H:=HN hb H)|(refine RG.mk ?_;(try clear hK hD);first|intro _ K hD hK|intro K hD hK)|(refine RF.mk ?_;intro hr)|(refine LF.mk ?_;(try clear hK hD);first|rfl|(simp[CR,F5, *];done)|(simp_all [CR,F5];done)|grind [CR,F5]))
 refine W.loopR [2,3,4,31,32] [4] (fun k0 _=>[(33,dI' k0)]) (fun _ _=>[]) ((Al w s).length) (fun k0 _=>fs (ptF w to n) 0 (Al w s)=fs (ptF w to n) k0 ((Al w s).drop k0)) (fun S=>()) rfl (by simp) (by first|trivial|rfl|(simp;done)|(simp[CR,Ay,EX];done)|(simp_all [CR,Ay,EX];done)) ?_
 · intro k0 hk0 s0 hi0 T hT;simp at hT;subst hT
   by_cases hkk:k0<(Al w s).length
   rotate_left
   have hfe:fs (ptF w to n) 0 (Al w s)=none:=by rw[hi0,As _ _ (by omega)]
   clear hi0
   rotate_left
   have hf0:n=0→fs (ptF w to n) 0 (Al w s)=none:=fun e=>by rw[e,F5]
   rcases hpt:pth w to (n - 1) (Al w s)[k0] with _|r<;>replace H:=AI hpt H
   all_goals repeat' (first|refine GO ?_|(refine Two.mk ?_ ?_<;>intro hb<;>(try simp at hb)<;>(try norm_cast at hb)<;>try replace H:=HN hb H)|(refine RG.mk ?_;(try clear hK hD);first|intro _ K hD hK|intro K hD hK)|(refine RF.mk ?_;intro hr)|(refine LF.mk ?_;(try clear hK hD);first|rfl|(simp[CR,Ay,EX, *];done)|(simp_all [CR,Ay,EX];done)|grind [CR,Ay,EX]))
instance oJ (w:A1) (s to:BA'):Ct cx 396 [.d (Au w),dS' s,dS' to,dI' 8] True (.tp [.d (.sl true .one ((((pth w to 8 s).getD [])).map (dN))),dB' ((pth w to 8 s).isSome)]):=⟨fk1 func396,fun _ h=>by have q:=fU w to 9 8 (by omega) (by omega) s h;first|exact q|simpa using q⟩
