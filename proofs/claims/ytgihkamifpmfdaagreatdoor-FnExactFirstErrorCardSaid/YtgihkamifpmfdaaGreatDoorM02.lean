/- Part 02. No condition. -/
import Derived.Test.YtgihkamifpmfdaaGreatDoorM01
namespace Go.Proofs.YtgihkamifpmfdaaGreatDoor
open Go.RowKit
set_option linter.unusedVariables false
set_option linter.unusedSimpArgs false
inductive Sh where
  |one
  |st (l:List Sh)
inductive DD where
  |lf (v:Value)
  |st (fs:List DD)
  |sl (o:Bool) (s:Sh) (es:List DD)
instance:Inhabited DD:=⟨.lf (.bool false)⟩
mutual
def Sh.w:Sh→Nat
  | .one=>1
  | .st l=>Sh.ws l
def Sh.ws:List Sh→Nat
  |[]=>0
  |s::l=>s.w+Sh.ws l
end
mutual
def DD.sh:DD→Sh
  | .lf _=> .one
  | .sl _ _ _=> .one
  | .st fs=> .st (DD.shs fs)
def DD.shs:List DD→List Sh
  |[]=>[]
  |d::ds=>d.sh::DD.shs ds
end
mutual
def DD.vw:DD→DD
  | .lf v=> .lf v
  | .sl _ s es=> .sl false s (DD.vws es)
  | .st fs=> .st (DD.vws fs)
def DD.vws:List DD→List DD
  |[]=>[]
  |d::ds=>d.vw::DD.vws ds
end
theorem DD.shs_eq:∀l:List DD,DD.shs l=l.map DD.sh
  |[]=>rfl
  |d::l=>by simp only[DD.shs,DD.shs_eq l,List.map_cons]
theorem DD.vws_eq:∀l:List DD,DD.vws l=l.map DD.vw
  |[]=>rfl
  |d::l=>by simp only[DD.vws,DD.vws_eq l,List.map_cons]
mutual
theorem DD.sh_vw:∀d:DD,d.vw.sh=d.sh
  | .lf _=>rfl
  | .sl _ _ _=>by simp only[DD.vw,DD.sh]
  | .st fs=>by simp only[DD.vw,DD.sh,DD.shs_vw fs]
theorem DD.shs_vw:∀l:List DD,DD.shs (DD.vws l)=DD.shs l
  |[]=>rfl
  |d::l=>by simp only[DD.vws,DD.shs,DD.sh_vw d,DD.shs_vw l]
end
mutual
theorem DD.vw_vw:∀d:DD,d.vw.vw=d.vw
  | .lf _=>rfl
  | .sl _ _ es=>by simp only[DD.vw,DD.vws_vws es]
  | .st fs=>by simp only[DD.vw,DD.vws_vws fs]
theorem DD.vws_vws:∀l:List DD,DD.vws (DD.vws l)=DD.vws l
  |[]=>rfl
  |d::l=>by simp only[DD.vws,DD.vw_vw d,DD.vws_vws l]
end
def DD.mk:DD→List Value→Value
  | .st _,cs=> .agg cs.toArray
  |_,cs=>cs.headD undef
mutual
def rp (w:World) (F:Nat→Nat):DD→List Value→List Nat→Prop
  | .lf v,cs,bs=>cs=[v]∧BK v∧bs=[]
  | .st fs,cs,bs=>rpS w F fs cs bs
  | .sl o s es,cs,bs=>(∀e∈es,e.sh=s)∧0<s.w∧∃a cap,cs=[.slice a es.length cap]∧es.length≤cap∧cap≤maxLen∧(a=none→cap=0)∧
      ((bs = [] ∧ es = [] ∧ (o = true → cap = 0)) ∨
       ∃b off r,a=some ⟨b,off,none⟩∧rpE w F es b off r∧off+es.length*s.w≤F b∧
         ((o = false ∧ bs = [] ∧ r = []) ∨
          (o=true∧bs=b::r∧off=0∧F b=es.length*s.w∧∃cur e,w.heap[b]? =some (.cells cur e (0,0))∧cap*s.w≤cur.size)))
def rpS (w:World) (F:Nat→Nat):List DD→List Value→List Nat→Prop
  |[],cs,bs=>cs=[]∧bs=[]
  |d::ds,cs,bs=>∃c1 c2 b1 b2,cs=c1++c2∧bs=b1++b2∧rp w F d c1 b1∧rpS w F ds c2 b2
def rpE (w:World) (F:Nat→Nat):List DD→Nat→Nat→List Nat→Prop
  |[],_,_,bs=>bs=[]
  |d::ds,b,off,bs=>∃cs b1 b2,bs=b1++b2∧CQ w b off cs∧rp w F d cs b1∧rpE w F ds b (off+d.sh.w) b2
end
theorem Sh.ws_map {s:Sh}:∀l:List DD,(∀e∈l,e.sh=s)→Sh.ws (l.map DD.sh)=l.length*s.w
  |[],_=>by simp[Sh.ws]
  |d::l,h=>by
    rw[List.map_cons,Sh.ws,Sh.ws_map l (fun e he=>h e (by simp[he])),h d (by simp),List.length_cons,Nat.add_mul]
    omega
mutual
theorem rp.length {w:World} {F:Nat→Nat}:∀(d:DD) (cs:List Value) (bs:List Nat),rp w F d cs bs→cs.length=d.sh.w
  | .lf v,cs,bs,h=>by
    simp only[rp] at h
    rw[h.1];simp[DD.sh,Sh.w]
  | .sl o s es,cs,bs,h=>by
    simp only[rp] at h
    obtain⟨-, -,a,cap,h, -⟩:=h
    rw[h];simp[DD.sh,Sh.w]
  | .st fs,cs,bs,h=>by
    simp only[rp] at h
    simp only[DD.sh,Sh.w]
    exact rpS.length fs cs bs h
theorem rpS.length {w:World} {F:Nat→Nat}:∀(l:List DD) (cs:List Value) (bs:List Nat),rpS w F l cs bs→cs.length=Sh.ws (DD.shs l)
  |[],cs,bs,h=>by
    simp only[rpS] at h
    rw[h.1];simp[DD.shs,Sh.ws]
  |d::l,cs,bs,h=>by
    simp only[rpS] at h
    obtain⟨c1,c2,b1,b2,rfl, -,h1,h2⟩:=h
    rw[List.length_append,rp.length d c1 b1 h1,rpS.length l c2 b2 h2];simp[DD.shs,Sh.ws]
end
structure Kp (w:World) (F:Nat→Nat) (w':World) (F':Nat→Nat) (bs:List Nat):Prop where
  cell:∀b o,o<F b→w'.cell? ⟨b,o,none⟩=w.cell? ⟨b,o,none⟩
  mono:∀b,F b≤F' b
  own:∀b∈bs,w'.heap[b]? =w.heap[b]? ∧F' b=F b
theorem Kp.sub {w w':World} {F F':Nat→Nat} {bs cs:List Nat} (h:Kp w F w' F' bs) (hs:∀b∈cs,b∈bs):Kp w F w' F' cs:=⟨h.cell,h.mono,fun b hb=>h.own b (hs b hb)⟩
mutual
theorem rp.keep {w w':World} {F F':Nat→Nat}:∀(d:DD) (cs:List Value) (bs:List Nat),rp w F d cs bs→Kp w F w' F' bs→rp w' F' d cs bs
  | .lf v,cs,bs,h,_=>by simpa only[rp] using h
  | .st fs,cs,bs,h,k=>by
    simp only[rp] at h ⊢
    exact rpS.keep fs cs bs h k
  | .sl o s es,cs,bs,h,k=>by
    simp only[rp] at h ⊢
    obtain⟨hs,hp,a,cap,h1,h2,h3,h4,h5⟩:=h
    refine⟨hs,hp,a,cap,h1,h2,h3,h4,?_⟩
    rcases h5 with h5|⟨b,off,r,ha,he,hf,h6⟩
    · exact .inl h5
    · have hw:off+Sh.ws (DD.shs es)≤F b:=by rw[DD.shs_eq,Sh.ws_map es hs];exact hf
      rcases h6 with ⟨ho,hb,hr⟩|⟨ho,hb,hoff,hF,cur,e,hh,hc⟩
      · subst hr
        exact .inr ⟨b,off,[],ha,rpE.keep es b off [] he hw (k.sub (by simp)),Nat.le_trans hf (k.mono b),.inl ⟨ho,hb,rfl⟩⟩
      · subst hb
        have hk:=k.own b (by simp)
        exact .inr ⟨b,off,r,ha,rpE.keep es b off r he hw (k.sub (fun x hx=>by simp[hx])),Nat.le_trans hf (k.mono b),.inr ⟨ho,rfl,hoff,hk.2.trans hF,cur,e,hk.1.trans hh,hc⟩⟩
theorem rpS.keep {w w':World} {F F':Nat→Nat}:∀(l:List DD) (cs:List Value) (bs:List Nat),rpS w F l cs bs→Kp w F w' F' bs→rpS w' F' l cs bs
  |[],cs,bs,h,_=>by simpa only[rpS] using h
  |d::l,cs,bs,h,k=>by
    simp only[rpS] at h ⊢
    obtain⟨c1,c2,b1,b2,h1,h2,h3,h4⟩:=h
    subst h2
    exact⟨c1,c2,b1,b2,h1,rfl,rp.keep d c1 b1 h3 (k.sub (fun x hx=>by simp[hx])),rpS.keep l c2 b2 h4 (k.sub (fun x hx=>by simp[hx]))⟩
theorem rpE.keep {w w':World} {F F':Nat→Nat}:∀(l:List DD) (b off:Nat) (bs:List Nat),rpE w F l b off bs→off+Sh.ws (DD.shs l)≤F b→Kp w F w' F' bs→rpE w' F' l b off bs
  |[],_,_,bs,h,_,_=>by simpa only[rpE] using h
  |d::l,b,off,bs,h,hf,k=>by
    simp only[rpE] at h ⊢
    simp only[DD.shs,Sh.ws] at hf
    obtain⟨cs,b1,b2,h1,h2,h3,h4⟩:=h
    subst h1
    have hl:=rp.length d cs b1 h3
    refine⟨cs,b1,b2,rfl,?_,rp.keep d cs b1 h3 (k.sub (fun x hx=>by simp[hx])),rpE.keep l b _ b2 h4 (by omega) (k.sub (fun x hx=>by simp[hx]))⟩
    intro j u hu
    have hj:=(List.getElem?_eq_some_iff.1 hu).1
    rw[k.cell b _ (by omega)]
    exact h2 j u hu
end
mutual
theorem rp.view {w:World} {F:Nat→Nat}:∀(d:DD) (cs:List Value) (bs:List Nat),rp w F d cs bs→rp w F d.vw cs []
  | .lf v,cs,bs,h=>by
    simp only[rp,DD.vw] at h ⊢
    exact⟨h.1,h.2.1,trivial⟩
  | .st fs,cs,bs,h=>by
    simp only[rp,DD.vw] at h ⊢
    exact rpS.view fs cs bs h
  | .sl o s es,cs,bs,h=>by
    simp only[rp,DD.vw] at h ⊢
    obtain⟨hs,hp,a,cap,h1,h2,h3,h4,h5⟩:=h
    have hl:(DD.vws es).length=es.length:=by rw[DD.vws_eq,List.length_map]
    refine⟨?_,hp,a,cap,by rw[hl];exact h1,by rw[hl];exact h2,h3,h4,?_⟩
    · intro e he
      rw[DD.vws_eq] at he
      obtain⟨x,hx,rfl⟩:=List.mem_map.1 he
      rw[DD.sh_vw];exact hs x hx
    rcases h5 with ⟨-,h5, -⟩|⟨b,off,r,ha,he,hf,h6⟩
    · exact .inl ⟨trivial,by rw[h5];rfl,by simp⟩
    · exact .inr ⟨b,off,[],ha,rpE.view es b off r he,by rw[hl];exact hf,.inl ⟨trivial,trivial,rfl⟩⟩
theorem rpS.view {w:World} {F:Nat→Nat}:∀(l:List DD) (cs:List Value) (bs:List Nat),rpS w F l cs bs→rpS w F (DD.vws l) cs []
  |[],cs,bs,h=>by
    simp only[rpS,DD.vws] at h ⊢
    exact⟨h.1,trivial⟩
  |d::l,cs,bs,h=>by
    simp only[rpS,DD.vws] at h ⊢
    obtain⟨c1,c2,b1,b2,h1,h2,h3,h4⟩:=h
    exact⟨c1,c2,[],[],h1,rfl,rp.view d c1 b1 h3,rpS.view l c2 b2 h4⟩
theorem rpE.view {w:World} {F:Nat→Nat}:∀(l:List DD) (b off:Nat) (bs:List Nat),rpE w F l b off bs→rpE w F (DD.vws l) b off []
  |[],_,_,bs,h=>by simp only[rpE,DD.vws]
  |d::l,b,off,bs,h=>by
    simp only[rpE,DD.vws] at h ⊢
    obtain⟨cs,b1,b2,h1,h2,h3,h4⟩:=h
    exact⟨cs,[],[],rfl,h2,rp.view d cs b1 h3,by rw[DD.sh_vw];exact rpE.view l b _ b2 h4⟩
end
mutual
theorem rp.one {w:World} {F:Nat→Nat}:∀(d:DD) (cs:List Value) (bs:List Nat),rp w F d cs bs→∀u∈cs,u.oneCell'=true
  | .lf v,cs,bs,h=>by
    simp only[rp] at h
    obtain⟨rfl,h, -⟩:=h
    intro u hu
    simp only[List.mem_singleton] at hu
    subst hu
    cases u<;>first|rfl|exact h.elim
  | .st fs,cs,bs,h=>by
    simp only[rp] at h
    exact rpS.one fs cs bs h
  | .sl o s es,cs,bs,h=>by
    simp only[rp] at h
    obtain⟨-, -,a,cap,rfl, -⟩:=h
    intro u hu
    simp only[List.mem_singleton] at hu
    subst hu
    rfl
theorem rpS.one {w:World} {F:Nat→Nat}:∀(l:List DD) (cs:List Value) (bs:List Nat),rpS w F l cs bs→∀u∈cs,u.oneCell'=true
  |[],cs,bs,h=>by
    simp only[rpS] at h
    obtain⟨rfl, -⟩:=h
    intro u hu
    simp at hu
  |d::l,cs,bs,h=>by
    simp only[rpS] at h
    obtain⟨c1,c2,b1,b2,rfl, -,h1,h2⟩:=h
    intro u hu
    rcases List.mem_append.1 hu with hu|hu
    · exact rp.one d c1 b1 h1 u hu
    · exact rpS.one l c2 b2 h2 u hu
end
theorem rpE.get {w:World} {F:Nat→Nat} {s:Sh} {b:Nat}:∀(l:List DD) (off:Nat) (bs:List Nat),(∀e∈l,e.sh=s)→rpE w F l b off bs→∀(k:Nat) (d:DD),l[k]? =some d→∃cs bk,CQ w b (off+k*s.w) cs∧rp w F d cs bk∧∀x∈bk,x∈bs
  |[],_,_,_,_,k,d,hd=>by simp at hd
  |e::l,off,bs,hs,h,0,d,hd=>by
    simp only[List.getElem?_cons_zero,Option.some.injEq] at hd
    subst hd
    simp only[rpE] at h
    obtain⟨cs,b1,b2,h1,h2,h3, -⟩:=h
    exact⟨cs,b1,by simpa using h2,h3,fun x hx=>by rw[h1];simp[hx]⟩
  |e::l,off,bs,hs,h,k+1,d,hd=>by
    simp only[List.getElem?_cons_succ] at hd
    simp only[rpE] at h
    obtain⟨cs,b1,b2,h1,h2,h3,h4⟩:=h
    rw[hs e (by simp)] at h4
    obtain⟨cs',bk,g1,g2,g3⟩:=rpE.get l (off+s.w) b2 (fun x hx=>hs x (by simp[hx])) h4 k d hd
    refine⟨cs',bk,?_,g2,fun x hx=>by rw[h1];simp[g3 x hx]⟩
    rw[show off+(k+1)*s.w=off+s.w+k*s.w by rw[Nat.add_mul];omega]
    exact g1
theorem rpE.toS {w:World} {F:Nat→Nat} {b:Nat}:∀(l:List DD) (off:Nat) (bs:List Nat),rpE w F l b off bs→∃xs,CQ w b off xs∧rpS w F l xs bs
  |[],off,bs,h=>by
    simp only[rpE] at h
    exact⟨[],fun j u hu=>by simp at hu,by simp only[rpS];exact⟨trivial,h⟩⟩
  |d::l,off,bs,h=>by
    simp only[rpE] at h
    obtain⟨cs,b1,b2,h1,h2,h3,h4⟩:=h
    obtain⟨xs,g1,g2⟩:=rpE.toS l _ b2 h4
    refine⟨cs++xs,?_,by simp only[rpS];exact⟨cs,xs,b1,b2,rfl,h1,h3,g2⟩⟩
    intro j u hu
    by_cases hj:j<cs.length
    · rw[List.getElem?_append_left hj] at hu;exact h2 j u hu
    · rw[List.getElem?_append_right (by omega)] at hu
      have:=g1 (j - cs.length) u hu
      rw[rp.length d cs b1 h3] at this
      rw[show off+j=off+d.sh.w+(j - d.sh.w) by have:=rp.length d cs b1 h3;omega]
      exact this
theorem rpS.toE {w:World} {F:Nat→Nat} {b:Nat}:∀(l:List DD) (xs:List Value) (off:Nat) (bs:List Nat),rpS w F l xs bs→CQ w b off xs→rpE w F l b off bs
  |[],xs,off,bs,h,_=>by
    simp only[rpS] at h
    simp only[rpE];exact h.2
  |d::l,xs,off,bs,h,hc=>by
    simp only[rpS] at h
    obtain⟨c1,c2,b1,b2,rfl,h2,h3,h4⟩:=h
    simp only[rpE]
    refine⟨c1,b1,b2,h2,fun j u hu=>hc j u (by rw[List.getElem?_append_left (List.getElem?_eq_some_iff.1 hu).1];exact hu),h3,rpS.toE l c2 _ b2 h4 ?_⟩
    intro j u hu
    have:=hc (c1.length+j) u (by rw[List.getElem?_append_right (by omega)];simpa using hu)
    rw[rp.length d c1 b1 h3] at this
    rw[show off+d.sh.w+j=off+(d.sh.w+j) by omega]
    exact this
theorem rpS.append {w:World} {F:Nat→Nat}:∀(l:List DD) (xs:List Value) (bs:List Nat) (m:List DD) (ys:List Value) (cs:List Nat),rpS w F l xs bs→rpS w F m ys cs→rpS w F (l++m) (xs++ys) (bs++cs)
  |[],xs,bs,m,ys,cs,h,k=>by
    simp only[rpS] at h
    obtain⟨rfl,rfl⟩:=h
    simpa using k
  |d::l,xs,bs,m,ys,cs,h,k=>by
    simp only[rpS] at h
    obtain⟨c1,c2,b1,b2,rfl,rfl,h3,h4⟩:=h
    simp only[List.cons_append,rpS]
    exact⟨c1,c2++ys,b1,b2++cs,by simp,by simp,h3,rpS.append l c2 b2 m ys cs h4 k⟩
inductive AV where
 |un
 |d (x:DD)
 |pt (lv k:Nat) (p:List Nat)
 |el (x:DD)
 |rw(lv k n:Nat)
 |tp (l:List AV)
 |fn (f:Nat) (c:List AV)
 |fr (l:List AV)
 |ep (a:AV)
 |ms (s:Sh) (es:List DD)
 |mb (v:Value) (s:Sh) (es:List DD)
 |mp (b:Nat) (s:Sh) (i:Nat) (p:List Nat)
 |pv (v:Value)
 |mt (ks:List BA')
 |mn (v:Value) (ks:List BA')
instance:Inhabited AV:=⟨.un⟩
mutual
def AV.vw:AV→AV
 | .un=> .un
 | .d x=> .d x.vw
 | .pt lv k p=> .pt lv k p
 | .el x=> .el x
 | .rw lv k n=> .rw lv k n
 | .tp l=> .tp (AV.vws l)
 | .fn f c=> .fn f (AV.vws c)
 | .fr l=> .fr (AV.vws l)
 | .ep a=> .ep a.vw
 | .ms _ _=> .un
 | .mb v _ _=> .pv v
 | .mp b s i p=> .mp b s i p
 | .pv v=> .pv v
 | .mt _=> .un
 | .mn v _=> .pv v
def AV.vws:List AV→List AV
 |[]=>[]
 |a::l=>a.vw::AV.vws l
end
mutual
def AV.up:AV→AV
 | .un=> .un
 | .d x=> .d x
 | .pt lv k p=> .pt (lv+1) k p
 | .el x=> .el x
 | .rw lv k n=> .rw (lv+1) k n
 | .tp l=> .tp (AV.ups l)
 | .fn f c=> .fn f (AV.ups c)
 | .fr l=> .fr (AV.ups l)
 | .ep a=> .ep a.up
 | .ms s l=> .ms s l
 | .mb b s l=> .mb b s l
 | .mp b s i p=> .mp b s i p
 | .pv v=> .pv v
 | .mt ks=> .mt ks
 | .mn v ks=> .mn v ks
def AV.ups:List AV→List AV
 |[]=>[]
 |a::l=>a.up::AV.ups l
end
mutual
def AV.dn:AV→AV
 | .un=> .un
 | .d x=> .d x
 | .pt lv k p=> .pt (lv - 1) k p
 | .el x=> .el x
 | .rw lv k n=> .rw (lv - 1) k n
 | .tp l=> .tp (AV.dns l)
 | .fn f c=> .fn f (AV.dns c)
 | .fr l=> .fr (AV.dns l)
 | .ep a=> .ep a.dn
 | .ms s l=> .ms s l
 | .mb b s l=> .mb b s l
 | .mp b s i p=> .mp b s i p
 | .pv v=> .pv v
 | .mt ks=> .mt ks
 | .mn v ks=> .mn v ks
def AV.dns:List AV→List AV
 |[]=>[]
 |a::l=>a.dn::AV.dns l
end
mutual
def AV.nz:AV→Prop
 | .un=>True
 | .d _=>True
 | .pt lv _ _=>0<lv
 | .el _=>True
 | .rw lv _ _=>0<lv
 | .tp l=>AV.nzs l
 | .fn _ c=>AV.nzs c
 | .fr l=>AV.nzs l
 | .ep a=>a.nz
 | .ms _ _=>True
 | .mb _ _ _=>True
 | .mp _ _ _ _=>True
 | .pv _=>True
 | .mt _=>True
 | .mn _ _=>True
def AV.nzs:List AV→Prop
 |[]=>True
 |a::l=>a.nz∧AV.nzs l
end
def C8:Sh→List Nat→Option Nat
 |_,[]=>some 0
 | .one,_::_=>none
 | .st l,i::p=>match l[i]? with
  |some s=>(C8 s p).map (Sh.ws (l.take i)+ ·)
  |none=>none
def D9:DD→List Nat→DD
 |d,[]=>d
 | .st fs,i::p=>D9 (fs.getD i default) p
 |d,_::_=>d
def Df:DD→List Nat→DD→DD
 |_,[],x=>x
 | .st fs,i::p,x=> .st (fs.set i (Df (fs.getD i default) p x))
 |d,_::_,_=>d
abbrev Ty:=Nat→Nat→Option (Nat×Sh)
def ET (w:World) (B:Nat) (ks:List BA'):Prop:=∃es clock,w.heap[B]? =some (.map es clock)∧es.toList.map (fun e=>(e.key,e.val))=ks.map (fun s=>(Value.string s,Value.bool true))
theorem ET.keep {w w':World} {B:Nat} {ks:List BA'} (h:ET w B ks) (e:w'.heap[B]? =w.heap[B]?):ET w' B ks:=by
 obtain⟨es,cl,h1,h2⟩:=h
 exact⟨es,cl,e.trans h1,h2⟩
def rmt (w:World) (F:Nat→Nat) (o:Option Value) (ks:List BA') (v:Value) (bs:List Nat):Prop:=(∀u,o=some u→v=u)∧∃B,v=.map (some B)∧bs=[B]∧F B=0∧ET w B ks
def rms (w:World) (F:Nat→Nat) (s:Sh) (es:List DD) (v:Value) (bs:List Nat):Prop:=(∀e∈es,e.sh=s)∧0<s.w∧∃a cap,v=.slice a es.length cap∧es.length≤cap∧cap≤maxLen∧(a=none→cap=0)∧
 ((bs=[]∧es=[]∧cap=0)∨∃b r cur e,a=some ⟨b,0,none⟩∧bs=b::r∧F b=0∧rpE w F es b 0 r∧w.heap[b]? =some (.cells cur e (0,0))∧cap*s.w≤cur.size)
theorem Fx {w w':World} {b:Nat} (h:w'.heap[b]? =w.heap[b]?) (o:Nat):w'.cell? ⟨b,o,none⟩=w.cell? ⟨b,o,none⟩:=by
 unfold World.cell?
 simp only[h]
theorem rpE.keepB {w w':World} {F F':Nat→Nat} {b:Nat} (hb:w'.heap[b]? =w.heap[b]?):∀(l:List DD) (off:Nat) (bs:List Nat),rpE w F l b off bs→Kp w F w' F' bs→rpE w' F' l b off bs
 |[],_,bs,h,_=>by simpa only[rpE] using h
 |d::l,off,bs,h,k=>by
  simp only[rpE] at h ⊢
  obtain⟨cs,b1,b2,h1,h2,h3,h4⟩:=h
  subst h1
  refine⟨cs,b1,b2,rfl,fun j u hu=> ?_,rp.keep d cs b1 h3 (k.sub (fun x hx=>by simp[hx])),rpE.keepB hb l _ b2 h4 (k.sub (fun x hx=>by simp[hx]))⟩
  rw[Fx hb];exact h2 j u hu
theorem rms.keep {w w':World} {F F':Nat→Nat} {s:Sh} {es:List DD} {v:Value} {bs:List Nat} (h:rms w F s es v bs) (k:Kp w F w' F' bs):rms w' F' s es v bs:=by
 obtain⟨h0,h1,a,cap,h2,h3,h4,h5,h6⟩:=h
 refine⟨h0,h1,a,cap,h2,h3,h4,h5,?_⟩
 rcases h6 with h6|⟨b,r,cur,e,rfl,rfl,g1,g2,g3,g4⟩
 ·exact .inl h6
 ·have kb:=k.own b (by simp)
  exact .inr ⟨b,r,cur,e,rfl,rfl,kb.2.trans g1,rpE.keepB kb.1 es 0 r g2 (k.sub (fun x hx=>by simp[hx])),kb.1.trans g3,g4⟩
theorem rmt.keep {w w':World} {F F':Nat→Nat} {o:Option Value} {ks:List BA'} {v:Value} {bs:List Nat} (h:rmt w F o ks v bs) (k:Kp w F w' F' bs):rmt w' F' o ks v bs:=by
 obtain⟨h0,B,h1,rfl,h2,h3⟩:=h
 have kb:=k.own B (by simp)
 exact⟨h0,B,h1,rfl,kb.2.trans h2,h3.keep kb.1⟩
mutual
def rv (w:World) (F:Nat→Nat) (Θ:Ty):AV→Value→List Nat→Prop
 | .un,_,bs=>bs=[]
 | .d x,v,bs=>∃cs,rp w F x cs bs∧v=x.mk cs
 | .pt lv k p,v,bs=>bs=[]∧∃b s off,Θ lv k=some (b,s)∧C8 s p=some off∧v=.pointer (some ⟨b,off,none⟩)
 | .el x,v,bs=>bs=[]∧∃b off cs,v=.pointer (some ⟨b,off,none⟩)∧CQ w b off cs∧rp w F x cs []∧off+cs.length≤F b
 | .rw lv k n,v,bs=>bs=[]∧∃b s,Θ lv k=some (b,.st (List.replicate n s))∧v=.slice (some ⟨b,0,none⟩) n n∧0<s.w∧n≤maxLen
 | .tp l,v,bs=>∃vs,v=.tuple vs.toArray∧rvS w F Θ l vs bs
 | .fn f c,v,bs=>∃vs,v=.func (.func f) #[] vs.toArray∧rvS w F Θ c vs bs
 | .fr l,v,bs=>bs=[]∧∃b vs,v=.slice (some ⟨b,0,none⟩) l.length l.length∧l.length≤maxLen∧CQ w b 0 vs∧rvS w F Θ l vs []∧l.length≤F b
 | .ep a,v,bs=>bs=[]∧∃b off u,v=.pointer (some ⟨b,off,none⟩)∧CQ w b off [u]∧rv w F Θ a u []∧off<F b
 | .ms s es,v,bs=>rms w F s es v bs
 | .mb v0 s es,v,bs=>v=v0∧rms w F s es v bs
 | .mp b s i p,v,bs=>bs=[]∧∃off,C8 s p=some off∧v=.pointer (some ⟨b,i*s.w+off,none⟩)
 | .pv v0,v,bs=>bs=[]∧v=v0
 | .mt ks,v,bs=>rmt w F none ks v bs
 | .mn u ks,v,bs=>rmt w F (some u) ks v bs
def rvS (w:World) (F:Nat→Nat) (Θ:Ty):List AV→List Value→List Nat→Prop
 |[],vs,bs=>vs=[]∧bs=[]
 |a::l,vs,bs=>∃v r b1 b2,vs=v::r∧bs=b1++b2∧rv w F Θ a v b1∧rvS w F Θ l r b2
end
theorem rvS.length {w:World} {F:Nat→Nat} {Θ:Ty}:∀(l:List AV) (vs:List Value) (bs:List Nat),rvS w F Θ l vs bs→vs.length=l.length
 |[],vs,bs,h=>by
  simp only[rvS] at h
  rw[h.1];rfl
 |a::l,vs,bs,h=>by
  simp only[rvS] at h
  obtain⟨v,r,b1,b2,rfl, -, -,h4⟩:=h
  simp[rvS.length l r b2 h4]
theorem AV.vws_length:∀l:List AV,(AV.vws l).length=l.length
 |[]=>rfl
 |a::l=>by simp[AV.vws,AV.vws_length l]
theorem AV.ups_length:∀l:List AV,(AV.ups l).length=l.length
 |[]=>rfl
 |a::l=>by simp[AV.ups,AV.ups_length l]
theorem AV.dns_length:∀l:List AV,(AV.dns l).length=l.length
 |[]=>rfl
 |a::l=>by simp[AV.dns,AV.dns_length l]
mutual
theorem rv.keep {w w':World} {F F':Nat→Nat} {Θ Θ':Ty} (hT:∀lv k x,Θ lv k=some x→Θ' lv k=some x):∀(a:AV) (v:Value) (bs:List Nat),rv w F Θ a v bs→Kp w F w' F' bs→rv w' F' Θ' a v bs
 | .un,v,bs,h,_=>by simpa only[rv] using h
 | .d x,v,bs,h,k=>by
  simp only[rv] at h ⊢
  obtain⟨cs,h1,h2⟩:=h
  exact⟨cs,rp.keep x cs bs h1 k,h2⟩
 | .pt lv k p,v,bs,h,_=>by
  simp only[rv] at h ⊢
  obtain⟨h0,b,s,off,h1,h2⟩:=h
  exact⟨h0,b,s,off,hT _ _ _ h1,h2⟩
 | .el x,v,bs,h,k=>by
  simp only[rv] at h ⊢
  obtain⟨h0,b,off,cs,h1,h2,h3,h4⟩:=h
  refine⟨h0,b,off,cs,h1,?_,rp.keep x cs [] h3 (k.sub (by simp)),Nat.le_trans h4 (k.mono b)⟩
  intro j u hu
  have hj:=(List.getElem?_eq_some_iff.1 hu).1
  rw[k.cell b _ (by omega)]
  exact h2 j u hu
 | .rw lv k n,v,bs,h,_=>by
  simp only[rv] at h ⊢
  obtain⟨h0,b,s,h1,h2⟩:=h
  exact⟨h0,b,s,hT _ _ _ h1,h2⟩
 | .tp l,v,bs,h,k=>by
  simp only[rv] at h ⊢
  obtain⟨vs,h1,h2⟩:=h
  exact⟨vs,h1,rvS.keep hT l vs bs h2 k⟩
 | .fn f c,v,bs,h,k=>by
  simp only[rv] at h ⊢
  obtain⟨vs,h1,h2⟩:=h
  exact⟨vs,h1,rvS.keep hT c vs bs h2 k⟩
 | .fr l,v,bs,h,k=>by
  simp only[rv] at h ⊢
  obtain⟨h0,b,vs,h1,h2,h3,h4,h5⟩:=h
  refine⟨h0,b,vs,h1,h2,?_,rvS.keep hT l vs [] h4 (k.sub (by simp)),Nat.le_trans h5 (k.mono b)⟩
  have hl:=rvS.length l vs [] h4
  intro j u hu
  have hj:=(List.getElem?_eq_some_iff.1 hu).1
  rw[k.cell b _ (by omega)]
  exact h3 j u hu
 | .ep a,v,bs,h,k=>by
  simp only[rv] at h ⊢
  obtain⟨h0,b,off,u,h1,h2,h3,h4⟩:=h
  refine⟨h0,b,off,u,h1,?_,rv.keep hT a u [] h3 (k.sub (by simp)),Nat.lt_of_lt_of_le h4 (k.mono b)⟩
  intro j x hx
  have hj:=(List.getElem?_eq_some_iff.1 hx).1
  simp only[List.length_singleton] at hj
  rw[k.cell b _ (by omega)]
  exact h2 j x hx
 | .ms s l,v,bs,h,k=>by
  simp only[rv] at h ⊢
  exact h.keep k
 | .mb b s l,v,bs,h,k=>by
  simp only[rv] at h ⊢
  exact⟨h.1,h.2.keep k⟩
 | .mp _ _ _ _,v,bs,h,_=>by simpa only[rv] using h
 | .pv _,v,bs,h,_=>by simpa only[rv] using h
 | .mt ks,v,bs,h,k=>by
  simp only[rv] at h ⊢
  exact rmt.keep h k
 | .mn u ks,v,bs,h,k=>by
  simp only[rv] at h ⊢
  exact rmt.keep h k
theorem rvS.keep {w w':World} {F F':Nat→Nat} {Θ Θ':Ty} (hT:∀lv k x,Θ lv k=some x→Θ' lv k=some x):∀(l:List AV) (vs:List Value) (bs:List Nat),rvS w F Θ l vs bs→Kp w F w' F' bs→rvS w' F' Θ' l vs bs
 |[],vs,bs,h,_=>by simpa only[rvS] using h
 |a::l,vs,bs,h,k=>by
  simp only[rvS] at h ⊢
  obtain⟨v,r,b1,b2,h1,h2,h3,h4⟩:=h
  subst h2
  exact⟨v,r,b1,b2,h1,rfl,rv.keep hT a v b1 h3 (k.sub (fun x hx=>by simp[hx])),rvS.keep hT l r b2 h4 (k.sub (fun x hx=>by simp[hx]))⟩
end
theorem DD.mk_vw:∀(x:DD) (cs:List Value),x.vw.mk cs=x.mk cs
 | .lf _,_=>by simp only[DD.vw,DD.mk]
 | .sl _ _ _,_=>by simp only[DD.vw,DD.mk]
 | .st _,_=>by simp only[DD.vw,DD.mk]
mutual
theorem rv.view {w:World} {F:Nat→Nat} {Θ:Ty}:∀(a:AV) (v:Value) (bs:List Nat),rv w F Θ a v bs→rv w F Θ a.vw v []
 | .un,v,bs,_=>by simp only[rv,AV.vw]
 | .d x,v,bs,h=>by
  simp only[rv,AV.vw] at h ⊢
  obtain⟨cs,h1,h2⟩:=h
  exact⟨cs,rp.view x cs bs h1,by rw[DD.mk_vw];exact h2⟩
 | .pt lv k p,v,bs,h=>by
  simp only[rv,AV.vw] at h ⊢
  exact⟨trivial,h.2⟩
 | .el x,v,bs,h=>by
  simp only[rv,AV.vw] at h ⊢
  exact⟨trivial,h.2⟩
 | .rw lv k n,v,bs,h=>by
  simp only[rv,AV.vw] at h ⊢
  exact⟨trivial,h.2⟩
 | .tp l,v,bs,h=>by
  simp only[rv,AV.vw] at h ⊢
  obtain⟨vs,h1,h2⟩:=h
  exact⟨vs,h1,rvS.view l vs bs h2⟩
 | .fn f c,v,bs,h=>by
  simp only[rv,AV.vw] at h ⊢
  obtain⟨vs,h1,h2⟩:=h
  exact⟨vs,h1,rvS.view c vs bs h2⟩
 | .fr l,v,bs,h=>by
  simp only[rv,AV.vw,AV.vws_length] at h ⊢
  obtain⟨-,b,vs,h1,h2,h3,h4,h5⟩:=h
  exact⟨trivial,b,vs,h1,h2,h3,rvS.view l vs [] h4,h5⟩
 | .ep a,v,bs,h=>by
  simp only[rv,AV.vw] at h ⊢
  obtain⟨-,b,off,u,h1,h2,h3,h4⟩:=h
  exact⟨trivial,b,off,u,h1,h2,rv.view a u [] h3,h4⟩
 | .ms _ _,v,bs,_=>by simp only[rv,AV.vw]
 | .mb _ _ _,v,bs,h=>by
  simp only[rv,AV.vw] at h ⊢
  exact⟨trivial,h.1⟩
 | .mp _ _ _ _,v,bs,h=>by
  simp only[rv,AV.vw] at h ⊢
  exact⟨trivial,h.2⟩
 | .pv _,v,bs,h=>by
  simp only[rv,AV.vw] at h ⊢
  exact⟨trivial,h.2⟩
 | .mt ks,v,bs,h=>by simp only[rv,AV.vw]
 | .mn u ks,v,bs,h=>by
  simp only[rv,AV.vw] at h ⊢
  exact⟨trivial,h.1 u rfl⟩
theorem rvS.view {w:World} {F:Nat→Nat} {Θ:Ty}:∀(l:List AV) (vs:List Value) (bs:List Nat),rvS w F Θ l vs bs→rvS w F Θ (AV.vws l) vs []
 |[],vs,bs,h=>by
  simp only[rvS,AV.vws] at h ⊢
  exact⟨h.1,trivial⟩
 |a::l,vs,bs,h=>by
  simp only[rvS,AV.vws] at h ⊢
  obtain⟨v,r,b1,b2,h1,h2,h3,h4⟩:=h
  exact⟨v,r,[],[],h1,rfl,rv.view a v b1 h3,rvS.view l r b2 h4⟩
end
def Ty.push (Θ:Ty):Ty
 |0,_=>none
 |lv+1,k=>Θ lv k
def Ty.pop (Θ:Ty):Ty:=fun lv k=>Θ (lv+1) k
mutual
theorem rv.push {w:World} {F:Nat→Nat} {Θ Θ':Ty} (hT:∀lv k,Θ' (lv+1) k=Θ lv k):∀(a:AV) (v:Value) (bs:List Nat),rv w F Θ a v bs→rv w F Θ' a.up v bs
 | .un,v,bs,h=>by simpa only[rv,AV.up] using h
 | .d x,v,bs,h=>by simpa only[rv,AV.up] using h
 | .pt lv k p,v,bs,h=>by simpa only[rv,AV.up,hT] using h
 | .el x,v,bs,h=>by simpa only[rv,AV.up] using h
 | .rw lv k n,v,bs,h=>by simpa only[rv,AV.up,hT] using h
 | .tp l,v,bs,h=>by
  simp only[rv,AV.up] at h ⊢
  obtain⟨vs,h1,h2⟩:=h
  exact⟨vs,h1,rvS.push hT l vs bs h2⟩
 | .fn f c,v,bs,h=>by
  simp only[rv,AV.up] at h ⊢
  obtain⟨vs,h1,h2⟩:=h
  exact⟨vs,h1,rvS.push hT c vs bs h2⟩
 | .fr l,v,bs,h=>by
  simp only[rv,AV.up,AV.ups_length] at h ⊢
  obtain⟨h0,b,vs,h1,h2,h3,h4,h5⟩:=h
  exact⟨h0,b,vs,h1,h2,h3,rvS.push hT l vs [] h4,h5⟩
 | .ep a,v,bs,h=>by
  simp only[rv,AV.up] at h ⊢
  obtain⟨h0,b,off,u,h1,h2,h3,h4⟩:=h
  exact⟨h0,b,off,u,h1,h2,rv.push hT a u [] h3,h4⟩
 | .ms s l,v,bs,h=>by simpa only[rv,AV.up] using h
 | .mb b s l,v,bs,h=>by simpa only[rv,AV.up] using h
 | .mp _ _ _ _,v,bs,h=>by simpa only[rv,AV.up] using h
 | .pv _,v,bs,h=>by simpa only[rv,AV.up] using h
 | .mt ks,v,bs,h=>by simpa only[rv,AV.up] using h
 | .mn u ks,v,bs,h=>by simpa only[rv,AV.up] using h
theorem rvS.push {w:World} {F:Nat→Nat} {Θ Θ':Ty} (hT:∀lv k,Θ' (lv+1) k=Θ lv k):∀(l:List AV) (vs:List Value) (bs:List Nat),rvS w F Θ l vs bs→rvS w F Θ' (AV.ups l) vs bs
 |[],vs,bs,h=>by simpa only[rvS,AV.ups] using h
 |a::l,vs,bs,h=>by
  simp only[rvS,AV.ups] at h ⊢
  obtain⟨v,r,b1,b2,h1,h2,h3,h4⟩:=h
  exact⟨v,r,b1,b2,h1,h2,rv.push hT a v b1 h3,rvS.push hT l r b2 h4⟩
end
mutual
theorem rv.pop {w:World} {F:Nat→Nat} {Θ Θ':Ty} (hT:∀lv k,Θ' (lv+1) k=Θ lv k):∀(a:AV) (v:Value) (bs:List Nat),a.nz→rv w F Θ' a v bs→rv w F Θ a.dn v bs
 | .un,v,bs,_,h=>by simpa only[rv,AV.dn] using h
 | .d x,v,bs,_,h=>by simpa only[rv,AV.dn] using h
 | .pt (lv+1) k p,v,bs,_,h=>by simpa only[rv,AV.dn,hT,Nat.add_sub_cancel] using h
 | .pt 0 k p,v,bs,n,h=>by simp only[AV.nz] at n;omega
 | .el x,v,bs,_,h=>by simpa only[rv,AV.dn] using h
 | .rw (lv+1) k n,v,bs,_,h=>by simpa only[rv,AV.dn,hT,Nat.add_sub_cancel] using h
 | .rw 0 k _,v,bs,n,h=>by simp only[AV.nz] at n;omega
 | .tp l,v,bs,n,h=>by
  simp only[rv,AV.dn,AV.nz] at h n ⊢
  obtain⟨vs,h1,h2⟩:=h
  exact⟨vs,h1,rvS.pop hT l vs bs n h2⟩
 | .fn f c,v,bs,n,h=>by
  simp only[rv,AV.dn,AV.nz] at h n ⊢
  obtain⟨vs,h1,h2⟩:=h
  exact⟨vs,h1,rvS.pop hT c vs bs n h2⟩
 | .fr l,v,bs,n,h=>by
  simp only[rv,AV.dn,AV.nz,AV.dns_length] at h n ⊢
  obtain⟨h0,b,vs,h1,h2,h3,h4,h5⟩:=h
  exact⟨h0,b,vs,h1,h2,h3,rvS.pop hT l vs [] n h4,h5⟩
 | .ep a,v,bs,n,h=>by
  simp only[rv,AV.dn,AV.nz] at h n ⊢
  obtain⟨h0,b,off,u,h1,h2,h3,h4⟩:=h
  exact⟨h0,b,off,u,h1,h2,rv.pop hT a u [] n h3,h4⟩
 | .ms s l,v,bs,_,h=>by simpa only[rv,AV.dn] using h
 | .mb b s l,v,bs,_,h=>by simpa only[rv,AV.dn] using h
 | .mp _ _ _ _,v,bs,_,h=>by simpa only[rv,AV.dn] using h
 | .pv _,v,bs,_,h=>by simpa only[rv,AV.dn] using h
 | .mt ks,v,bs,_,h=>by simpa only[rv,AV.dn] using h
 | .mn u ks,v,bs,_,h=>by simpa only[rv,AV.dn] using h
theorem rvS.pop {w:World} {F:Nat→Nat} {Θ Θ':Ty} (hT:∀lv k,Θ' (lv+1) k=Θ lv k):∀(l:List AV) (vs:List Value) (bs:List Nat),AV.nzs l→rvS w F Θ' l vs bs→rvS w F Θ (AV.dns l) vs bs
 |[],vs,bs,_,h=>by simpa only[rvS,AV.dns] using h
 |a::l,vs,bs,n,h=>by
  simp only[rvS,AV.dns,AV.nzs] at h n ⊢
  obtain⟨v,r,b1,b2,h1,h2,h3,h4⟩:=h
  exact⟨v,r,b1,b2,h1,h2,rv.pop hT a v b1 n.1 h3,rvS.pop hT l r b2 n.2 h4⟩
end
theorem rpS.focus {w:World} {F:Nat→Nat}:∀(l:List DD) (cs:List Value) (bs:List Nat),rpS w F l cs bs→∀(i:Nat) (e:DD),l[i]? =some e→
  ∃c1 ce c2 b1 be b2,cs=c1++(ce++c2)∧bs=b1++(be++b2)∧c1.length=Sh.ws ((DD.shs l).take i)∧rp w F e ce be∧
   ∀x cx bx,rp w F x cx bx→rpS w F (l.set i x) (c1++(cx++c2)) (b1++(bx++b2))
 |[],_,_,_,i,e,he=>by simp at he
 |d::l,cs,bs,h,0,e,he=>by
  simp only[List.getElem?_cons_zero,Option.some.injEq] at he
  subst he
  simp only[rpS] at h
  obtain⟨c1,c2,b1,b2,rfl,rfl,h3,h4⟩:=h
  refine⟨[],c1,c2,[],b1,b2,rfl,rfl,rfl,h3,fun x cx bx hx=> ?_⟩
  simp only[List.set_cons_zero,rpS,List.nil_append]
  exact⟨cx,c2,bx,b2,rfl,rfl,hx,h4⟩
 |d::l,cs,bs,h,i+1,e,he=>by
  simp only[List.getElem?_cons_succ] at he
  simp only[rpS] at h
  obtain⟨c1,c2,b1,b2,rfl,rfl,h3,h4⟩:=h
  obtain⟨d1,de,d2,q1,qe,q2,rfl,rfl,g1,g2,g3⟩:=rpS.focus l c2 b2 h4 i e he
  refine⟨c1++d1,de,d2,b1++q1,qe,q2,by simp,by simp,?_,g2,fun x cx bx hx=> ?_⟩
  ·simp only[DD.shs,List.take_succ_cons,Sh.ws,List.length_append,g1,rp.length d c1 b1 h3]
  ·simp only[List.set_cons_succ,rpS]
   exact⟨c1,d1++(cx++d2),b1,q1++(bx++q2),by simp,by simp,h3,g3 x cx bx hx⟩
theorem QG {l:List DD} {i:Nat} {s:Sh} (h:(DD.shs l)[i]? =some s):∃e,l[i]? =some e∧e.sh=s:=by
 rw[DD.shs_eq,List.getElem?_map] at h
 cases hq:l[i]? with
 |none=>rw[hq] at h;cases h
 |some e=>rw[hq] at h;simp only[Option.map_some,Option.some.injEq] at h;exact⟨e,rfl,h⟩
theorem QE {l:List DD} {i:Nat} {e x:DD} (h:l[i]? =some e) (hx:x.sh=e.sh):DD.shs (l.set i x)=DD.shs l:=by
 rw[DD.shs_eq,DD.shs_eq,List.map_set,hx]
 refine List.ext_getElem? fun j=> ?_
 by_cases hj:i=j
 ·subst hj
  have:=(List.getElem?_eq_some_iff.1 h).1
  rw[List.getElem?_set_self (by simpa using this),List.getElem?_map,h];rfl
 ·rw[List.getElem?_set_ne hj]
theorem rp.focus {w:World} {F:Nat→Nat}:∀(p:List Nat) (d:DD) (cs:List Value) (bs:List Nat),rp w F d cs bs→∀off,C8 d.sh p=some off→
  ∃c1 ce c2 b1 be b2,cs=c1++(ce++c2)∧bs=b1++(be++b2)∧c1.length=off∧rp w F (D9 d p) ce be∧
   ∀x cx bx,x.sh=(D9 d p).sh→rp w F x cx bx→rp w F (Df d p x) (c1++(cx++c2)) (b1++(bx++b2))∧(Df d p x).sh=d.sh
 |[],d,cs,bs,h,off,ho=>by
  simp only[C8,Option.some.injEq] at ho
  subst ho
  exact⟨[],cs,[],[],bs,[],by simp,by simp,rfl,by simpa only[D9] using h,fun x cx bx hs hx=>⟨by simpa only[Df,List.nil_append,List.append_nil] using hx,by simpa only[Df,D9] using hs⟩⟩
 |i::p,.lf _,cs,bs,h,off,ho=>by simp[DD.sh,C8] at ho
 |i::p,.sl _ _ _,cs,bs,h,off,ho=>by simp[DD.sh,C8] at ho
 |i::p,.st l,cs,bs,h,off,ho=>by
  simp only[DD.sh,C8] at ho
  cases hq:(DD.shs l)[i]? with
  |none=>rw[hq] at ho;cases ho
  |some s=>
   rw[hq] at ho
   obtain⟨e,he,hes⟩:=QG hq
   simp only[rp] at h
   obtain⟨c1,ce,c2,b1,be,b2,rfl,rfl,g1,g2,g3⟩:=rpS.focus l cs bs h i e he
   subst hes
   cases hq2:C8 e.sh p with
   |none=>simp[hq2] at ho
   |some o2=>
    simp only[hq2,Option.map_some,Option.some.injEq] at ho
    obtain⟨d1,de,d2,q1,qe,q2,rfl,rfl,k1,k2,k3⟩:=rp.focus p e ce be g2 o2 hq2
    have hg:l.getD i default=e:=by rw[List.getD_eq_getElem?_getD,he];rfl
    refine⟨c1++d1,de,d2++c2,b1++q1,qe,q2++b2,by simp,by simp,by simp[g1,k1,ho],by simpa only[D9,hg] using k2,fun x cx bx hs hx=> ?_⟩
    simp only[D9,hg] at hs
    obtain⟨m1,m2⟩:=k3 x cx bx hs hx
    have:=g3 _ _ _ m1
    refine⟨?_,?_⟩
    ·simp only[Df,hg,rp]
     simpa using this
    ·simp only[Df,hg,DD.sh,QE he m2]
def glb:List (Nat×Nat×Option Value):=((List.range 20).map fun i=>(1,i,some (.int .u64 ((10 ^ i:Nat):Int))))++[(1,20,none)]
@[simp] abbrev dI' (n:Int):AV:=.d (.lf (.int .i64 n))
@[simp] abbrev dB' (b:Bool):AV:=.d (.lf (.bool b))
@[simp] abbrev dS' (s:ByteArray):AV:=.d (.lf (.string s))
