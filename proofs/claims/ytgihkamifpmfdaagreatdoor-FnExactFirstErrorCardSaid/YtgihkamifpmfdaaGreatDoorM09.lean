/- Part 09. No condition. -/
import Derived.Test.YtgihkamifpmfdaaGreatDoorM08
namespace Go.Proofs.YtgihkamifpmfdaaGreatDoor
open Go.RowKit
set_option linter.unusedVariables false
set_option linter.unusedSimpArgs false
instance:Inhabited Fsk:=⟨⟨default,[],.un,.val⟩⟩
structure i8 (ops:Array Oper) (listed:Array Bool) (L:List Nat):Prop where
 size:listed.size=ops.size
 lt:∀i∈L,i<ops.size
 mem:∀i,i<ops.size→(listed.getD i true=false↔i∈L)
 srt:L.Pairwise (· < ·)
 cl:∀i,i<ops.size→i∉L→∀o,ops[i]? =some o→∀e∈o.after,Region.binds .any e=true→e.on∉L
theorem Wi {ops:Array Oper} {listed:Array Bool} {L:List Nat} (I:i8 ops listed L) (hb:∀i o,ops[i]? =some o→∀e∈o.after,Region.binds .any e=true→e.on<i):∀(n a x:Nat),a<ops.size→a∉L→MO ops n a x=true→x∉L
 |0,_,_,_,_,h=>by simp[MO] at h
 |n+1,a,x,ha,hL,h=>by
  simp only[MO] at h
  cases ho:ops[a]? with
  |none=>rw[ho] at h;cases h
  |some o=>
   rw[ho] at h
   simp only[List.any_eq_true,Bool.and_eq_true,Bool.or_eq_true,beq_iff_eq,Array.mem_toList_iff] at h
   obtain⟨e,he,hbd,h⟩:=h
   have hon:=I.cl a ha hL o ho e he hbd
   rcases h with rfl|h
   ·exact hon
   ·exact Wi I hb n e.on x (by have:=hb a o ho e he hbd;omega) hon h
theorem aS {c:Cx} {ops:Array Oper} {fs:List Fsk} {Sf:St} (hF:∀i o,ops[i]? =some o→(fs.getD i default).o=o) (hb:∀i o,ops[i]? =some o→∀e∈o.after,Region.binds .any e=true→e.on<i)
  (hd:∀j,j<ops.size→∀i,i<j→MO ops ops.size j i=true∨Ind ops (fs.getD i default) (fs.getD j default)) {Q:Exit→Act→World→Prop}
  {w0:World} {F0:Nat→Nat} {Θ0:Ty} {own0:Who→List Nat} (hQ:∀a w F Θ own,Rel w F Θ own Sf a→Stp w0 F0 Θ0 own0 w F Θ own→Q .normal a w):
  ∀(n:Nat) (L:List Nat) (listed:Array Bool) (S:St) (a:Act) (w:World) (F:Nat→Nat) (Θ:Ty) (own:Who→List Nat),L.length=n→i8 ops listed L→Pth c ops (L.map fun i=>fs.getD i default) S Sf→Rel w F Θ own S a→Stp w0 F0 Θ0 own0 w F Θ own→
   wpAny c.P .any ops Q n listed a w:=by
 intro n
 induction n with
 |zero=>
  intro L listed S a w F Θ own hL I hP hR hS
  obtain rfl:=List.length_eq_zero_iff.1 hL
  have e:S=Sf:=hP
  subst e
  refine⟨?_,hQ a w F Θ own hR hS⟩
  refine List.eq_nil_iff_forall_not_mem.2 fun j hj=> ?_
  obtain⟨h1,o,ho, -⟩:=mem_ready.1 hj
  have:=(I.mem j (Array.getElem?_eq_some_iff.1 ho).1).1 h1
  simp at this
 |succ n ih=>
  intro L listed S a w F Θ own hL I hP hR hS
  have rdy:∀j,j∈Region.ready .any ops listed↔j∈L∧∃o,ops[j]? =some o∧∀e∈o.after,Region.binds .any e=true→e.on∉L:=by
   intro j
   rw[mem_ready]
   constructor
   ·rintro ⟨h1,o,ho,h2⟩
    have hj:=(Array.getElem?_eq_some_iff.1 ho).1
    refine⟨(I.mem j hj).1 h1,o,ho,fun e he hbd hm=> ?_⟩
    have h3:=h2 e he hbd
    have hon:e.on<ops.size:=I.lt _ hm
    have h4:=(I.mem e.on hon).2 hm
    have h5:e.on<listed.size:=by rw[I.size];exact hon
    simp[Array.getD_eq_getD_getElem?,h5] at h3 h4
    rw[h3] at h4;cases h4
   ·rintro ⟨h1,o,ho,h2⟩
    have hj:=(Array.getElem?_eq_some_iff.1 ho).1
    refine⟨(I.mem j hj).2 h1,o,ho,fun e he hbd=> ?_⟩
    have hon:e.on<ops.size:=by have:=hb j o ho e he hbd;omega
    have h4:¬listed.getD e.on true=false:=fun q=>h2 e he hbd ((I.mem e.on hon).1 q)
    have h5:e.on<listed.size:=by rw[I.size];exact hon
    simp[Array.getD_eq_getD_getElem?,h5] at h4 ⊢
    exact h4
  refine⟨fun h0=> ?_,fun i hi=> ?_⟩
  ·exfalso
   cases L with
   |nil=>simp at hL
   |cons x l=>
    have hx:=I.lt x (by simp)
    have : x ∈ Region.ready .any ops listed := (rdy x).2 ⟨by simp, ops[x], by simp [hx], fun e he hbd hm => by
     have h1:=hb x ops[x] (by simp[hx]) e he hbd
     rcases List.mem_cons.1 hm with h2|h2
     ·omega
     ·have:=(List.pairwise_cons.1 I.srt).1 _ h2;omega⟩
    rw[h0] at this;simp at this
  ·obtain⟨him,o,ho,hall⟩:=(rdy i).1 hi
   have hilt:=I.lt i him
   obtain⟨xs,l,rfl⟩:=List.append_of_mem him
   have hsrt:=List.pairwise_append.1 I.srt
   have hsrt2:=List.pairwise_cons.1 hsrt.2.1
   have hxi:∀x∈xs,x<i:=fun x hx=>hsrt.2.2 x hx i (by simp)
   have hnd:i∉xs++l:=by
    intro h
    rcases List.mem_append.1 h with h|h
    ·have:=hxi i h;omega
    ·have:=hsrt2.1 i h;omega
   rw[List.map_append,List.map_cons] at hP
   have hInd:∀z∈xs.map (fun i=>fs.getD i default),Ind ops z (fs.getD i default):=by
    intro z hz
    obtain⟨x,hx,rfl⟩:=List.mem_map.1 hz
    rcases hd i hilt x (hxi x hx) with h|h
    ·exfalso
     -- i waits for x:it is not ready
     have:x∉xs++i::l:=by
      cases hs:ops.size with
      |zero=>omega
      |succ m=>
       rw[hs] at h
       simp only[MO,ho] at h
       simp only[List.any_eq_true,Bool.and_eq_true,Bool.or_eq_true,beq_iff_eq,Array.mem_toList_iff] at h
       obtain⟨e,he,hbd,h⟩:=h
       have hon:=hall e he hbd
       rcases h with rfl|h
       ·exact hon
       ·exact Wi I hb m e.on x (by have:=hb i o ho e he hbd;omega) hon h
     exact this (by simp[hx])
    ·exact h
   obtain⟨⟨hv, -⟩,hP'⟩:=Pth.front _ _ _ hP hInd
   have hos:=hv S Fsk.agr.refl
   rw[hF i o ho] at hos
   have hI':i8 ops (listed.setIfInBounds i true) (xs++l):=by
    refine⟨by simpa using I.size,fun j hj=>I.lt j (by simp only[List.mem_append,List.mem_cons] at hj ⊢;rcases hj with h|h<;>simp[h]),fun j hj=> ?_,?_,fun j hj hnj o' ho' e he hbd hm=> ?_⟩
    ·by_cases hji:j=i
     ·subst hji
      have:j<listed.size:=by rw[I.size];exact hj
      simp[Array.getD_eq_getD_getElem?,this,hnd] at hnd ⊢
      first|done|exact hnd
     ·have h1:(listed.setIfInBounds i true).getD j true=listed.getD j true:=by
       simp[Array.getD_eq_getD_getElem?,Ne.symm hji]
      rw[h1,I.mem j hj]
      simp[hji]
    ·exact List.pairwise_append.2 ⟨hsrt.1,hsrt2.2,fun x hx y hy=>hsrt.2.2 x hx y (by simp[hy])⟩
    ·have hm':e.on∈xs++i::l:=by simp only[List.mem_append,List.mem_cons] at hm ⊢;rcases hm with h|h<;>simp[h]
     by_cases hji:j=i
     ·subst hji
      rw[ho] at ho'
      cases ho'
      exact hall e he hbd hm'
     ·exact I.cl j hj (by simp only[List.mem_append,List.mem_cons] at hnj ⊢;rintro (h|h|h);exact hnj (.inl h);exact hji h;exact hnj (.inr h)) o' ho' e he hbd hm'
   unfold wpOp
   rw[ho]
   have:=hos w F Θ own a hR (wpAny c.P .any ops Q n (listed.setIfInBounds i true)) Q (fun a' w' F' Θ' own' h1 h2=>ih (xs++l) _ _ a' w' F' Θ' own' (by simp at hL ⊢;omega) hI' (by rw[List.map_append];exact hP') h1 (hS.trans h2))
   simp only
   split
   ·rename_i hw;rw[if_pos hw] at this;exact .inl this
   ·rename_i hw;rw[if_neg hw] at this;exact this
theorem Rel.drew {w:World} {F:Nat→Nat} {Θ:Ty} {own:Who→List Nat} {S:St} {a:Act} (h:Rel w F Θ own S a):Rel w.drew F Θ own S a:=by
 have hT:∀lv q (x:Nat×Sh),Θ lv q=some x→Θ lv q=some x:=fun _ _ _ q=>q
 have kp:∀bs,Kp w F w.drew F bs:=fun _=>⟨fun _ _ _=>rfl,fun _=>Nat.le_refl _,fun _ _=>⟨rfl,rfl⟩⟩
 exact ⟨h.n, h.df, fun t => rv.keep hT _ _ _ (h.tm t) (kp _), h.hn, fun lv q cn hq => by
  obtain⟨b,s,cur,t,h1,h2,h3,h4,h5,h6⟩:=h.hs lv q cn hq
  exact⟨b,s,cur,t,h1,h2,h3,h4,h5,rc.keep hT _ _ _ h6 (kp _)⟩,h.nd,h.dj,h.lt,h.top,h.gl⟩
theorem Stp.of_drew {w w':World} {F F':Nat→Nat} {Θ Θ':Ty} {own own':Who→List Nat} (h:Stp w.drew F Θ own w' F' Θ' own'):Stp w F Θ own w' F' Θ' own':=
 ⟨⟨h.ks.os,h.ks.tape,h.ks.output,h.ks.size,h.ks.cell,h.ks.mono,h.ks.out⟩,h.fr,h.ty⟩
theorem W.draw {c:Cx} {id:Nat} {ops:Array Oper} {S Sf:St} {Q:Exit→St→Prop} (fs:List Fsk) (hP:Pth c ops fs S Sf) (hm:c.P.follows .mixedOrders=true) (ho:fs.map Fsk.o=ops.toList) (hc:Re ops fs=true) (h:Q .normal Sf):W c (.region id ops true) S Q:=by
 intro w F Θ own a hR
 refine wp_region_any hm ?_
 simp only[Re,Bool.and_eq_true,beq_iff_eq,List.all_eq_true,List.mem_range] at hc
 obtain⟨⟨h1,h2⟩,h3⟩:=hc
 have hlen:=h1
 have hF:∀i o,ops[i]? =some o→(fs.getD i default).o=o:=by
  intro i o hi
  have hi2:(fs.map Fsk.o)[i]? =some o:=by rw[ho];simpa using hi
  rw[List.getElem?_map] at hi2
  cases hq:fs[i]? with
  |none=>rw[hq] at hi2;cases hi2
  |some f=>
   rw[hq] at hi2
   simp only[Option.map_some,Option.some.injEq] at hi2
   rw[List.getD_eq_getElem?_getD,hq];exact hi2
 have hb:∀i o,ops[i]? =some o→∀e∈o.after,Region.binds .any e=true→e.on<i:=by
  intro i o hi e he hbd
  have:=h2 i (Array.getElem?_eq_some_iff.1 hi).1
  rw[hi] at this
  simp only[List.all_eq_true,Array.mem_toList_iff] at this
  have:=this e he
  simpa[hbd] using this
 have hd:∀j,j<ops.size→∀i,i<j→MO ops ops.size j i=true∨Ind ops (fs.getD i default) (fs.getD j default):=by
  intro j hj i hi
  have:=h3 j hj i hi
  rw[Bool.or_eq_true] at this
  rcases this with q|q
  ·exact .inl q
  ·right
   have e1:fs[i]? =some (fs.getD i default):=by rw[List.getD_eq_getElem?_getD,List.getElem?_eq_getElem (by omega)];rfl
   have e2:fs[j]? =some (fs.getD j default):=by rw[List.getD_eq_getElem?_getD,List.getElem?_eq_getElem (by omega)];rfl
   rw[e1,e2] at q
   exact Vl q
 refine aS (c:=c) (fs:=fs) (Sf:=Sf) hF hb hd (w0:=w) (F0:=F) (Θ0:=Θ) (own0:=own) (fun a' w' F' Θ' own' g1 g2=>⟨Sf,F',Θ',own',h,g1,g2⟩) ops.size (List.range ops.size) _ S a _ F Θ own (by simp) ⟨by simp,fun i hi=>by simpa using hi,fun i hi=>by simp[Array.getD_eq_getD_getElem?,hi],List.pairwise_lt_range,fun i hi hn=>absurd (List.mem_range.2 hi) hn⟩ ?_ hR.drew (Stp.of_drew (Stp.refl _ _ _ _))
 have:((List.range ops.size).map fun i=>fs.getD i default)=fs:=by
  rw[←hlen]
  refine List.ext_getElem (by simp) fun i h1 h2=> ?_
  simp[List.getD_eq_getElem?_getD,List.getElem?_eq_getElem h2]
 rw[this]
 exact hP
def B5 (c:Cx) (mv:List Nat) (o:Oper) (S:St):Fsk:=match o.op with
 | .alloc T=>match o.dst,c.ty T with
  |some k,some ti=>⟨o,[],.pt 0 k [],.al k (.d ti.z)⟩
  |_,_=>⟨o,[],.un,.val⟩
 | .box T x=>match o.dst with
  |some k=>⟨o,tmO x,.pt 0 k [],.al k (tkT c T S x)⟩
  |none=>⟨o,[],.un,.val⟩
 | .load _ x=>match evT c 0 S x with
  | .pt lv k p=>match hpg S.hp lv k with
   |some cn=>bif mvB mv o.dst then ⟨o,[],rdA cn p,.st lv k (wrA cn p (rdA cn p).vw)⟩ else ⟨o,[],(rdA cn p).vw,.ld lv k⟩
   |none=>⟨o,[],.un,.val⟩
  | .el y=>⟨o,[],.d y,.val⟩
  |_=>⟨o,[],.un,.val⟩
 | .store T x v=>match evT c 0 S x with
  | .pt lv k p=>match hpg S.hp lv k with
   |some cn=>⟨o,tmO v,.un,.st lv k (wrA cn p (tkT c T S v))⟩
   |none=>⟨o,[],.un,.val⟩
  |_=>⟨o,[],.un,.val⟩
 | .buildSlice T n ps=>match c.ty T with
  |some { kd:=.sl e s,.. }=>match c.ty e with
   |some te=>⟨o,cls mv o,.d (.sl true s (Ds (List.replicate n te.z) (ps.toList.map fun p=>(p.1,tkT c e S p.2)))),.val⟩
   |none=>⟨o,[],.un,.val⟩
  |_=>⟨o,[],.un,.val⟩
 | .call { callee:=.builtin .append,args,argTypes }=>match args.toList.map (tkT c (argTypes.getD 0 0) S) with
  |[.d (.sl _ _ es),.d (.sl _ _ ys)]=>⟨o,cls mv o,.d (.sl true (c.el (argTypes.getD 0 0)) (es++ys)),.val⟩
  |_=>⟨o,[],.un,.val⟩
 | .makeSlice T l _=>match o.dst,c.ty T,evT c 0 S l with
  |some k,some { kd:=.sl e _,.. },.d (.lf (.int _ n))=>match c.ty e with
   |some te=>⟨o,[],.rw 0 k n.toNat,.al k (.d (.st (List.replicate n.toNat te.z)))⟩
   |none=>⟨o,[],.un,.val⟩
  |_,_,_=>⟨o,[],.un,.val⟩
 | .fieldAddr _ x _=>match evT c 0 S x with
  | .pt lv k _=>⟨o,[],val c mv o S,.ld lv k⟩
  |_=>⟨o,[],val c mv o S,.val⟩
 | .indexAddr T x _=>match evT c T S x with
  | .rw lv k _=>⟨o,[],val c mv o S,.ld lv k⟩
  |_=>⟨o,[],val c mv o S,.val⟩
 |_=>⟨o,cls mv o,val c mv o S,.val⟩
theorem aD (c:Cx) (mv:List Nat) (o:Oper) (S:St):(B5 c mv o S).o=o:=by
 unfold B5
 split<;>first
  |rfl
  |(split<;>first|rfl|(split<;>first|rfl|(split<;>rfl)|(cases mvB mv o.dst<;>rfl))|(cases mvB mv o.dst<;>rfl))
theorem VP {c:Cx} {mv:List Nat} {o:Oper} {S:St} (h:okP c mv o S):nx c mv o S=(B5 c mv o S).ap S:=by
 obtain⟨hd,hn,h⟩:=h
 unfold nx B5
 split at h
 case h_1 x ho=>simp only[ho];rfl
 case h_2 x ho=>simp only[ho];rfl
 case h_3 x ho=>simp only[ho];rfl
 case h_4 g x y ho=>simp only[ho];rfl
 case h_5 T x i ho=>
  have hc:cls mv o=[]:=by unfold cls;rw[ho]
  simp only[ho]
  split<;>(unfold nxP;rw[hc];rfl)
 case h_6 T x i ho=>simp only[ho];rfl
 case h_7 T x i ho=>
  have hc:cls mv o=[]:=by unfold cls;rw[ho]
  simp only[ho]
  split<;>(unfold nxP;rw[hc];rfl)
 case h_8 T x i ho=>simp only[ho];rfl
 case h_9 x i ho=>simp only[ho];rfl
 case h_10 op T x y yT ho=>simp only[ho];rfl
 case h_11 T x ho=>simp only[ho];rfl
 case h_12 Ts T x ho=>simp only[ho];rfl
 case h_13 T x lo hi ho=>simp only[ho];rfl
 case h_14 f first cap ho=>simp only[ho];rfl
 case h_15 T ps ho=>simp only[ho];rfl
 case h_16 args ts ho=>simp only[ho];rfl
 case h_17 args ts ho=>simp only[ho];rfl
 case h_18 args ts ho=>simp only[ho];rfl
 case h_19 args ts ho=>
  obtain⟨x,y,T,rfl,rfl,h1,h2,h3⟩:=h
  simp only[ho,List.map_cons,List.map_nil]
  have hT0:(#[T,T]:Array TypeId).getD 0 0=T:=rfl
  simp only[hT0]
  split at h3
  ·split at h3
   ·obtain⟨h4,h5⟩:=h3
    split at h5
    ·rename_i e1 e2
     simp only[e1,e2]
     rfl
    ·exact h5.elim
   ·exact h3.elim
  ·exact h3.elim
 case h_20 T ho=>
  obtain⟨⟨ti,h1⟩,h2,k,h3,h4⟩:=h
  simp only[ho,h3,h1]
  show _=(⟨_,B1 _ o.dst _,_⟩:St)
  rw[h3]
  rfl
 case h_21 T x ho=>
  obtain⟨h1,h2,⟨s,h3⟩,k,h4,h5⟩:=h
  simp only[ho,h4]
  show _=(⟨_,B1 _ o.dst _,_⟩:St)
  rw[h4]
  rfl
 case h_22 T x ho=>
  obtain⟨h1,h2⟩:=h
  simp only[ho]
  split at h2
  ·rename_i e1
   simp only[e1];rfl
  ·rename_i e1
   simp only[e1]
   split at h2
   ·rename_i e2
    simp only[e2]
    cases mvB mv o.dst<;>rfl
   ·exact h2.elim
  ·exact h2.elim
 case h_23 T x y ho=>
  obtain⟨h1,h2,h3⟩:=h
  simp only[ho]
  split at h3
  ·rename_i e1
   simp only[e1]
   split at h3
   ·rename_i e2
    simp only[e2];rfl
   ·exact h3.elim
  ·exact h3.elim
 case h_24 T n ps ho=>
  simp only[ho]
  split at h
  ·rename_i e1
   simp only[e1]
   split at h
   ·rename_i e2
    simp only[e2];rfl
   ·exact h.elim
  ·exact h.elim
 case h_25 T x y ho=>
  obtain⟨rfl,h1,h2,⟨k,h3,h4⟩,h5⟩:=h
  simp only[ho,h3]
  split at h5
  ·rename_i e1 e2
   simp only[e1,e2]
   split at h5
   ·rename_i e3
    simp only[e3]
    show _=(⟨_,B1 _ o.dst _,_⟩:St)
    rw[h3]
    rfl
   ·exact h5.elim
  ·exact h5.elim
 case h_26=>exact h.elim
theorem I0 {c:Cx} {S S1:St} {x:Operand} (h:∀t,x=.tmp t→(S1.tm t).vw=(S.tm t).vw) (T:Nat):evT c T S1 x=evT c T S x:=by
 cases x with
 |tmp t=>exact h t rfl
 |_=>rfl
theorem FV {c:Cx} {S S1:St} {x:Operand} (h:∀t,x=.tmp t→S1.tm t=S.tm t) (T:Nat):tkT c T S1 x=tkT c T S x:=by
 cases x with
 |tmp t=>exact h t rfl
 |_=>rfl
theorem DK {ops:Array Oper} {o:Oper} {t:Nat} (h: .tmp t∈o.op.operands.toList):t∈o.looksAt ops:=by
 unfold Oper.looksAt
 refine List.mem_append_left _ (List.mem_filterMap.2 ⟨_,h,rfl⟩)
theorem EK {t:Nat}:t∈tmO (.tmp t):=by simp[tmO]
theorem fu {c:Cx} {mv:List Nat} {o:Oper} {S S1:St} {ops:Array Oper} (h:okP c mv o S) (k:(B5 c mv o S).agr ops S S1):okP c mv o S1∧B5 c mv o S1=B5 c mv o S:=by
 obtain⟨hd,hn,h⟩:=h
 obtain⟨kn,kr,kt,kh⟩:=k
 rw[aD] at kr
 have ev:∀x T,x∈o.op.operands.toList→evT c T S1 x=evT c T S x:=fun x T hx=>I0 (fun t e=>kr t (DK (e ▸ hx))) T
 unfold okP
 have hd1:∀k,o.dst=some k→k<S1.n:=fun q hq=>by rw[kn];exact hd q hq
 rw[and_assoc,and_assoc]
 refine⟨hd1,hn,?_⟩
 split at h
 case h_1 x ho=>
  have e_x:∀T,evT c T S1 x=evT c T S x:=fun T=>ev x T (by rw[ho];simp[Op.operands])
  have t_x:mvB mv o.dst=true→∀T,tkT c T S1 x=tkT c T S x:=fun hm T=>FV (fun t e=>kt t (by unfold B5;simp only[ho];unfold cls;simp only[ho,hm,cond_true,e];exact EK)) T
  have hv:val c mv o S1=val c mv o S:=by
   unfold val
   simp only[ho]
   cases hm:mvB mv o.dst with
   |true=>simp only[cond_true,t_x hm]
   |false=>simp only[cond_false,e_x]
  exact⟨h,by unfold B5;simp only[ho,hv]⟩
 case h_2 x ho=>
  have e_x:∀T,evT c T S1 x=evT c T S x:=fun T=>ev x T (by rw[ho];simp[Op.operands])
  have t_x:∀T,tkT c T S1 x=tkT c T S x:=fun T=>FV (fun t e=>kt t (by unfold B5;simp only[ho];unfold cls;simp only[ho,e];exact EK)) T
  have hv:val c mv o S1=val c mv o S:=by unfold val;simp only[ho,t_x]
  exact⟨h,by unfold B5;simp only[ho,hv]⟩
 case h_3 x ho=>
  have e_x:∀T,evT c T S1 x=evT c T S x:=fun T=>ev x T (by rw[ho];simp[Op.operands])
  have hv:val c mv o S1=val c mv o S:=by unfold val;simp only[ho,e_x]
  exact⟨by simp only[e_x];exact h,by unfold B5;simp only[ho,hv]⟩
 case h_4 g x y ho=>
  have e_g:∀T,evT c T S1 g=evT c T S g:=fun T=>ev g T (by rw[ho];simp[Op.operands])
  have e_x:∀T,evT c T S1 x=evT c T S x:=fun T=>ev x T (by rw[ho];simp[Op.operands])
  have e_y:∀T,evT c T S1 y=evT c T S y:=fun T=>ev y T (by rw[ho];simp[Op.operands])
  have hv:val c mv o S1=val c mv o S:=by unfold val;simp only[ho,e_g,e_x,e_y]
  exact⟨by simp only[e_g,e_x,e_y,hv];exact h,by unfold B5;simp only[ho,hv]⟩
 case h_5 T x i ho=>
  have e_x:∀T,evT c T S1 x=evT c T S x:=fun T=>ev x T (by rw[ho];simp[Op.operands])
  have hv:val c mv o S1=val c mv o S:=by unfold val;simp only[ho,e_x]
  have hf:B5 c mv o S1=B5 c mv o S:=by unfold B5;simp only[ho,e_x,hv]
  refine⟨?_,hf⟩
  simp only[e_x]
  refine⟨h.1,?_⟩
  have h2:=h.2
  split at h2
  ·refine⟨h2.1,?_⟩
   have h3:=h2.2
   split at h3
   ·exact h3
   ·rename_i lv q p e1
    have kh2:hpg S1.hp lv q=hpg S.hp lv q:=by unfold B5 at kh;simp only[ho,e1] at kh;exact kh
    rw[kh2]
    exact h3
   ·exact h3.elim
  ·exact h2.elim
 case h_6 T x i ho=>
  have e_x:∀T,evT c T S1 x=evT c T S x:=fun T=>ev x T (by rw[ho];simp[Op.operands])
  have hv:val c mv o S1=val c mv o S:=by unfold val;simp only[ho,e_x]
  exact⟨by simp only[e_x];exact h,by unfold B5;simp only[ho,hv]⟩
 case h_7 T x i ho=>
  have e_x:∀T,evT c T S1 x=evT c T S x:=fun T=>ev x T (by rw[ho];simp[Op.operands])
  have e_i:∀T,evT c T S1 i=evT c T S i:=fun T=>ev i T (by rw[ho];simp[Op.operands])
  have hv:val c mv o S1=val c mv o S:=by unfold val;simp only[ho,e_x,e_i]
  have hf:B5 c mv o S1=B5 c mv o S:=by unfold B5;simp only[ho,e_x,hv]
  refine⟨?_,hf⟩
  simp only[e_x,e_i]
  refine⟨h.1,h.2.1,?_⟩
  have h2:=h.2.2
  split at h2
  ·split at h2
   ·exact h2
   ·rename_i lv q _ _ _ e1 e2
    have kh2:hpg S1.hp lv q=hpg S.hp lv q:=by unfold B5 at kh;simp only[ho,e1] at kh;exact kh
    rw[kh2]
    exact h2
   ·exact h2.elim
  ·exact h2.elim
 case h_8 T x i ho=>
  have e_x:∀T,evT c T S1 x=evT c T S x:=fun T=>ev x T (by rw[ho];simp[Op.operands])
  have e_i:∀T,evT c T S1 i=evT c T S i:=fun T=>ev i T (by rw[ho];simp[Op.operands])
  have hv:val c mv o S1=val c mv o S:=by unfold val;simp only[ho,e_x,e_i]
  exact⟨by simp only[e_x,e_i];exact h,by unfold B5;simp only[ho,hv]⟩
 case h_9 x i ho=>
  have e_x:∀T,evT c T S1 x=evT c T S x:=fun T=>ev x T (by rw[ho];simp[Op.operands])
  have hv:val c mv o S1=val c mv o S:=by unfold val;simp only[ho,e_x]
  exact⟨by simp only[e_x];exact h,by unfold B5;simp only[ho,hv]⟩
 case h_10 op T x y yT ho=>
  have e_x:∀T,evT c T S1 x=evT c T S x:=fun T=>ev x T (by rw[ho];simp[Op.operands])
  have e_y:∀T,evT c T S1 y=evT c T S y:=fun T=>ev y T (by rw[ho];simp[Op.operands])
  have hv:val c mv o S1=val c mv o S:=by unfold val;simp only[ho,e_x,e_y]
  exact⟨by simp only[e_x,e_y];exact h,by unfold B5;simp only[ho,hv]⟩
 case h_11 T x ho=>
  have e_x:∀T,evT c T S1 x=evT c T S x:=fun T=>ev x T (by rw[ho];simp[Op.operands])
  have hv:val c mv o S1=val c mv o S:=by unfold val;simp only[ho,e_x]
  exact⟨by simp only[e_x];exact h,by unfold B5;simp only[ho,hv]⟩
 case h_12 Ts T x ho=>
  have e_x:∀T,evT c T S1 x=evT c T S x:=fun T=>ev x T (by rw[ho];simp[Op.operands])
  have hv:val c mv o S1=val c mv o S:=by unfold val;simp only[ho,e_x]
  exact⟨by simp only[e_x];exact h,by unfold B5;simp only[ho,hv]⟩
 case h_13 T x lo hi ho=>
  have e_x:∀T,evT c T S1 x=evT c T S x:=fun T=>ev x T (by rw[ho];simp[Op.operands])
  have e_lo:loV c S1 lo=loV c S lo:=by
   cases lo with
   |none=>rfl
   |some l=>exact ev l 0 (by rw[ho];simp[Op.operands])
  have e_hi:hi.map (evT c 0 S1)=hi.map (evT c 0 S):=by
   cases hi with
   |none=>rfl
   |some l=>simp only[Option.map_some];rw[ev l 0 (by rw[ho];simp[Op.operands])]
  have hv:val c mv o S1=val c mv o S:=by rw[Fs T x lo hi ho,Fs T x lo hi ho,e_x,e_lo,e_hi]
  exact⟨by simp only[e_x,e_lo,e_hi];exact h,by unfold B5;simp only[ho,hv]⟩
 case h_14 f first cap ho=>
  have e_c:cap.toList.map (evT c 0 S1)=cap.toList.map (evT c 0 S):=List.map_congr_left fun x hx=>ev x 0 (by rw[ho];simp[Op.operands] at hx ⊢;exact .inr hx)
  have hv:val c mv o S1=val c mv o S:=by unfold val;simp only[ho,e_c]
  exact⟨h,by unfold B5;simp only[ho,hv]⟩
 case h_15 T ps ho=>
  have t_p:∀p∈ps.toList,∀T,tkT c T S1 p.2=tkT c T S p.2:=fun p hp T=>FV (fun t e=>kt t (by unfold B5;simp only[ho];unfold cls;simp only[ho];exact List.mem_flatMap.2 ⟨p,hp,by rw[e];exact EK⟩)) T
  have e_m:(ps.toList.map fun p=>(p.1,tkT c (c.ft T p.1) S1 p.2))=ps.toList.map fun p=>(p.1,tkT c (c.ft T p.1) S p.2):=List.map_congr_left fun p hp=>by rw[t_p p hp]
  have hv:val c mv o S1=val c mv o S:=by unfold val;simp only[ho,e_m]
  refine⟨?_,by unfold B5;simp only[ho,hv]⟩
  split at h
  ·exact fun p hp=>by rw[t_p p hp];exact h p hp
  ·exact h.elim
 case h_16 args ts ho=>
  obtain⟨x,T,rfl,rfl,h1,h2⟩:=h
  have e_x:∀T,evT c T S1 x=evT c T S x:=fun T=>ev x T (by rw[ho];simp[Op.operands,Call.operands])
  have hv:val c mv o S1=val c mv o S:=by unfold val;simp only[ho,List.map_cons,List.map_nil,e_x]
  exact⟨⟨x,T,rfl,rfl,h1,by simp only[e_x];exact h2⟩,by unfold B5;simp only[ho,hv]⟩
 case h_17 args ts ho=>
  obtain⟨x,y,rfl,h1,h2,h3⟩:=h
  have e_x:∀T,evT c T S1 x=evT c T S x:=fun T=>ev x T (by rw[ho];simp[Op.operands,Call.operands])
  have e_y:∀T,evT c T S1 y=evT c T S y:=fun T=>ev y T (by rw[ho];simp[Op.operands,Call.operands])
  have hv:val c mv o S1=val c mv o S:=by unfold val;simp only[ho,List.map_cons,List.map_nil,e_x,e_y]
  exact⟨⟨x,y,rfl,h1,h2,by simp only[e_x,e_y];exact h3⟩,by unfold B5;simp only[ho,hv]⟩
 case h_18 args ts ho=>
  obtain⟨x,y,rfl,h1,h2,h3⟩:=h
  have e_x:∀T,evT c T S1 x=evT c T S x:=fun T=>ev x T (by rw[ho];simp[Op.operands,Call.operands])
  have e_y:∀T,evT c T S1 y=evT c T S y:=fun T=>ev y T (by rw[ho];simp[Op.operands,Call.operands])
  have hv:val c mv o S1=val c mv o S:=by unfold val;simp only[ho,List.map_cons,List.map_nil,e_x,e_y]
  exact⟨⟨x,y,rfl,h1,h2,by simp only[e_x,e_y];exact h3⟩,by unfold B5;simp only[ho,hv]⟩
 case h_19 args ts ho=>
  obtain⟨x,y,T,rfl,rfl,h1,h2,h3⟩:=h
  have hT0:(#[T,T]:Array TypeId).getD 0 0=T:=rfl
  have hts:∀t,(x=.tmp t∨y=.tmp t)→t∈(B5 c mv o S).ts:=by
   intro t ht
   have hcls:cls mv o=tmO x++tmO y:=by unfold cls;rw[ho];simp
   split at h3
   ·split at h3
    ·obtain⟨h4,h5⟩:=h3
     split at h5
     ·rename_i e1 e2
      unfold B5
      simp only[ho,List.map_cons,List.map_nil,hT0,e1,e2,hcls,List.mem_append]
      rcases ht with rfl|rfl
      ·exact .inl EK
      ·exact .inr EK
     ·exact h5.elim
    ·exact h3.elim
   ·exact h3.elim
  have t_x:∀T,tkT c T S1 x=tkT c T S x:=fun T=>FV (fun t e=>kt t (hts t (.inl e))) T
  have t_y:∀T,tkT c T S1 y=tkT c T S y:=fun T=>FV (fun t e=>kt t (hts t (.inr e))) T
  exact⟨⟨x,y,T,rfl,rfl,h1,h2,by simp only[t_x,t_y];exact h3⟩,by unfold B5;simp only[ho,List.map_cons,List.map_nil,t_x,t_y]⟩
 case h_20 T ho=>
  obtain⟨⟨ti,h1⟩,h2,k,h3,h4⟩:=h
  have kh2:hpg S1.hp 0 k=hpg S.hp 0 k∧S1.hp.length=S.hp.length:=by unfold B5 at kh;simp only[ho,h3,h1] at kh;exact kh
  exact⟨⟨⟨ti,h1⟩,by rw[kh2.2];exact h2,k,h3,kh2.1.trans h4⟩,by unfold B5;simp only[ho]⟩
 case h_21 T x ho=>
  obtain⟨h1,h2,⟨s,h3⟩,k,h4,h5⟩:=h
  have t_x:∀T,tkT c T S1 x=tkT c T S x:=fun T=>FV (fun t e=>kt t (by unfold B5;simp only[ho,h4,e];exact EK)) T
  have kh2:hpg S1.hp 0 k=hpg S.hp 0 k∧S1.hp.length=S.hp.length:=by unfold B5 at kh;simp only[ho,h4] at kh;exact kh
  exact⟨by simp only[t_x];exact⟨h1,by rw[kh2.2];exact h2,⟨s,h3⟩,k,h4,kh2.1.trans h5⟩,by unfold B5;simp only[ho,t_x]⟩
 case h_22 T x ho=>
  have e_x:∀T,evT c T S1 x=evT c T S x:=fun T=>ev x T (by rw[ho];simp[Op.operands])
  obtain⟨h1,h2⟩:=h
  split at h2
  ·rename_i e0 e1
   exact⟨by simp only[e_x,e0,e1];exact⟨h1,h2⟩,by unfold B5;simp only[ho,e_x,e1]⟩
  ·rename_i lv k p e0 e1
   split at h2
   ·rename_i cn e2
    have kh2:hpg S1.hp lv k=hpg S.hp lv k:=by
     unfold B5 at kh
     simp only[ho,e1,e2] at kh
     cases hm:mvB mv o.dst with
     |true=>rw[hm] at kh;simpa[Ef.agr,e2] using kh
     |false=>rw[hm] at kh;simpa[Ef.agr,e2] using kh
    exact⟨by simp only[e_x,e0,e1,kh2,e2];exact⟨h1,h2⟩,by unfold B5;simp only[ho,e_x,e1,kh2,e2]⟩
   ·exact h2.elim
  ·exact h2.elim
 case h_23 T x y ho=>
  have e_x:∀T,evT c T S1 x=evT c T S x:=fun T=>ev x T (by rw[ho];simp[Op.operands])
  obtain⟨h1,h2,h3⟩:=h
  split at h3
  ·rename_i ti lv k p e0 e1
   split at h3
   ·rename_i cn e2
    have t_y:∀T,tkT c T S1 y=tkT c T S y:=fun T=>FV (fun t e=>kt t (by unfold B5;simp only[ho,e1,e2,e];exact EK)) T
    have kh2:hpg S1.hp lv k=hpg S.hp lv k:=by
     unfold B5 at kh
     simp only[ho,e1,e2] at kh
     simpa[Ef.agr,e2] using kh
    exact⟨by simp only[e_x,e0,e1,kh2,e2,t_y];exact⟨h1,h2,h3⟩,by unfold B5;simp only[ho,e_x,e1,kh2,e2,t_y]⟩
   ·exact h3.elim
  ·exact h3.elim
 case h_24 T n ps ho=>
  split at h
  ·rename_i e s e0
   split at h
   ·rename_i te e2
    have t_p:∀p∈ps.toList,∀T,tkT c T S1 p.2=tkT c T S p.2:=fun p hp T=>FV (fun t e=>kt t (by unfold B5;simp only[ho,e0,e2];unfold cls;simp only[ho];exact List.mem_flatMap.2 ⟨p,hp,by rw[e];exact EK⟩)) T
    have e_m:(ps.toList.map fun p=>(p.1,tkT c e S1 p.2))=ps.toList.map fun p=>(p.1,tkT c e S p.2):=List.map_congr_left fun p hp=>by rw[t_p p hp]
    exact⟨⟨h.1,h.2.1,fun p hp=>by rw[t_p p hp];exact h.2.2 p hp⟩,by unfold B5;simp only[ho,e0,e2,e_m]⟩
   ·exact h.elim
  ·exact h.elim
 case h_25 T x y ho=>
  obtain⟨rfl,h1,h2,⟨k,h3,h4⟩,h5⟩:=h
  have e_x:∀T,evT c T S1 y=evT c T S y:=fun T=>ev y T (by rw[ho];simp[Op.operands])
  split at h5
  ·rename_i e0 e1
   split at h5
   ·rename_i te e2
    have kh2:hpg S1.hp 0 k=hpg S.hp 0 k∧S1.hp.length=S.hp.length:=by unfold B5 at kh;simp only[ho,h3,e0,e1,e2] at kh;exact kh
    exact⟨by simp only[e_x,e0,e1,e2];exact⟨trivial,h1,by rw[kh2.2];exact h2,⟨k,h3,kh2.1.trans h4⟩,h5⟩,by unfold B5;simp only[ho,e_x]⟩
   ·exact h5.elim
  ·exact h5.elim
 case h_26=>exact h.elim
theorem GR {ops:Array Oper} {o:Oper} {S S1:St} (k:∀t∈o.looksAt ops,(S1.tm t).vw=(S.tm t).vw):wnt ops o S1=wnt ops o S:=by
 unfold wnt
 cases hg:o.guard with
 |none=>rfl
 |some q=>
  obtain⟨j,b⟩:=q
  simp only
  cases hk:(ops[j]?).bind (·.dst) with
  |none=>rfl
  |some d=>
   have hm:d∈o.looksAt ops:=by
    unfold Oper.looksAt
    refine List.mem_append_right _ ?_
    simp[hg,hk]
   have he:=k d hm
   have key:∀a b:AV,a.vw=b.vw→(match a with| .d (.lf (.bool q))=>some (q==true)|_=>none)=(match b with| .d (.lf (.bool q))=>some (q==true)|_=>none):=by
    intro a b h
    cases a<;>cases b<;>simp only[AV.vw,AV.d.injEq,reduceCtorEq] at h<;>try rfl
    rename_i x y
    cases x<;>cases y<;>simp only[DD.vw,DD.lf.injEq,reduceCtorEq] at h<;>first|rfl|(subst h;rfl)
   have key2:∀a b:AV,∀z:Bool,a.vw=b.vw→(match a with| .d (.lf (.bool q))=>some (q==z)|_=>none)=(match b with| .d (.lf (.bool q))=>some (q==z)|_=>none):=by
    intro a b z h
    cases a<;>cases b<;>simp only[AV.vw,AV.d.injEq,reduceCtorEq] at h<;>try rfl
    rename_i x y
    cases x<;>cases y<;>simp only[DD.vw,DD.lf.injEq,reduceCtorEq] at h<;>first|rfl|(subst h;rfl)
   exact key2 _ _ b he
theorem Mp {c:Cx} {mv:List Nat} {o:Oper} {S:St} {ops:Array Oper} (hw:wnt ops o S=some true) (h:okP c mv o S):(B5 c mv o S).valid c ops S:=by
 intro S1 k
 obtain⟨h1,h2⟩:=fu h k
 have hr:=k.rd
 rw[aD] at hr ⊢
 rw[←h2, ←VP h1]
 exact OS.op ((GR hr).trans hw) (Lv h1)
theorem J0 {c:Cx} {ops:Array Oper} {o:Oper} {S:St} (hd:∀k,o.dst=some k→k<S.n) (hw:wnt ops o S=some true) (f:Operand) (args:Array Operand) (argTypes:Array TypeId) (ho:o.op=.call { callee:=.value f,args,argTypes }) (ts:List Nat)
  (g:Nat) (caps:List AV) (hf:evT c 0 S f=.fn g caps) (of:okO c 0 f) (fn:Func) (body:Code) (hg:CU c.P g fn body) (Ts:List Nat) (hTs:Ts.length=args.toList.length) (hok:∀x∈Ts.zip args.toList,okO c x.1 x.2) (hn:(gvn ts args.toList).Nodup)
  (r:AV) (hc:∀h,CS c.P g ((Ts.zip args.toList).map (fun x=>Cr c ts S x.1 x.2)++caps) h r h):(⟨o,gvn ts args.toList,r,.val⟩:Fsk).valid c ops S:=by
 intro S1 k
 have hmem:∀x∈args.toList,x∈o.op.operands.toList:=fun x hx=>by rw[ho];simp[Op.operands,Call.operands] at hx ⊢;exact .inr hx
 have ef:evT c 0 S1 f=evT c 0 S f:=I0 (fun t e=>k.rd t (DK (by rw[ho,e];simp[Op.operands,Call.operands]))) 0
 have ea:((Ts.zip args.toList).map (fun x=>Cr c ts S1 x.1 x.2))=(Ts.zip args.toList).map (fun x=>Cr c ts S x.1 x.2):=by
  refine List.map_congr_left fun x hx=> ?_
  obtain⟨T,x⟩:=x
  have hx2:=(List.of_mem_zip hx).2
  cases x with
  |tmp t=>
   simp only[Cr]
   cases hq:ts.contains t with
   |true=>
    simp only[cond_true]
    refine k.ts t ?_
    simp only[gvn,List.mem_flatMap]
    exact⟨.tmp t,hx2,by simp only[hq,cond_true,List.mem_singleton]⟩
   |false=>simp only[cond_false];exact k.rd t (DK (hmem _ hx2))
  |_=>rfl
 exact OS.call (c:=c) (by rw[k.n];exact hd) ((GR k.rd).trans hw) f args argTypes ho ts g caps (ef.trans hf) of fn body hg Ts hTs hok hn r S1.hp (by rw[ea];exact hc S1.hp)
mutual
def DD.zc:DD→List Value
 | .lf v=>[v]
 | .sl _ _ _=>[.slice none 0 0]
 | .st fs=>DD.zcs fs
def DD.zcs:List DD→List Value
 |[]=>[]
 |d::ds=>d.zc++DD.zcs ds
end
mutual
def DD.zB:DD→Bool
 | .lf (.int k n)=>decide (k.min≤n) && decide (n≤k.max)
 | .lf (.string s)=>s.size==0
 | .lf (.bool _)=>true
 | .lf _=>false
 | .sl o s es=>o && decide (0<s.w) && es.isEmpty
 | .st fs=>DD.zBs fs
def DD.zBs:List DD→Bool
 |[]=>true
 |d::ds=>d.zB && DD.zBs ds
end
mutual
theorem bV (w:World) (F:Nat→Nat):∀d:DD,d.zB=true→rp w F d d.zc []
 | .lf v,h=>by
  cases v<;>simp only[DD.zB,Bool.and_eq_true,decide_eq_true_eq,Bool.false_eq_true] at h<;>simp only[rp,DD.zc]
  ·exact⟨trivial,trivial,trivial⟩
  ·exact⟨trivial,h,trivial⟩
  ·refine⟨trivial,?_,trivial⟩
   simp only[beq_iff_eq] at h
   simp only[BK,h];exact Nat.zero_le _
 | .sl o s es,h=>by
  simp only[DD.zB,Bool.and_eq_true,decide_eq_true_eq,List.isEmpty_iff] at h
  obtain⟨⟨rfl,h2⟩,rfl⟩:=h
  simp only[rp,DD.zc]
  exact⟨by simp,h2,none,0,rfl,Nat.le_refl _,Nat.zero_le _,fun _=>rfl,.inl ⟨trivial,trivial,fun _=>rfl⟩⟩
 | .st fs,h=>by
  simp only[DD.zB] at h
  simp only[rp,DD.zc]
  exact Tg w F fs h
theorem Tg (w:World) (F:Nat→Nat):∀l:List DD,DD.zBs l=true→rpS w F l (DD.zcs l) []
 |[],_=>by simp only[rpS,DD.zcs];exact⟨trivial,trivial⟩
 |d::l,h=>by
  simp only[DD.zBs,Bool.and_eq_true] at h
  simp only[rpS,DD.zcs]
  exact⟨_,_,[],[],rfl,rfl,bV w F d h.1,Tg w F l h.2⟩
end
def bN (P:Program) (t:Nat):Option Bool:=(P.underlying t).map fun
 | .struct _=>true
 | .array _ _=>true
 |_=>false
def M3:Sh→Bool
 | .st _=>true
 | .one=>false
def TN (P:Program):List Field→List (Nat×Sh)→Nat→Bool
 |[],[],_=>true
 |f::fs,(t,s)::fl,off=>f.type==t && f.offset==off && decide (0<s.w) && ((P.info? t).map (·.size)==some s.w) && (bN P t==some (M3 s)) && TN P fs fl (off+s.w)
 |_,_,_=>false
theorem O5 (P:Program):∀(fs:List Field) (fl:List (Nat×Sh)) (off:Nat),TN P fs fl off=true→fs.length=fl.length∧∀(i:Nat) (t:Nat) (s:Sh),fl[i]? =some (t,s)→∃f,fs[i]? =some f∧f.type=t∧f.offset=off+Sh.ws ((fl.map Prod.snd).take i)∧0<s.w∧
    (∃j,P.info? t=some j∧j.size=s.w)∧(isAgg t).run P=fun w=> .ok (match s with| .st _=>true| .one=>false) w
 |[],[],off,_=>⟨rfl,fun i t s h=>by simp at h⟩
 |[],_::_,_,h=>by simp[TN] at h
 |_::_,[],_,h=>by simp[TN] at h
 |f::fs,(t0,s0)::fl,off,h=>by
  simp only[TN,Bool.and_eq_true,beq_iff_eq,decide_eq_true_eq] at h
  obtain⟨⟨⟨⟨⟨h1,h2⟩,h3⟩,h4⟩,h5⟩,h6⟩:=h
  obtain⟨k1,k2⟩:=O5 P fs fl _ h6
  refine⟨by simp[k1],fun i t s hi=> ?_⟩
  cases i with
  |zero=>
   simp only[List.getElem?_cons_zero,Option.some.injEq,Prod.mk.injEq] at hi
   obtain⟨rfl,rfl⟩:=hi
   refine⟨f,rfl,h1,by simp[h2,Sh.ws],h3,?_,?_⟩
   ·cases hq:P.info? t0 with
    |none=>rw[hq] at h4;cases h4
    |some j=>rw[hq] at h4;exact⟨j,rfl,by simpa using h4⟩
   ·funext w
    unfold bN at h5
    cases hq:P.underlying t0 with
    |none=>rw[hq] at h5;cases h5
    |some d=>
     rw[hq] at h5
     simp only[Option.map_some,Option.some.injEq] at h5
     unfold isAgg
     rw[Sem.run_bind,run_underlying hq]
     cases s0<;>cases d<;>simp[M3] at h5<;>rfl
  |succ i=>
   obtain⟨f',g1,g2,g3,g4⟩:=k2 i t s (by simpa using hi)
   refine⟨f',by simpa using g1,g2,?_,g4⟩
   rw[g3];simp only[List.map_cons,List.take_succ_cons,Sh.ws];omega
def kdB (P:Program) (T:Nat) (sh:Sh):KD→Bool
 | .lf=> !M3 sh && (bN P T==some false)
 | .str=> !M3 sh && (match P.underlying T with|some .string=>true|_=>false)
 | .bool=> !M3 sh && (match P.underlying T with|some .bool=>true|_=>false)
 | .int k=> !M3 sh && (match P.underlying T with|some (.int k')=>k==k'|_=>false)
 | .sl e s=> !M3 sh && decide (0<s.w) && (match P.underlying T with|some (.slice e')=>e==e'|_=>false) && ((P.info? e).map (·.size)==some s.w)
 | .st fl=>(match P.underlying T with|some (.struct fs)=>TN P fs.toList fl 0|_=>false)
 | .ar n e s=>decide (2≤n) && decide (0<s.w) && (match P.underlying T with|some (.array n' e')=>n==n' && e==e'|_=>false) && ((P.info? e).map (·.size)==some s.w)
theorem JX {sh:Sh} (h:(!M3 sh)=true):sh=.one:=by cases sh<;>simp[M3] at h ⊢
theorem ZO (P:Program) (T:Nat) (sh:Sh) (k:KD) (hs:∀fl,k=.st fl→sh=.st (fl.map Prod.snd)) (hs2:∀n e s,k=.ar n e s→sh=.st (List.replicate n s)) (h:kdB P T sh k=true):Xy P T sh k:=by
 cases k<;>simp only[kdB,Bool.and_eq_true,beq_iff_eq] at h<;>simp only[Xy]
 ·refine⟨JX h.1,?_⟩
  have h2:=h.2
  unfold bN at h2
  cases hq:P.underlying T with
  |none=>rw[hq] at h2;cases h2
  |some d=>
   rw[hq] at h2
   refine⟨d,rfl,fun fs e=> ?_,fun n e' e=> ?_⟩
   ·subst e;simp at h2
   ·subst e;simp at h2
 ·refine⟨JX h.1,?_⟩
  have h2:=h.2
  split at h2<;>first|assumption|cases h2
 ·refine⟨JX h.1,?_⟩
  have h2:=h.2
  split at h2<;>first|assumption|cases h2
 ·refine⟨JX h.1,?_⟩
  have h2:=h.2
  split at h2
  ·rename_i k' hq
   simp only[beq_iff_eq] at h2
   subst h2
   exact hq
  ·cases h2
 ·obtain⟨⟨⟨h1,h2⟩,h3⟩,h4⟩:=h
  refine⟨JX h1,by simpa using h2,?_,?_⟩
  ·split at h3
   ·rename_i e' hq
    simp only[beq_iff_eq] at h3
    subst h3
    exact hq
   ·cases h3
  ·rename_i e s
   cases hq:P.info? e with
   |none=>rw[hq] at h4;cases h4
   |some j=>rw[hq] at h4;exact⟨j,rfl,by simpa using h4⟩
 ·rename_i fl
  refine⟨hs fl rfl,?_⟩
  split at h
  ·rename_i fs hq
   obtain⟨k1,k2⟩:=O5 P fs.toList fl 0 h
   refine⟨fs,hq,by simpa using k1,fun i t s hi=> ?_⟩
   obtain⟨f,g1,g2,g3,g4⟩:=k2 i t s hi
   exact⟨f,by simpa using g1,g2,by simpa using g3,g4⟩
  ·cases h
 ·rename_i n e s
  obtain⟨⟨⟨h1,h2⟩,h3⟩,h4⟩:=h
  refine⟨hs2 _ _ _ rfl,by simpa using h1,by simpa using h2,?_,?_⟩
  ·split at h3
   ·rename_i n' e' hq
    simp only[Bool.and_eq_true,beq_iff_eq] at h3
    obtain⟨rfl,rfl⟩:=h3
    exact hq
   ·cases h3
  ·cases hq:P.info? e with
   |none=>rw[hq] at h4;cases h4
   |some j=>rw[hq] at h4;exact⟨j,rfl,by simpa using h4⟩
theorem Mg.of {P:Program} {T:Nat} {ti:TI} (h1:(P.info? T).map (fun i=>(i.size,i.bytes,i.zero))=some (ti.sh.w,ti.bytes,some (ti.z.mk ti.zc))) (h2:ti.zc=ti.z.zc) (h3:(ti.z.zB && decide (0<ti.sh.w) && kdB P T ti.sh ti.kd)=true) (h4:ti.z.sh=ti.sh)
  (h5:∀fl,ti.kd=.st fl→ti.sh=.st (fl.map Prod.snd)) (h6:∀n e s,ti.kd=.ar n e s→ti.sh=.st (List.replicate n s):=by intro n e s h;cases h<;>rfl):Mg P T ti:=by
 simp only[Bool.and_eq_true,decide_eq_true_eq] at h3
 refine⟨?_,h3.1.2,h4,fun w F=>by rw[h2];exact bV w F _ h3.1.1,ZO P T _ _ h5 h6 h3.2⟩
 cases hq:P.info? T with
 |none=>rw[hq] at h1;cases h1
 |some i=>
  rw[hq] at h1
  simp only[Option.map_some,Option.some.injEq,Prod.mk.injEq] at h1
  exact⟨i,rfl,h1.1,h1.2.1,h1.2.2⟩
def al:List (Nat×AV)→Nat→Option AV
 |[],_=>none
 |(j,v)::r,k=>bif k==j then some v else al r k
def tl (l:List (Nat×AV)):Nat→AV:=fun t=>(al l t).getD .un
def okL (c:Cx) (mv:List Nat) (ops:Array Oper):List Nat→St→Prop
 |[],_=>True
 |i::l,S=>(match ops[i]? with|some o=>wnt ops o S=some true∧okP c mv o S|none=>False)∧okL c mv ops l (match ops[i]? with|some o=>nx c mv o S|none=>S)
def eY (c:Cx) (mv:List Nat) (ops:Array Oper):List Nat→St→St
 |[],S=>S
 |i::l,S=>eY c mv ops l (match ops[i]? with|some o=>nx c mv o S|none=>S)
theorem WO.run {c:Cx} {mv:List Nat} {ops:Array Oper} {l2:List Nat} {K:St→Prop}:∀(l1:List Nat) {S:St},okL c mv ops l1 S→WO c ops l2 (eY c mv ops l1 S) K→WO c ops (l1++l2) S K
 |[],_,_,k=>k
 |i::l,S,h,k=>by
  obtain⟨h1,h2⟩:=h
  cases ho:ops[i]? with
  |none=>rw[ho] at h1;exact h1.elim
  |some o=>
   rw[ho] at h1 h2
   refine WO.cons ho (OS.op h1.1 (Lv (mv:=mv) h1.2)) (WO.run l h2 ?_)
   simpa only[eY,ho] using k
