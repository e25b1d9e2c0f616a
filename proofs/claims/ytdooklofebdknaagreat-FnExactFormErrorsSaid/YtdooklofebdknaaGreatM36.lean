/- The arms of a case: the constructors of a data type, each once, in two ways (plain); Walks by the Den rules; impl.AllDistinct: a set of texts that the call makes. No condition but sizes. -/
import Derived.Test.YtdooklofebdknaaGreatM20
import Derived.Test.YtdooklofebdknaaGreatM22
import Derived.Test.YtdooklofebdknaaGreatM23
import Derived.Test.YtdooklofebdknaaGreatM27
import Derived.Test.YtdooklofebdknaaGreatM30
import Derived.Test.YtdooklofebdknaaGreatM35
import Derived.Carry
import Derived.MapKept
namespace Go.Proofs.YtdooklofebdknaaGreat
open Go.RowKit Go.MapKept
set_option maxRecDepth 100000
set_option linter.unusedSimpArgs false
set_option maxHeartbeats 4000000
def armP (c : TConstructor) (x : TArm) : Bool := decide (x.fConstructor = c.fName) && decide (x.fVars.length = c.fFields.length)
def dupC (l : List TConstructor) (k : Nat) (s : ByteArray) : Bool := (l.take k).any fun c => decide (c.fName = s)
def ctOk (l : List TConstructor) (a : List TArm) (k : Nat) (c : TConstructor) : Bool := !dupC l k c.fName && decide (a.countP (armP c) = 1)
def fitS (d : TDataType) (a : List TArm) : Bool := decide (a.length = d.fConstructors.length) && (fs (bad (ctOk d.fConstructors a)) 0 d.fConstructors).isNone
theorem armP_eq (c : TConstructor) (x : TArm) : armP c x = (decide (x.fConstructor = c.fName) && decide (x.fVars.length = c.fFields.length)) := rfl
theorem bad_eq {α : Type} (p : Nat → α → Bool) (i : Nat) (x : α) : bad p i x = if p i x then none else some () := rfl
theorem fs_byF_find {α : Type} (g : α → ByteArray) (s : ByteArray) : ∀ (l : List α) (i : Nat), (fs (byF g s) i l).map Prod.fst = l.find? fun x => decide (g x = s)
 | [], _ => rfl
 | x :: l, i => by
  rw [fs, List.find?_cons]
  unfold byF
  by_cases h : g x = s
  ·simp [h]
  ·simp only [h, if_false, decide_false]; exact fs_byF_find g s l (i + 1)
theorem fitS_eq (d : TDataType) (a : List TArm) : fitS d a = fitA d a := by
 unfold fitS fitA
 by_cases hl : a.length = d.fConstructors.length
 ·rw [decide_eq_true hl, Bool.true_and, Bool.and_true, Bool.eq_iff_iff, fs_bad, Bool.and_eq_true, dst_iff, List.all_eq_true]
  have hdup : ∀ k (hk : k < d.fConstructors.length), dupC d.fConstructors k d.fConstructors[k].fName = false ↔ ∀ j (hj : j < k), ¬ (d.fConstructors[j]'(by omega)).fName = d.fConstructors[k].fName := fun k hk => by
   unfold dupC
   rw [List.any_eq_false]
   constructor
   ·intro h j hj
    have := h d.fConstructors[j] (List.mem_take_iff_getElem.2 ⟨j, by omega, rfl⟩)
    simpa using this
   ·intro h c hc
    obtain ⟨j, hj, rfl⟩ := List.mem_take_iff_getElem.1 hc
    simpa using h j (by omega)
  have hnd : (∀ i (h : i < (d.fConstructors.map TConstructor.fName).length), ∀ j (hj : j < i), ¬ (d.fConstructors.map TConstructor.fName)[j] = (d.fConstructors.map TConstructor.fName)[i]) ↔ (d.fConstructors.map TConstructor.fName).Nodup := by
   rw [List.nodup_iff_pairwise_ne, List.pairwise_iff_getElem]
   exact ⟨fun h i j hi hj hij => h j hj i hij, fun h i hi j hj => h j i (by omega) hi hj⟩
  have hby : ∀ c : TConstructor, c1 a c = true ↔ ∃ x, a.find? (fun x => decide (x.fConstructor = c.fName)) = some x ∧ decide (x.fVars.length = c.fFields.length) = true := fun c => by
   have := fs_byF_find TArm.fConstructor c.fName a 0
   unfold c1 byN
   cases h : fs (byF TArm.fConstructor c.fName) 0 a with
   | none => rw [h] at this; simp only [Option.map_none] at this; rw [← this]; simp
   | some x => rw [h] at this; simp only [Option.map_some] at this; rw [← this]; simp
  simp only [hby]
  constructor
  ·intro h
   have h1 : ∀ k (hk : k < d.fConstructors.length), dupC d.fConstructors k d.fConstructors[k].fName = false := fun k hk => by have := h k hk; simp [ctOk] at this; exact this.1
   have h2 : (∀ i (h : i < (d.fConstructors.map TConstructor.fName).length), ∀ j (hj : j < i), ¬ (d.fConstructors.map TConstructor.fName)[j] = (d.fConstructors.map TConstructor.fName)[i]) := fun i hi j hj => by
    simp only [List.length_map] at hi
    simpa using (hdup i hi).1 (h1 i hi) j hj
   refine ⟨(fit_eq TConstructor.fName TArm.fConstructor (fun c x => decide (x.fVars.length = c.fFields.length)) _ a (hnd.1 h2) hl).1 fun c hc => ?_, h2⟩
   obtain ⟨k, hk, rfl⟩ := List.getElem_of_mem hc
   have := h k hk
   simp only [ctOk, Bool.and_eq_true, decide_eq_true_eq] at this
   exact this.2
  ·rintro ⟨h1, h2⟩ k hk
   have h3 := (fit_eq TConstructor.fName TArm.fConstructor (fun c x => decide (x.fVars.length = c.fFields.length)) _ a (hnd.1 h2) hl).2 h1 _ (List.getElem_mem hk)
   have h4 : dupC d.fConstructors k d.fConstructors[k].fName = false := (hdup k hk).2 fun j hj => by
    have := h2 k (by simpa using hk) j hj
    simpa using this
   simp only [ctOk, h4, Bool.not_false, Bool.true_and, decide_eq_true_eq]
   exact h3
 ·simp [hl]

def ctK (x : TPackage) (k : Nat) : List ByteArray := (x.fDataTypes.take k).flatMap fun d => d.fConstructors.map TConstructor.fName
def ctD (x : TPackage) (k : Nat) (d : TDataType) (j : Nat) : List ByteArray := ctK x k ++ nmsK d.fConstructors TConstructor.fName j
theorem ctK_zero (x : TPackage) : ctK x 0 = [] := rfl
theorem ctD_zero (x : TPackage) (k : Nat) (d : TDataType) : ctD x k d 0 = ctK x k := by unfold ctD; rw [nmsK_zero, List.append_nil]
theorem ctD_snoc {x : TPackage} {k : Nat} {d : TDataType} {j : Nat} (h : j < d.fConstructors.length) : (ctD x k d j).map dS ++ [.lf (.string d.fConstructors[j].fName)] = (ctD x k d (j + 1)).map dS := by
 unfold ctD; rw [List.map_append, List.append_assoc, nmsK_snoc TConstructor.fName h, List.map_append]
theorem ctD_full {x : TPackage} {k : Nat} (h : k < x.fDataTypes.length) : ctD x k x.fDataTypes[k] x.fDataTypes[k].fConstructors.length = ctK x (k + 1) := by
 unfold ctD ctK; rw [List.take_succ_eq_append_getElem h, List.flatMap_append, nmsK_full]; simp
theorem ctL_len : ∀ l : List TDataType, (l.flatMap fun d => d.fConstructors.map TConstructor.fName).length ≤ szL TDataType.sz l
 | [] => by simp
 | d :: l => by
  have h1 := ctL_len l
  have h2 := d.sz_eq
  unfold szs at h2
  simp only [List.flatMap_cons, List.length_append, List.length_map, szL]; omega
theorem ctD_len {x : TPackage} {k : Nat} (h : k < x.fDataTypes.length) {j : Nat} (hj : j ≤ x.fDataTypes[k].fConstructors.length) : (ctD x k x.fDataTypes[k] j).length ≤ szL TDataType.sz x.fDataTypes := by
 have h1 := ctL_len (x.fDataTypes.take (k + 1))
 have h2 := szL_take TDataType.sz x.fDataTypes (k + 1)
 rw [List.take_succ_eq_append_getElem h, List.flatMap_append] at h1
 rw [List.take_succ_eq_append_getElem h] at h2
 simp only [List.length_append, List.flatMap_cons, List.flatMap_nil, List.append_nil, List.length_map] at h1
 unfold ctD ctK
 rw [List.length_append, nmsK_len _ hj]; omega
theorem ctK_len (x : TPackage) (k : Nat) : (ctK x k).length ≤ szL TDataType.sz x.fDataTypes := Nat.le_trans (ctL_len _) (szL_take TDataType.sz x.fDataTypes k)
def ctAll (x : TPackage) : List ByteArray := x.fDataTypes.flatMap fun d => d.fConstructors.map TConstructor.fName
theorem ctK_full (x : TPackage) : ctK x x.fDataTypes.length = ctAll x := by unfold ctK ctAll; rw [List.take_length]
def rightOk (x : TPackage) : Bool := !(x.fTraits.any fun t => !traitOk t) && !(x.fDataTypes.any fun d => !dataOk d) && !(x.fInstances.any fun i => !instOk i) && !(x.fFunctions.any fun g => !fnOk g)
def pk1 (x : TPackage) : Bool := isNm x.fName && words x.fDeps 5 && !hasS x.fDeps x.fName && decide (x.fTraits.length + x.fDataTypes.length + x.fInstances.length + x.fFunctions.length ≤ 24)
def pk2 (x : TPackage) : Bool := dst (x.fTraits.map TTrait.fName) && dst (x.fDataTypes.map TDataType.fName) && dst (ctAll x) && dst (x.fFunctions.map TFunction.fName)
def pkgOk (x : TPackage) : Bool := pk1 x && pk2 x && rightOk x
theorem IndexFuncTypeC_d (l : List TType) (hm : l.length ≤ 1073741824) (g : Nat) (fn : Func) (body : Code) (hg : FnOk cx.P g fn body) (p : TType → Bool) (k : Nat) (c : DD) (lv : Nat) (hp : ∀ y ∈ l, ∀ lv : Nat, ∀ h, hpg h lv k = some (.d c) → CS cx.P g [.d (TType.dd false y), .pt lv k []] h (.d (.lf (.bool (p y)))) h) (h : HP) (hcap : hpg h lv k = some (.d c)) : CS cx.P 321 [.d (.sl false sh65 (l.map (TType.dd false))), .fn g [.pt lv k []]] h (.d (.lf (.int .i64 (idxP l p)))) h := by
 refine Ze Tryz.func321 rfl 19 ?_
 apply Zr; intros
 refine Zo ?_; simp
 exact Zx
 refine W.seq ?_
 apply Zr; intros
 iterate 3 (refine Zo ?_; simp)
 exact Zx
 refine W.block ?_
 refine W.loopI [0, 1, 7] [] (fun k0 => [(8, .d (.lf (.int .i64 (k0 : Int))))]) (fun _ => []) l.length (fun k0 => ∀ j, j < k0 → ∀ y, l[j]? = some y → p y = false) rfl (by simp) (by simp) fun k0 hk0 hi0 T hT => ?_
 simp at hT; subst hT
 apply Zr; intros
 refine Zo ?_; simp
 exact Zx
 refine Zv rfl ?_ ?_ <;> intro hb0 <;> try simp at hb0
 have hx := ixNext hb0 (by omega)
 refine W.skip ?_
 refine Zb ?_
 apply Zr; intros
 iterate 2 (refine Zo ?_ (by simp [hb0, hx] <;> omega); simp [hb0, hx])
 exact Zx
 apply Zr; intros
 iterate 5 (refine Zo ?_ (by simp [hb0, hx] <;> omega); simp [hb0, hx])
 refine WL.call [] _ _ _ rfl rfl (by simp) (g := g) (caps := [.pt (lv + 1) k []]) (by simp) (by simp) hg rfl (by simp [hb0, hx]) (by simp) (by simp [hb0, hx]) (hp l[k0] (gm hb0) (lv + 1) _ (by simpa using hpgD hcap)) rfl ?_; simp [hb0, hx]
 exact Zx
 refine Zc rfl ?_ ?_ <;> intro hb1 <;> try simp at hb1
 have hres := idxP_at hi0 hb0 hb1
 apply Zr; intros
 iterate 2 (refine Zo ?_ (by simp [hb0, hx] <;> omega); simp [hb0, hx])
 exact Zx
 refine W.ret (Zq ?_)
 simp [Tryz.f321, hres]
 refine W.skip ?_
 apply Zs; intros
 iterate 2 (refine Zo ?_ (by simp [hb0, hx] <;> omega); simp [hb0, hx])
 exact Zx
 refine ⟨hb0, noP_step hi0 hb0 hb1, Wz.to rfl rfl rfl ?_⟩
 simp
 have hkl : k0 = l.length := by omega
 subst hkl
 have hres := idxP_no hi0
 refine W.exit ?_
 apply Zr; intros
 refine Zo ?_; simp
 exact Zx
 refine W.ret (Zq ?_)
 simp [Tryz.f321, hres]
theorem ContainsFuncTypeC_d (l : List TType) (hm : l.length ≤ 1073741824) (g : Nat) (fn : Func) (body : Code) (hg : FnOk cx.P g fn body) (p : TType → Bool) (k : Nat) (c : DD) (lv : Nat) (hp : ∀ y ∈ l, ∀ lv : Nat, ∀ h, hpg h lv k = some (.d c) → CS cx.P g [.d (TType.dd false y), .pt lv k []] h (.d (.lf (.bool (p y)))) h) (h : HP) (hcap : hpg h lv k = some (.d c)) : CS cx.P 252 [.d (.sl false sh65 (l.map (TType.dd false))), .fn g [.pt lv k []]] h (.d (.lf (.bool (l.any p)))) h := by
 refine Ze Tryz.func252 rfl 9 ?_
 apply Zr; intros
 refine Zo ?_; simp
 exact Zx
 apply Zr; intros
 iterate 2 (refine Zo ?_; simp)
 refine Zl [] rfl Tryz.func321 (IndexFuncTypeC_d l hm g fn body hg p k c (lv + 1) hp _ (by simpa using hpgD hcap)) ?_; simp
 iterate 2 (refine Zo ?_; simp)
 exact Zx
 refine W.ret (Zq ?_)
 simp [Tryz.f252, ← idxP_any]
theorem IndexFuncStr_d (l : List ByteArray) (hm : l.length ≤ 1073741824) (g : Nat) (fn : Func) (body : Code) (hg : FnOk cx.P g fn body) (p : ByteArray → Bool) (hp : ∀ y ∈ l, ∀ h, CS cx.P g [.d (dS y)] h (.d (.lf (.bool (p y)))) h) (h : HP) : CS cx.P 188 [.d (.sl false .one (l.map (dS))), .fn g []] h (.d (.lf (.int .i64 (idxP l p)))) h := by
 refine Ze Tryz.func188 rfl 19 ?_
 apply Zr; intros
 refine Zo ?_; simp
 exact Zx
 refine W.seq ?_
 apply Zr; intros
 iterate 3 (refine Zo ?_; simp)
 exact Zx
 refine W.block ?_
 refine W.loopI [0, 1, 7] [] (fun k0 => [(8, .d (.lf (.int .i64 (k0 : Int))))]) (fun _ => []) l.length (fun k0 => ∀ j, j < k0 → ∀ y, l[j]? = some y → p y = false) rfl (by simp) (by simp) fun k0 hk0 hi0 T hT => ?_
 simp at hT; subst hT
 apply Zr; intros
 refine Zo ?_; simp
 exact Zx
 refine Zv rfl ?_ ?_ <;> intro hb0 <;> try simp at hb0
 have hx := ixNext hb0 (by omega)
 refine W.skip ?_
 refine Zb ?_
 apply Zr; intros
 iterate 2 (refine Zo ?_ (by simp [hb0, hx] <;> omega); simp [hb0, hx])
 exact Zx
 apply Zr; intros
 iterate 5 (refine Zo ?_ (by simp [hb0, hx] <;> omega); simp [hb0, hx])
 refine WL.call [] _ _ _ rfl rfl (by simp) (g := g) (caps := []) (by simp) (by simp) hg rfl (by simp [hb0, hx]) (by simp) (by simp [hb0, hx]) (hp l[k0] (gm hb0) _) rfl ?_; simp [hb0, hx]
 exact Zx
 refine Zc rfl ?_ ?_ <;> intro hb1 <;> try simp at hb1
 have hres := idxP_at hi0 hb0 hb1
 apply Zr; intros
 iterate 2 (refine Zo ?_ (by simp [hb0, hx] <;> omega); simp [hb0, hx])
 exact Zx
 refine W.ret (Zq ?_)
 simp [Tryz.f188, hres]
 refine W.skip ?_
 apply Zs; intros
 iterate 2 (refine Zo ?_ (by simp [hb0, hx] <;> omega); simp [hb0, hx])
 exact Zx
 refine ⟨hb0, noP_step hi0 hb0 hb1, Wz.to rfl rfl rfl ?_⟩
 simp
 have hkl : k0 = l.length := by omega
 subst hkl
 have hres := idxP_no hi0
 refine W.exit ?_
 apply Zr; intros
 refine Zo ?_; simp
 exact Zx
 refine W.ret (Zq ?_)
 simp [Tryz.f188, hres]
theorem ContainsFuncStr_d (l : List ByteArray) (hm : l.length ≤ 1073741824) (g : Nat) (fn : Func) (body : Code) (hg : FnOk cx.P g fn body) (p : ByteArray → Bool) (hp : ∀ y ∈ l, ∀ h, CS cx.P g [.d (dS y)] h (.d (.lf (.bool (p y)))) h) (h : HP) : CS cx.P 113 [.d (.sl false .one (l.map (dS))), .fn g []] h (.d (.lf (.bool (l.any p)))) h := by
 refine Ze Tryz.func113 rfl 9 ?_
 apply Zr; intros
 refine Zo ?_; simp
 exact Zx
 apply Zr; intros
 iterate 2 (refine Zo ?_; simp)
 refine Zl [] rfl Tryz.func188 (IndexFuncStr_d l hm g fn body hg p hp _) ?_; simp
 iterate 2 (refine Zo ?_; simp)
 exact Zx
 refine W.ret (Zq ?_)
 simp [Tryz.f113, ← idxP_any]
theorem IndexFuncStrC_d (l : List ByteArray) (hm : l.length ≤ 1073741824) (g : Nat) (fn : Func) (body : Code) (hg : FnOk cx.P g fn body) (p : ByteArray → Bool) (k : Nat) (c : DD) (lv : Nat) (hp : ∀ y ∈ l, ∀ lv : Nat, ∀ h, hpg h lv k = some (.d c) → CS cx.P g [.d (dS y), .pt lv k []] h (.d (.lf (.bool (p y)))) h) (h : HP) (hcap : hpg h lv k = some (.d c)) : CS cx.P 188 [.d (.sl false .one (l.map (dS))), .fn g [.pt lv k []]] h (.d (.lf (.int .i64 (idxP l p)))) h := by
 refine Ze Tryz.func188 rfl 19 ?_
 apply Zr; intros
 refine Zo ?_; simp
 exact Zx
 refine W.seq ?_
 apply Zr; intros
 iterate 3 (refine Zo ?_; simp)
 exact Zx
 refine W.block ?_
 refine W.loopI [0, 1, 7] [] (fun k0 => [(8, .d (.lf (.int .i64 (k0 : Int))))]) (fun _ => []) l.length (fun k0 => ∀ j, j < k0 → ∀ y, l[j]? = some y → p y = false) rfl (by simp) (by simp) fun k0 hk0 hi0 T hT => ?_
 simp at hT; subst hT
 apply Zr; intros
 refine Zo ?_; simp
 exact Zx
 refine Zv rfl ?_ ?_ <;> intro hb0 <;> try simp at hb0
 have hx := ixNext hb0 (by omega)
 refine W.skip ?_
 refine Zb ?_
 apply Zr; intros
 iterate 2 (refine Zo ?_ (by simp [hb0, hx] <;> omega); simp [hb0, hx])
 exact Zx
 apply Zr; intros
 iterate 5 (refine Zo ?_ (by simp [hb0, hx] <;> omega); simp [hb0, hx])
 refine WL.call [] _ _ _ rfl rfl (by simp) (g := g) (caps := [.pt (lv + 1) k []]) (by simp) (by simp) hg rfl (by simp [hb0, hx]) (by simp) (by simp [hb0, hx]) (hp l[k0] (gm hb0) (lv + 1) _ (by simpa using hpgD hcap)) rfl ?_; simp [hb0, hx]
 exact Zx
 refine Zc rfl ?_ ?_ <;> intro hb1 <;> try simp at hb1
 have hres := idxP_at hi0 hb0 hb1
 apply Zr; intros
 iterate 2 (refine Zo ?_ (by simp [hb0, hx] <;> omega); simp [hb0, hx])
 exact Zx
 refine W.ret (Zq ?_)
 simp [Tryz.f188, hres]
 refine W.skip ?_
 apply Zs; intros
 iterate 2 (refine Zo ?_ (by simp [hb0, hx] <;> omega); simp [hb0, hx])
 exact Zx
 refine ⟨hb0, noP_step hi0 hb0 hb1, Wz.to rfl rfl rfl ?_⟩
 simp
 have hkl : k0 = l.length := by omega
 subst hkl
 have hres := idxP_no hi0
 refine W.exit ?_
 apply Zr; intros
 refine Zo ?_; simp
 exact Zx
 refine W.ret (Zq ?_)
 simp [Tryz.f188, hres]
theorem ContainsFuncStrC_d (l : List ByteArray) (hm : l.length ≤ 1073741824) (g : Nat) (fn : Func) (body : Code) (hg : FnOk cx.P g fn body) (p : ByteArray → Bool) (k : Nat) (c : DD) (lv : Nat) (hp : ∀ y ∈ l, ∀ lv : Nat, ∀ h, hpg h lv k = some (.d c) → CS cx.P g [.d (dS y), .pt lv k []] h (.d (.lf (.bool (p y)))) h) (h : HP) (hcap : hpg h lv k = some (.d c)) : CS cx.P 113 [.d (.sl false .one (l.map (dS))), .fn g [.pt lv k []]] h (.d (.lf (.bool (l.any p)))) h := by
 refine Ze Tryz.func113 rfl 9 ?_
 apply Zr; intros
 refine Zo ?_; simp
 exact Zx
 apply Zr; intros
 iterate 2 (refine Zo ?_; simp)
 refine Zl [] rfl Tryz.func188 (IndexFuncStrC_d l hm g fn body hg p k c (lv + 1) hp _ (by simpa using hpgD hcap)) ?_; simp
 iterate 2 (refine Zo ?_; simp)
 exact Zx
 refine W.ret (Zq ?_)
 simp [Tryz.f113, ← idxP_any]
theorem IndexFuncBoundC_d (l : List TBound) (hm : l.length ≤ 1073741824) (g : Nat) (fn : Func) (body : Code) (hg : FnOk cx.P g fn body) (p : TBound → Bool) (k : Nat) (c : DD) (lv : Nat) (hp : ∀ y ∈ l, ∀ lv : Nat, ∀ h, hpg h lv k = some (.d c) → CS cx.P g [.d (TBound.dd false y), .pt lv k []] h (.d (.lf (.bool (p y)))) h) (h : HP) (hcap : hpg h lv k = some (.d c)) : CS cx.P 288 [.d (.sl false sh174 (l.map (TBound.dd false))), .fn g [.pt lv k []]] h (.d (.lf (.int .i64 (idxP l p)))) h := by
 refine Ze Tryz.func288 rfl 19 ?_
 apply Zr; intros
 refine Zo ?_; simp
 exact Zx
 refine W.seq ?_
 apply Zr; intros
 iterate 3 (refine Zo ?_; simp)
 exact Zx
 refine W.block ?_
 refine W.loopI [0, 1, 7] [] (fun k0 => [(8, .d (.lf (.int .i64 (k0 : Int))))]) (fun _ => []) l.length (fun k0 => ∀ j, j < k0 → ∀ y, l[j]? = some y → p y = false) rfl (by simp) (by simp) fun k0 hk0 hi0 T hT => ?_
 simp at hT; subst hT
 apply Zr; intros
 refine Zo ?_; simp
 exact Zx
 refine Zv rfl ?_ ?_ <;> intro hb0 <;> try simp at hb0
 have hx := ixNext hb0 (by omega)
 refine W.skip ?_
 refine Zb ?_
 apply Zr; intros
 iterate 2 (refine Zo ?_ (by simp [hb0, hx] <;> omega); simp [hb0, hx])
 exact Zx
 apply Zr; intros
 iterate 5 (refine Zo ?_ (by simp [hb0, hx] <;> omega); simp [hb0, hx])
 refine WL.call [] _ _ _ rfl rfl (by simp) (g := g) (caps := [.pt (lv + 1) k []]) (by simp) (by simp) hg rfl (by simp [hb0, hx]) (by simp) (by simp [hb0, hx]) (hp l[k0] (gm hb0) (lv + 1) _ (by simpa using hpgD hcap)) rfl ?_; simp [hb0, hx]
 exact Zx
 refine Zc rfl ?_ ?_ <;> intro hb1 <;> try simp at hb1
 have hres := idxP_at hi0 hb0 hb1
 apply Zr; intros
 iterate 2 (refine Zo ?_ (by simp [hb0, hx] <;> omega); simp [hb0, hx])
 exact Zx
 refine W.ret (Zq ?_)
 simp [Tryz.f288, hres]
 refine W.skip ?_
 apply Zs; intros
 iterate 2 (refine Zo ?_ (by simp [hb0, hx] <;> omega); simp [hb0, hx])
 exact Zx
 refine ⟨hb0, noP_step hi0 hb0 hb1, Wz.to rfl rfl rfl ?_⟩
 simp
 have hkl : k0 = l.length := by omega
 subst hkl
 have hres := idxP_no hi0
 refine W.exit ?_
 apply Zr; intros
 refine Zo ?_; simp
 exact Zx
 refine W.ret (Zq ?_)
 simp [Tryz.f288, hres]
theorem ContainsFuncBoundC_d (l : List TBound) (hm : l.length ≤ 1073741824) (g : Nat) (fn : Func) (body : Code) (hg : FnOk cx.P g fn body) (p : TBound → Bool) (k : Nat) (c : DD) (lv : Nat) (hp : ∀ y ∈ l, ∀ lv : Nat, ∀ h, hpg h lv k = some (.d c) → CS cx.P g [.d (TBound.dd false y), .pt lv k []] h (.d (.lf (.bool (p y)))) h) (h : HP) (hcap : hpg h lv k = some (.d c)) : CS cx.P 214 [.d (.sl false sh174 (l.map (TBound.dd false))), .fn g [.pt lv k []]] h (.d (.lf (.bool (l.any p)))) h := by
 refine Ze Tryz.func214 rfl 9 ?_
 apply Zr; intros
 refine Zo ?_; simp
 exact Zx
 apply Zr; intros
 iterate 2 (refine Zo ?_; simp)
 refine Zl [] rfl Tryz.func288 (IndexFuncBoundC_d l hm g fn body hg p k c (lv + 1) hp _ (by simpa using hpgD hcap)) ?_; simp
 iterate 2 (refine Zo ?_; simp)
 exact Zx
 refine W.ret (Zq ?_)
 simp [Tryz.f214, ← idxP_any]
theorem IndexFuncExpr_d (l : List TExpr) (hm : l.length ≤ 1073741824) (g : Nat) (fn : Func) (body : Code) (hg : FnOk cx.P g fn body) (p : TExpr → Bool) (hp : ∀ y ∈ l, ∀ h, CS cx.P g [.d (TExpr.dd false y)] h (.d (.lf (.bool (p y)))) h) (h : HP) : CS cx.P 425 [.d (.sl false sh75 (l.map (TExpr.dd false))), .fn g []] h (.d (.lf (.int .i64 (idxP l p)))) h := by
 refine Ze Tryz.func425 rfl 19 ?_
 apply Zr; intros
 refine Zo ?_; simp
 exact Zx
 refine W.seq ?_
 apply Zr; intros
 iterate 3 (refine Zo ?_; simp)
 exact Zx
 refine W.block ?_
 refine W.loopI [0, 1, 7] [] (fun k0 => [(8, .d (.lf (.int .i64 (k0 : Int))))]) (fun _ => []) l.length (fun k0 => ∀ j, j < k0 → ∀ y, l[j]? = some y → p y = false) rfl (by simp) (by simp) fun k0 hk0 hi0 T hT => ?_
 simp at hT; subst hT
 apply Zr; intros
 refine Zo ?_; simp
 exact Zx
 refine Zv rfl ?_ ?_ <;> intro hb0 <;> try simp at hb0
 have hx := ixNext hb0 (by omega)
 refine W.skip ?_
 refine Zb ?_
 apply Zr; intros
 iterate 2 (refine Zo ?_ (by simp [hb0, hx] <;> omega); simp [hb0, hx])
 exact Zx
 apply Zr; intros
 iterate 5 (refine Zo ?_ (by simp [hb0, hx] <;> omega); simp [hb0, hx])
 refine WL.call [] _ _ _ rfl rfl (by simp) (g := g) (caps := []) (by simp) (by simp) hg rfl (by simp [hb0, hx]) (by simp) (by simp [hb0, hx]) (hp l[k0] (gm hb0) _) rfl ?_; simp [hb0, hx]
 exact Zx
 refine Zc rfl ?_ ?_ <;> intro hb1 <;> try simp at hb1
 have hres := idxP_at hi0 hb0 hb1
 apply Zr; intros
 iterate 2 (refine Zo ?_ (by simp [hb0, hx] <;> omega); simp [hb0, hx])
 exact Zx
 refine W.ret (Zq ?_)
 simp [Tryz.f425, hres]
 refine W.skip ?_
 apply Zs; intros
 iterate 2 (refine Zo ?_ (by simp [hb0, hx] <;> omega); simp [hb0, hx])
 exact Zx
 refine ⟨hb0, noP_step hi0 hb0 hb1, Wz.to rfl rfl rfl ?_⟩
 simp
 have hkl : k0 = l.length := by omega
 subst hkl
 have hres := idxP_no hi0
 refine W.exit ?_
 apply Zr; intros
 refine Zo ?_; simp
 exact Zx
 refine W.ret (Zq ?_)
 simp [Tryz.f425, hres]
theorem ContainsFuncExpr_d (l : List TExpr) (hm : l.length ≤ 1073741824) (g : Nat) (fn : Func) (body : Code) (hg : FnOk cx.P g fn body) (p : TExpr → Bool) (hp : ∀ y ∈ l, ∀ h, CS cx.P g [.d (TExpr.dd false y)] h (.d (.lf (.bool (p y)))) h) (h : HP) : CS cx.P 382 [.d (.sl false sh75 (l.map (TExpr.dd false))), .fn g []] h (.d (.lf (.bool (l.any p)))) h := by
 refine Ze Tryz.func382 rfl 9 ?_
 apply Zr; intros
 refine Zo ?_; simp
 exact Zx
 apply Zr; intros
 iterate 2 (refine Zo ?_; simp)
 refine Zl [] rfl Tryz.func425 (IndexFuncExpr_d l hm g fn body hg p hp _) ?_; simp
 iterate 2 (refine Zo ?_; simp)
 exact Zx
 refine W.ret (Zq ?_)
 simp [Tryz.f382, ← idxP_any]
theorem IndexFuncArm_d (l : List TArm) (hm : l.length ≤ 1073741824) (g : Nat) (fn : Func) (body : Code) (hg : FnOk cx.P g fn body) (p : TArm → Bool) (hp : ∀ y ∈ l, ∀ h, CS cx.P g [.d (TArm.dd false y)] h (.d (.lf (.bool (p y)))) h) (h : HP) : CS cx.P 330 [.d (.sl false sh172 (l.map (TArm.dd false))), .fn g []] h (.d (.lf (.int .i64 (idxP l p)))) h := by
 refine Ze Tryz.func330 rfl 19 ?_
 apply Zr; intros
 refine Zo ?_; simp
 exact Zx
 refine W.seq ?_
 apply Zr; intros
 iterate 3 (refine Zo ?_; simp)
 exact Zx
 refine W.block ?_
 refine W.loopI [0, 1, 7] [] (fun k0 => [(8, .d (.lf (.int .i64 (k0 : Int))))]) (fun _ => []) l.length (fun k0 => ∀ j, j < k0 → ∀ y, l[j]? = some y → p y = false) rfl (by simp) (by simp) fun k0 hk0 hi0 T hT => ?_
 simp at hT; subst hT
 apply Zr; intros
 refine Zo ?_; simp
 exact Zx
 refine Zv rfl ?_ ?_ <;> intro hb0 <;> try simp at hb0
 have hx := ixNext hb0 (by omega)
 refine W.skip ?_
 refine Zb ?_
 apply Zr; intros
 iterate 2 (refine Zo ?_ (by simp [hb0, hx] <;> omega); simp [hb0, hx])
 exact Zx
 apply Zr; intros
 iterate 5 (refine Zo ?_ (by simp [hb0, hx] <;> omega); simp [hb0, hx])
 refine WL.call [] _ _ _ rfl rfl (by simp) (g := g) (caps := []) (by simp) (by simp) hg rfl (by simp [hb0, hx]) (by simp) (by simp [hb0, hx]) (hp l[k0] (gm hb0) _) rfl ?_; simp [hb0, hx]
 exact Zx
 refine Zc rfl ?_ ?_ <;> intro hb1 <;> try simp at hb1
 have hres := idxP_at hi0 hb0 hb1
 apply Zr; intros
 iterate 2 (refine Zo ?_ (by simp [hb0, hx] <;> omega); simp [hb0, hx])
 exact Zx
 refine W.ret (Zq ?_)
 simp [Tryz.f330, hres]
 refine W.skip ?_
 apply Zs; intros
 iterate 2 (refine Zo ?_ (by simp [hb0, hx] <;> omega); simp [hb0, hx])
 exact Zx
 refine ⟨hb0, noP_step hi0 hb0 hb1, Wz.to rfl rfl rfl ?_⟩
 simp
 have hkl : k0 = l.length := by omega
 subst hkl
 have hres := idxP_no hi0
 refine W.exit ?_
 apply Zr; intros
 refine Zo ?_; simp
 exact Zx
 refine W.ret (Zq ?_)
 simp [Tryz.f330, hres]
theorem ContainsFuncArm_d (l : List TArm) (hm : l.length ≤ 1073741824) (g : Nat) (fn : Func) (body : Code) (hg : FnOk cx.P g fn body) (p : TArm → Bool) (hp : ∀ y ∈ l, ∀ h, CS cx.P g [.d (TArm.dd false y)] h (.d (.lf (.bool (p y)))) h) (h : HP) : CS cx.P 384 [.d (.sl false sh172 (l.map (TArm.dd false))), .fn g []] h (.d (.lf (.bool (l.any p)))) h := by
 refine Ze Tryz.func384 rfl 9 ?_
 apply Zr; intros
 refine Zo ?_; simp
 exact Zx
 apply Zr; intros
 iterate 2 (refine Zo ?_; simp)
 refine Zl [] rfl Tryz.func330 (IndexFuncArm_d l hm g fn body hg p hp _) ?_; simp
 iterate 2 (refine Zo ?_; simp)
 exact Zx
 refine W.ret (Zq ?_)
 simp [Tryz.f384, ← idxP_any]
theorem IndexFuncPackageC_d (l : List TPackage) (hm : l.length ≤ 1073741824) (g : Nat) (fn : Func) (body : Code) (hg : FnOk cx.P g fn body) (p : TPackage → Bool) (k : Nat) (c : DD) (lv : Nat) (hp : ∀ y ∈ l, ∀ lv : Nat, ∀ h, hpg h lv k = some (.d c) → CS cx.P g [.d (TPackage.dd false y), .pt lv k []] h (.d (.lf (.bool (p y)))) h) (h : HP) (hcap : hpg h lv k = some (.d c)) : CS cx.P 189 [.d (.sl false sh49 (l.map (TPackage.dd false))), .fn g [.pt lv k []]] h (.d (.lf (.int .i64 (idxP l p)))) h := by
 refine Ze Tryz.func189 rfl 19 ?_
 apply Zr; intros
 refine Zo ?_; simp
 exact Zx
 refine W.seq ?_
 apply Zr; intros
 iterate 3 (refine Zo ?_; simp)
 exact Zx
 refine W.block ?_
 refine W.loopI [0, 1, 7] [] (fun k0 => [(8, .d (.lf (.int .i64 (k0 : Int))))]) (fun _ => []) l.length (fun k0 => ∀ j, j < k0 → ∀ y, l[j]? = some y → p y = false) rfl (by simp) (by simp) fun k0 hk0 hi0 T hT => ?_
 simp at hT; subst hT
 apply Zr; intros
 refine Zo ?_; simp
 exact Zx
 refine Zv rfl ?_ ?_ <;> intro hb0 <;> try simp at hb0
 have hx := ixNext hb0 (by omega)
 refine W.skip ?_
 refine Zb ?_
 apply Zr; intros
 iterate 2 (refine Zo ?_ (by simp [hb0, hx] <;> omega); simp [hb0, hx])
 exact Zx
 apply Zr; intros
 iterate 5 (refine Zo ?_ (by simp [hb0, hx] <;> omega); simp [hb0, hx])
 refine WL.call [] _ _ _ rfl rfl (by simp) (g := g) (caps := [.pt (lv + 1) k []]) (by simp) (by simp) hg rfl (by simp [hb0, hx]) (by simp) (by simp [hb0, hx]) (hp l[k0] (gm hb0) (lv + 1) _ (by simpa using hpgD hcap)) rfl ?_; simp [hb0, hx]
 exact Zx
 refine Zc rfl ?_ ?_ <;> intro hb1 <;> try simp at hb1
 have hres := idxP_at hi0 hb0 hb1
 apply Zr; intros
 iterate 2 (refine Zo ?_ (by simp [hb0, hx] <;> omega); simp [hb0, hx])
 exact Zx
 refine W.ret (Zq ?_)
 simp [Tryz.f189, hres]
 refine W.skip ?_
 apply Zs; intros
 iterate 2 (refine Zo ?_ (by simp [hb0, hx] <;> omega); simp [hb0, hx])
 exact Zx
 refine ⟨hb0, noP_step hi0 hb0 hb1, Wz.to rfl rfl rfl ?_⟩
 simp
 have hkl : k0 = l.length := by omega
 subst hkl
 have hres := idxP_no hi0
 refine W.exit ?_
 apply Zr; intros
 refine Zo ?_; simp
 exact Zx
 refine W.ret (Zq ?_)
 simp [Tryz.f189, hres]
/-- block B is a map of just these keys, each with 'true' -/
def SetOf (w : World) (B : Nat) (ks : List ByteArray) : Prop := ∃ es clock, w.heap[B]? = some (.map es clock) ∧ es.toList.map (fun e => (e.key, e.val)) = ks.map (fun s => (Value.string s, Value.bool true))
theorem find_set (s : ByteArray) : ∀ (es : List MapEntry) (ks : List ByteArray) (i : Nat), es.map (fun e => (e.key, e.val)) = ks.map (fun s => (Value.string s, Value.bool true)) →
  (hasS ks s = true → ∃ j, Instr.findNow .string (.string s) es i = some (some (j, .bool true))) ∧ (hasS ks s = false → Instr.findNow .string (.string s) es i = some none)
 | [], [], i, _ => ⟨fun h => by simp [hasS] at h, fun _ => rfl⟩
 | [], _ :: _, _, h => by simp at h
 | _ :: _, [], _, h => by simp at h
 | e :: es, k :: ks, i, h => by
  simp only [List.map_cons, List.cons.injEq, Prod.mk.injEq] at h
  obtain ⟨⟨h1, h2⟩, h3⟩ := h
  have ih := find_set s es ks (i + 1) h3
  have e0 : Instr.findNow .string (.string s) (e :: es) i = if s = k then some (some (i, .bool true)) else Instr.findNow .string (.string s) es (i + 1) := by
   show (match Instr.sameNow .string (.string s) e.key with
    | some true => some (some (i, e.val))
    | some false => Instr.findNow .string (.string s) es (i + 1)
    | none => none) = _
   rw [h1, h2]
   by_cases q : s = k
   ·have : Instr.sameNow .string (.string s) (.string k) = some true := by show some (s == k) = _; rw [(Go.MapKept.bytes_beq s k).2 q]
    rw [this, if_pos q]
   ·have : Instr.sameNow .string (.string s) (.string k) = some false := by show some (s == k) = _; congr 1; cases hb : s == k with
     | false => rfl
     | true => exact absurd ((Go.MapKept.bytes_beq s k).1 hb) q
    rw [this, if_neg q]
  rw [e0]
  have e1 : hasS (k :: ks) s = (decide (k = s) || hasS ks s) := rfl
  rw [e1]
  by_cases q : s = k
  ·simp [q]
  ·have q2 : ¬ k = s := fun e => q e.symm
   simp only [if_neg q, decide_eq_false q2, Bool.false_or]
   exact ih
theorem run_has {P : Program} {w : World} {B : Nat} {ks : List ByteArray} (h : SetOf w B ks) {T k e : TypeId} (hT : P.underlying T = some (.map k e)) (hk : P.underlying k = some .string) (hz : ∀ w, (zeroValue e).run P w = .ok (.bool false) w) (s : ByteArray) :
  (Instr.lookup T (.map (some B)) (.string s) false).run P w = .ok (.bool (hasS ks s)) w := by
 obtain ⟨es, clock, hb, he⟩ := h
 obtain ⟨f1, f2⟩ := find_set s es.toList ks 0 he
 unfold Instr.lookup
 simp only [Sem.run_bind, run_underlying hT, Result.andThen_ok, Go.MapKept.run_getObj_map hb, Sem.run_pure]
 have hc : ∀ b, (Instr.checkKey b 10000 k (.string s)).run P w = .ok () w := fun b => by
  unfold Instr.checkKey
  simp [run_underlying hk]
 simp only [hc, Result.andThen_ok, Instr.findKey, Sem.run_bind, run_underlying hk]
 cases hs : hasS ks s with
 | true => obtain ⟨j, e⟩ := f1 hs; simp [e]
 | false => simp [f2 hs, hz]
theorem run_put {P : Program} {w : World} {B : Nat} {ks : List ByteArray} (h : SetOf w B ks) {T k e : TypeId} (hT : P.underlying T = some (.map k e)) (hk : P.underlying k = some .string) (s : ByteArray) (hs : hasS ks s = false) :
  ∃ w', (Instr.mapUpdate T (.map (some B)) (.string s) (.bool true)).run P w = .ok () w' ∧ SetOf w' B (ks ++ [s]) ∧ Below B w w' := by
 obtain ⟨es, clock, hb, he⟩ := h
 obtain ⟨-, f2⟩ := find_set s es.toList ks 0 he
 have hc : (Instr.checkKey false 10000 k (.string s)).run P w = .ok () w := by
  unfold Instr.checkKey
  simp [run_underlying hk]
 have hlt : B < w.heap.size := (Array.getElem?_eq_some_iff.1 hb).1
 refine ⟨{ w with heap := w.heap.setIfInBounds B (.map (es.push ⟨.string s, .bool true, clock⟩) (clock + 1)) }, ?_, ⟨es.push ⟨.string s, .bool true, clock⟩, clock + 1, ?_, ?_⟩, ⟨rfl, rfl, rfl, by simp, fun b hB => ?_⟩⟩
 ·unfold Instr.mapUpdate
  simp only [Sem.run_bind, run_underlying hT, Result.andThen_ok, Go.MapKept.run_getObj_map hb, hc, Instr.findKey, run_underlying hk, f2 hs, Sem.run_pure]
  exact Go.MapKept.run_setObj_map _ hb
 ·simp [hlt]
 ·rw [Array.toList_push, List.map_append, List.map_append, he]; rfl
 ·have : B ≠ b := by omega
  simp [this]
theorem SetOf.new (w : World) : SetOf (w.alloc (.map #[] 0)) w.heap.size [] := ⟨#[], 0, heap_alloc_new w _, rfl⟩
set_option maxHeartbeats 1000000 in
theorem allDist_w (l : List ByteArray) (hl : l.length ≤ 134217728) (w : World) (a : Option Addr) (cap : Nat)
  (hE : ∀ k (hk : k < l.length), ∃ g off, a = some ⟨g, off, none⟩ ∧ g < w.heap.size ∧ w.cell? ⟨g, off + k, none⟩ = some (.string l[k])) :
  Calls Tryz.prog 49 #[.slice a l.length cap] w fun e w' => e = .returned (.bool (dst l)) ∧ Below w.heap.size w w' := by
 go_enter Tryz.func49, Tryz.ntmps49
 go_wp2
 rw [run_makeMap]
 go_wp2
 have H0 : Hid (∀ j, j < 0 → dstAt l j = true) := by intro j hj; omega
 go_loopw [9] (fun i wr => ∃ (k : Nat), k ≤ l.length ∧ i = .int .i64 k ∧ SetOf wr w.heap.size (l.take k) ∧ Hid (∀ j, j < k → dstAt l j = true) ∧ Below w.heap.size w wr) (fun i _ => l.length - (intOf i).toNat)
 case atStart => exact ⟨0, Nat.zero_le _, rfl, SetOf.new w, H0, (Below.refl _ _).alloc (Nat.le_refl _) _⟩
 case round =>
  clear H0
  obtain ⟨k, hk, rfl, hset, Hd, hB⟩ := hrel
  by_cases h1 : k < l.length
  ·obtain ⟨g, off, rfl, hg, hc⟩ := hE k h1
   have hc2 : wr.cell? ⟨g, off + k, none⟩ = some (.string l[k]) := by rw [(bcell hB).1 g _ hg]; exact hc
   have hz : ∀ w, (zeroValue 4).run Tryz.prog w = .ok (.bool false) w := fun w => by first | exact Tryz.zeroValue4 w | rfl
   cases hh : hasS (l.take k) l[k] with
   | true =>
    go_wp2
    rw [run_has hset (T := 165) (k := 9) (e := 4) (by kernel_rfl) (by kernel_rfl) hz, hh]
    go_wp2
    go_ret
    exact ⟨by rw [dst_no h1 hh]; rfl, hB⟩
   | false =>
    have hd2 : dstAt l k = true := by rw [dstAt_eq h1, hh]; rfl
    obtain ⟨w1, m1, m2, m3⟩ := run_put (P := Tryz.prog) hset (T := 165) (k := 9) (e := 4) (by kernel_rfl) (by kernel_rfl) l[k] hh
    have e1 : l.take k ++ [l[k]] = l.take (k + 1) := (List.take_succ_eq_append_getElem h1).symm
    rw [e1] at m2
    go_wp2
    rw [run_has hset (T := 165) (k := 9) (e := 4) (by kernel_rfl) (by kernel_rfl) hz, hh]
    go_wp2
    go_roundw
    case rel => exact ⟨k + 1, h1, by go_num, m2, step_all Hd.out hd2, hB.trans m3⟩
    case measure => simp [intOf]; omega
  ·obtain rfl : k = l.length := by omega
   go_wp2
   go_ret
   exact ⟨by rw [dst_yes Hd.out]; rfl, hB⟩
theorem rp_strs {w : World} {F : Nat → Nat} (hF : ∀ b, w.heap.size ≤ b → F b = 0) {l : List ByteArray} {cs : List Value} (h : rp w F (.sl false .one (l.map dS)) cs []) :
  ∃ a cap, cs = [.slice a l.length cap] ∧ ∀ k (hk : k < l.length), ∃ b off, a = some ⟨b, off, none⟩ ∧ b < w.heap.size ∧ w.cell? ⟨b, off + k, none⟩ = some (.string l[k]) := by
 simp only [rp] at h
 obtain ⟨hs, hp, a, cap, h1, h2, h3, h4, h5⟩ := h
 refine ⟨a, cap, by simpa using h1, fun k hk => ?_⟩
 rcases h5 with ⟨-, h5, -⟩ | ⟨b, off, r, ha, he, hf, h6⟩
 ·have : l = [] := by simpa using h5
  subst this; simp at hk
 ·obtain ⟨c, bk, g1, g2, -⟩ := rpE.get (l.map dS) off r hs he k (dS l[k]) (by simp [List.getElem?_eq_getElem hk])
  refine ⟨b, off, ha, ?_, ?_⟩
  ·rcases Nat.lt_or_ge b w.heap.size with q | q
   ·exact q
   ·have := hF b q
    simp [Sh.w] at hf; omega
  ·have e : dS l[k] = .lf (.string l[k]) := rfl
   rw [e] at g2
   simp only [rp] at g2
   rw [g2.1] at g1
   have := g1 0 (.string l[k]) rfl
   simpa [Sh.w] using this
theorem iDst_d (l : List ByteArray) (hl : l.length ≤ 134217728) (h : HP) : CS cx.P 49 [.d (.sl false .one (l.map dS))] h (.d (.lf (.bool (dst l)))) h := by
 refine CS.ofVal (c := cx) (args := [.sl false .one (l.map dS)]) (v := .bool (dst l)) (fun w F => ⟨?_, rfl⟩) (fun w vs ⟨F, hF, _, hn, hv⟩ => ?_) h
 ·simp only [rp, okLeaf]
  exact ⟨trivial, trivial, trivial⟩
 ·obtain ⟨c0, h0, e0⟩ := hv 0 _ rfl
  have ev : (DD.sl false .one (l.map dS)).vw = .sl false .one (l.map dS) := by simp only [DD.vw, DD.vws_eq, List.map_map]; rfl
  rw [ev] at h0
  obtain ⟨a, cap, rfl, hE⟩ := rp_strs hF h0
  match vs, hn, e0 with
  | [u], _, e0 =>
   simp [DD.mk] at e0
   subst e0
   exact allDist_w l hl w a cap hE
end Go.Proofs.YtdooklofebdknaaGreat
