/- What this file proves: one part of the proof that the law answers true for every input, by an interpreter that is proved sound against the given model. -/
import Derived.Test.YtldplidcfhphhaaGreatFa
namespace Gv
open Go (IntKind BinOp UnOp)

/-! ### An operation tells the same where its operands do -/
section
variable {ρ ρ' : PO → PV} (hc : ∀ v, ρ (.c v) = ρ' (.c v))
include hc
theorem po_congr {x : PO} (h : ∀ t ∈ x.ts, ρ (.t t) = ρ' (.t t)) : ρ x = ρ' x := by
  cases x with
  | t t => exact h t (List.mem_singleton.2 rfl)
  | c v => exact hc v
theorem evL_congr : ∀ {xs : List PO}, (∀ t ∈ tsL xs, ρ (.t t) = ρ' (.t t)) → evL ρ xs = evL ρ' xs
  | [], _ => rfl
  | x :: xs, h => by
    simp only [evL]
    rw [po_congr hc (x := x) fun t ht => h t (List.mem_append_left _ ht), evL_congr (xs := xs) fun t ht => h t (List.mem_append_right _ ht)]
theorem evO_congr : ∀ {x : Option PO}, (∀ t ∈ tsO x, ρ (.t t) = ρ' (.t t)) → evO ρ x = evO ρ' x
  | none, _ => rfl
  | some x, h => by simp only [evO]; rw [po_congr hc (x := x) h]
theorem evP_congr : ∀ {ps : List (Nat × Option Nat × PO)}, (∀ t ∈ tsP ps, ρ (.t t) = ρ' (.t t)) → evParts ρ ps = evParts ρ' ps
  | [], _ => rfl
  | (_, _, x) :: ps, h => by
    simp only [evParts]
    rw [po_congr hc (x := x) fun t ht => h t (List.mem_append_left _ ht), evP_congr (ps := ps) fun t ht => h t (List.mem_append_right _ ht)]
theorem sem_congr {RO : Nat → List Bool} {C : CallF} {op : IOp} (h : ∀ t ∈ op.ts, ρ (.t t) = ρ' (.t t)) : sem RO C ρ op = sem RO C ρ' op := by
  have l : ∀ {a b : List Nat}, (∀ t ∈ a ++ b, ρ (.t t) = ρ' (.t t)) → ∀ t ∈ a, ρ (.t t) = ρ' (.t t) := fun h t ht => h t (List.mem_append_left _ ht)
  have r : ∀ {a b : List Nat}, (∀ t ∈ a ++ b, ρ (.t t) = ρ' (.t t)) → ∀ t ∈ b, ρ (.t t) = ρ' (.t t) := fun h t ht => h t (List.mem_append_right _ ht)
  cases op <;> simp only [IOp.ts] at h <;> simp only [sem]
  all_goals first
    | rfl
    | rw [po_congr hc h]
    | rw [evL_congr hc h]
    | rw [evP_congr hc h]
    | rw [po_congr hc (l h), po_congr hc (r h)]
    | rw [po_congr hc (l h), evL_congr hc (r h)]
    | rw [po_congr hc (l (l h)), po_congr hc (r (l h)), po_congr hc (r h)]
    | rw [po_congr hc (l (l h)), evO_congr hc (r (l h)), evO_congr hc (r h)]
    | rw [po_congr hc (l (l (l h))), evO_congr hc (r (l (l h))), evO_congr hc (r (l h)), evO_congr hc (r h)]
end

/-! ### One operation -/
noncomputable def evA (A : As) : PO → PV
  | .t t => getA A t
  | .c v => v
noncomputable def evR (A loc : As) : PO → PV
  | .t t => getL A loc t
  | .c v => v
noncomputable def wR {β : Type} (A loc : As) (g : Option (Nat × Bool)) (yes no : Option β) : Option β :=
  Option.casesOn g yes fun p => Prod.casesOn p fun t b => match getL A loc t with
    | .bool c => Bool.casesOn c (Bool.casesOn b yes no) (Bool.casesOn b no yes)
    | .tup vs => List.casesOn vs no fun _ _ => none
    | _ => none
noncomputable def putL {β : Type} (dst : Option Nat) (v : PV) (loc : As) (k : As → β) : β := Option.casesOn dst (k loc) fun d => k ((d, v) :: loc)
noncomputable def opR {β : Type} (RO : Nat → List Bool) (C : CallF) (ρ : PO → PV) (op : IOp) (h : Heap) (k : PV → Heap → Option β) : Option β :=
  match op with
  | .mov x => fPV0 (ρ x) fun v => k v h
  | .pick c a b => (match ρ c with | .bool c => Bool.casesOn c (fPV0 (ρ b) fun v => k v h) (fPV0 (ρ a) fun v => k v h) | _ => none)
  | .build zero ps => rFill ρ ps zero fun cs => k (.agg cs) h
  | .bin op x y => binK op (ρ x) (ρ y) fun v => k v h
  | .field sz x off => (match ρ x with | .agg cs => rLoadC cs off sz fun v => fPV0 v fun v => k v h | _ => none)
  | .extract x i => (match ρ x with | .tup vs => Option.casesOn (rNth vs i) none fun v => fPV0 v fun v => k v h | _ => none)
  | .load sz x => rLoad sz (ρ x) h fun v => fPV0 v fun v => k v h
  | .store sz x y => rStore sz (ρ x) (ρ y) h fun h => k .junk h
  | .call f args s => rCall C (RO f) f (evL ρ args) s h k
  | .callD f args s n => rFree h (fun s => rCall C (RO f) f (evL ρ args) s h k) n s
  | op => rRun (sem RO C ρ op) h fun v h => rPV2 v fun v => k v h
theorem opR_eq {β : Type} {RO : Nat → List Bool} {C : CallF} {ρ : PO → PV} {op : IOp} {h : Heap} {k : PV → Heap → Option β} : opR RO C ρ op h k = match (sem RO C ρ op).run h with | some (v, h') => k v h' | none => none := by
  unfold opR
  split
  · simp only [sem, HM.run, fPV0_eq]
  · rename_i c a b
    simp only [sem]
    unfold pickPV
    cases hx : ρ c with
    | bool c => cases c <;> simp only [fPV0_eq, HM.run]
    | _ => rfl
  · rename_i zero ps
    rw [rFill_eq]; simp only [sem]; unfold buildHM
    cases fillPV zero (evParts ρ ps) <;> rfl
  · rename_i op x y
    rw [binK_eq]; simp only [sem]
    cases bin op (ρ x) (ρ y) <;> rfl
  · rename_i sz x off
    simp only [sem]; unfold fieldPV
    cases hx : ρ x with
    | agg cs => simp only [rLoadC_eq, fPV0_eq]; cases loadC cs off sz <;> rfl
    | _ => rfl
  · rename_i x i
    simp only [sem]; unfold extractPV
    cases hx : ρ x with
    | tup vs => simp only [rNth_eq, fPV0_eq]; cases vs[i]? <;> rfl
    | _ => rfl
  · rename_i sz x
    rw [rLoad_eq]
    simp only [sem, fPV0_eq]
    cases hr : (loadHM sz (ρ x)).run h with
    | none => rfl
    | some p =>
      obtain ⟨v, h'⟩ := p
      have := loadHM_heap hr
      subst this; rfl
  · rename_i sz x y
    rw [rStore_eq]
    simp only [sem]
    cases hr : (storeHM sz (ρ x) (ρ y)).run h with
    | none => rfl
    | some p =>
      obtain ⟨v, h'⟩ := p
      have := storeHM_junk hr
      subst this; rfl
  · rename_i f args s
    rw [rCall_eq]; simp only [sem]
    cases (callHM C (RO f) f (evL ρ args) s).run h <;> rfl
  · simp only [rCall_eq, sem]
    exact rFree_eq _ _
  · rw [rRun_eq]; simp only [rPV2_eq]
    cases (sem RO C ρ op).run h <;> rfl
noncomputable def opTR {β : Type} (RO : Nat → List Bool) (C : CallF) (ρ : PO → PV) (op : IOp) (h : Heap) (k : PV → Heap → List Ref → List Ref → Option β) : Option β :=
  match op with
  | .mov x => fPV0 (ρ x) fun v => k v h [] []
  | .pick c a b => (match ρ c with | .bool c => Bool.casesOn c (fPV0 (ρ b) fun v => k v h [] []) (fPV0 (ρ a) fun v => k v h [] []) | _ => none)
  | .build zero ps => rFill ρ ps zero fun cs => k (.agg cs) h [] []
  | .bin op x y => binK op (ρ x) (ρ y) fun v => k v h [] []
  | .call f args s => rCallT C (RO f) f (evL ρ args) s h k
  | op => rRunT (sem RO C ρ op) h fun v h R W => rPV2 v fun v => k v h R W
theorem opTR_eq {β : Type} {RO : Nat → List Bool} {C : CallF} {ρ : PO → PV} {op : IOp} {h : Heap} {k : PV → Heap → List Ref → List Ref → Option β} : opTR RO C ρ op h k = match (sem RO C ρ op).runT h with | some (v, h', R, W) => k v h' R W | none => none := by
  unfold opTR
  split
  · simp only [sem, HM.runT, fPV0_eq]
  · rename_i c a b
    simp only [sem]
    unfold pickPV
    cases hx : ρ c with
    | bool c => cases c <;> simp only [fPV0_eq, HM.runT]
    | _ => rfl
  · rename_i zero ps
    rw [rFill_eq]; simp only [sem]; unfold buildHM
    cases fillPV zero (evParts ρ ps) <;> rfl
  · rename_i op x y
    rw [binK_eq]; simp only [sem]
    cases bin op (ρ x) (ρ y) <;> rfl
  · rename_i f args s
    rw [rCallT_eq]; simp only [sem]
    cases (callHM C (RO f) f (evL ρ args) s).runT h <;> rfl
  · rw [rRunT_eq]; simp only [rPV2_eq]
    cases (sem RO C ρ op).runT h <;> rfl

/-! ### Regions -/
noncomputable def stepR {β : Type} (RO : Nat → List Bool) (C : CallF) (A : As) (o : IOper) (loc : As) (h : Heap) (k : As → Heap → Option β) : Option β :=
  IOper.casesOn o fun dst op g _ => wR A loc g (opR RO C (evR A loc) op h fun v h => putL dst v loc fun loc => k loc h) (putL dst (.tup []) loc fun loc => k loc h)
noncomputable def runR {β : Type} (RO : Nat → List Bool) (C : CallF) (A : As) (ops : List IOper) : As → Heap → (As → Heap → Option β) → Option β :=
  List.rec (motive := fun _ => As → Heap → (As → Heap → Option β) → Option β) (fun loc h k => k loc h) (fun o _ ih loc h k => stepR RO C A o loc h fun loc h => ih loc h k) ops
abbrev Acc := List (Nat × Tr)
noncomputable def accA (bef : List Nat) (t : Tr) (acc : Acc) : Bool :=
  List.rec (motive := fun _ => Bool) true (fun x _ ih => Bool.casesOn (rMem x.1 bef) (Bool.casesOn (apart2 x.2 t) false ih) ih) acc
theorem accA_eq (bef : List Nat) (t : Tr) : ∀ acc : Acc, accA bef t acc = acc.all fun x => bef.contains x.1 || apart2 x.2 t
  | [] => rfl
  | x :: xs => by
    have e : accA bef t (x :: xs) = Bool.casesOn (motive := fun _ => Bool) (rMem x.1 bef) (Bool.casesOn (motive := fun _ => Bool) (apart2 x.2 t) false (accA bef t xs)) (accA bef t xs) := rfl
    have hm : rMem x.1 bef = bef.contains x.1 := by
      rw [List.contains_eq_mem]
      by_cases h : x.1 ∈ bef
      · rw [rMem_iff.2 h, decide_eq_true h]
      · rw [decide_eq_false h]
        cases hb : rMem x.1 bef with
        | false => rfl
        | true => exact absurd (rMem_iff.1 hb) h
    rw [e, hm]
    simp only [List.all_cons]
    cases bef.contains x.1 <;> cases apart2 x.2 t <;> simp [accA_eq bef t xs]
/-- What an operation did, for those that may come in another order. -/
noncomputable def trR (ρ : PO → PV) (op : IOp) (h h' : Heap) (R W : List Ref) : Tr := Option.casesOn (crdOf ρ op) ⟨R, W, none, W.map fun r => (r, h.get r, h'.get r)⟩ fun c => ⟨[], [], some c, []⟩
noncomputable def idle (t : Tr) : Bool := Tr.casesOn t fun R W c D => List.casesOn R (List.casesOn W (Option.casesOn c (List.casesOn D true fun _ _ => false) fun _ => false) fun _ _ => false) fun _ _ => false
noncomputable def accK (acc : Acc) (bef : List Nat) (t : Tr) : Bool := Bool.casesOn (idle t) (accA bef t acc) true
noncomputable def accP (j : Nat) (t : Tr) (acc : Acc) : Acc := Bool.casesOn (idle t) ((j, t) :: acc) acc
noncomputable def runDR {β : Type} (RO : Nat → List Bool) (C : CallF) (A : As) (ops : List IOper) : Nat → Acc → As → Heap → (As → Heap → Option β) → Option β :=
  List.rec (motive := fun _ => Nat → Acc → As → Heap → (As → Heap → Option β) → Option β) (fun _ _ loc h k => k loc h)
    (fun o _ ih j acc loc h k => IOper.casesOn o fun dst op g bef => wR A loc g
      (opTR RO C (evR A loc) op h fun v h' R W => Bool.casesOn (accK acc bef (trR (evR A loc) op h h' R W)) none (putL dst v loc fun loc' => fNat (Nat.succ j) fun j' => ih j' (accP j (trR (evR A loc) op h h' R W) acc) loc' h' k))
      (putL dst (.tup []) loc fun loc => fNat (Nat.succ j) fun j' => ih j' acc loc h k)) ops
noncomputable def regR {β : Type} (K : Nat) (RO : Nat → List Bool) (C : CallF) (ops : List IOper) (d : Bool) (A : As) (h : Heap) (k : As → Heap → Option β) : Option β :=
  Bool.casesOn d (runR RO C A ops [] h fun loc h => flush K loc A fun A => k A h) (runDR RO C A ops 0 [] [] h fun loc h => flush K loc A fun A => k A h)
noncomputable def loopR {β : Type} (body : As → Heap → (Ex → As → Heap → Option β) → Option β) (n : Nat) : As → Heap → (Ex → As → Heap → Option β) → Option β :=
  Nat.rec (motive := fun _ => As → Heap → (Ex → As → Heap → Option β) → Option β) (fun _ _ _ => none) (fun _ ih A h k => body A h fun ex A h => Ex.casesOn ex (ih A h k) (fun i => k (.exit i) A h) (k .ret A h)) n
noncomputable def execR {β : Type} (K : Nat) (RO : Nat → List Bool) (C : CallF) (L : Nat) (c : ICode) : As → Heap → (Ex → As → Heap → Option β) → Option β :=
  ICode.rec (motive := fun _ => As → Heap → (Ex → As → Heap → Option β) → Option β)
    (fun A h k => k .norm A h)
    (fun ops d A h k => regR K RO C ops d A h fun A h => k .norm A h)
    (fun _ _ ia ib A h k => ia A h fun ex A h => Ex.casesOn ex (ib A h k) (fun i => k (.exit i) A h) (k .ret A h))
    (fun c _ _ ix iy A h k => match evA A c with | .bool b => Bool.casesOn b (iy A h k) (ix A h k) | _ => none)
    (fun id _ ic A h k => ic A h fun ex A h => Ex.casesOn ex (k .norm A h) (fun i => Bool.casesOn (Nat.beq i id) (k (.exit i) A h) (k .norm A h)) (k .ret A h))
    (fun _ ic A h k => loopR ic L A h k)
    (fun i A h k => k (.exit i) A h)
    (fun A h k => k .ret A h)
    (fun _ _ _ _ _ _ _ => none) c

/-! ### What is used is kept -/
noncomputable def okT (n K : Nat) (defs : List Nat) (t : Nat) : Bool := (Nat.ble (Nat.succ t) n && tb K t) || rMem t defs
noncomputable def okG (n K : Nat) (defs : List Nat) : Option (Nat × Bool) → Bool
  | none => true
  | some (t, _) => okT n K defs t
noncomputable def okOps (n K : Nat) : List IOper → List Nat → Bool
  | [], _ => true
  | o :: os, defs => okG n K defs o.guard && o.op.ts.all (okT n K defs) && (match o.dst with | none => okOps n K os defs | some d => Nat.ble (Nat.succ d) n && okOps n K os (d :: defs))
noncomputable def okC (n K : Nat) : ICode → Bool
  | .skip => true
  | .reg ops _ => okOps n K ops []
  | .seq a b => okC n K a && okC n K b
  | .cond c x y => c.ts.all (okT n K []) && okC n K x && okC n K y
  | .block _ c => okC n K c
  | .loop c => okC n K c
  | .exit _ => true
  | .ret => true
  | .kill _ _ _ => false
noncomputable def okRes (n K : Nat) : List IRes → Bool
  | [] => true
  | .tmp t :: rs => okT n K [] t && okRes n K rs
  | .cell _ t :: rs => okT n K [] t && okRes n K rs
structure QF where
  F : IFun
  K : Nat
  ks : List Nat
noncomputable def okQ (q : QF) : Bool := okC q.F.ntmps q.K q.F.body && okRes q.F.ntmps q.K q.F.res && (List.range q.F.ntmps).all fun t => !tb q.K t || rMem t q.ks

structure RA (n K : Nat) (ks : List Nat) (fr : List PV) (A : As) : Prop where
  len : fr.length = n
  keys : A.map Prod.fst = ks
  at_ : ∀ t, t < n → tb K t = true → nth fr t = getA A t
structure RL (n K : Nat) (defs : List Nat) (fr : List PV) (A loc : As) : Prop where
  len : fr.length = n
  at_ : ∀ t, okT n K defs t = true → nth fr t = getL A loc t
theorem okT_nil {n K t : Nat} : okT n K [] t = true ↔ t < n ∧ tb K t = true := by
  unfold okT
  have : rMem t [] = false := rfl
  rw [this, Bool.or_false, Bool.and_eq_true, ble_iff, decide_eq_true_eq]
  exact Iff.rfl
theorem RA.rl {n K : Nat} {ks : List Nat} {fr : List PV} {A : As} (R : RA n K ks fr A) : RL n K [] fr A [] := ⟨R.len, fun t ht => by
  obtain ⟨h1, h2⟩ := okT_nil.1 ht
  exact R.at_ t h1 h2⟩
section
variable {β : Type} {RO : Nat → List Bool} {C : CallF} {n K : Nat}
theorem RL.put {defs : List Nat} {fr : List PV} {A loc : As} (R : RL n K defs fr A loc) {d : Nat} (hd : Nat.ble (Nat.succ d) n = true) (v : PV) : RL n K (d :: defs) (upd fr d v) A ((d, v) :: loc) := by
  have hlt : d < n := Nat.le_of_ble_eq_true hd
  refine ⟨by rw [upd_length]; exact R.len, fun t ht => ?_⟩
  rw [nth_upd, getL_cons, R.len]
  by_cases h : t = d
  · rw [if_pos ⟨h, hlt⟩, if_pos h.symm]
  · rw [if_neg (fun z => h z.1), if_neg (fun z => h z.symm)]
    refine R.at_ t ?_
    unfold okT at ht ⊢
    rw [Bool.or_eq_true] at ht ⊢
    refine ht.imp id (fun hm => ?_)
    have := rMem_iff.1 hm
    rcases List.mem_cons.1 this with z | z
    · exact absurd z h
    · exact rMem_iff.2 z
theorem wR_eq {defs : List Nat} {fr : List PV} {A loc : As} (R : RL n K defs fr A loc) {g : Option (Nat × Bool)} (hg : okG n K defs g = true) (yes no : Option β) :
    wR A loc g yes no = match wanted fr g with | some true => yes | some false => no | none => none := by
  cases g with
  | none => rfl
  | some p =>
    obtain ⟨t, b⟩ := p
    have e := R.at_ t hg
    have e2 : wR A loc (some (t, b)) yes no = match getL A loc t with
      | .bool c => Bool.casesOn (motive := fun _ => Option β) c (Bool.casesOn (motive := fun _ => Option β) b yes no) (Bool.casesOn (motive := fun _ => Option β) b no yes)
      | .tup vs => List.casesOn (motive := fun _ => Option β) vs no fun _ _ => none
      | _ => none := rfl
    rw [e2, ← e]
    simp only [wanted]
    cases nth fr t with
    | bool c => cases c <;> cases b <;> rfl
    | tup vs => cases vs <;> rfl
    | _ => rfl
theorem ev_sem {defs : List Nat} {fr : List PV} {A loc : As} (R : RL n K defs fr A loc) {op : IOp} (hu : op.ts.all (okT n K defs) = true) : sem RO C (evR A loc) op = sem RO C (PO.ev fr) op := by
  refine sem_congr (ρ := evR A loc) (ρ' := PO.ev fr) (fun v => rfl) (fun t ht => ?_)
  rw [List.all_eq_true] at hu
  exact (R.at_ t (hu t ht)).symm
theorem runR_ok {b : β} {A : As} : ∀ {os : List IOper} {defs : List Nat} {fr : List PV} {loc : As} {h : Heap} {k : As → Heap → Option β}, okOps n K os defs = true → RL n K defs fr A loc → runR RO C A os loc h k = some b →
    ∃ fr' loc' h' defs', RL n K defs' fr' A loc' ∧ (∀ d ∈ defs, d ∈ defs') ∧ runOps RO C os ⟨fr, h⟩ = some ⟨fr', h'⟩ ∧ k loc' h' = some b
  | [], defs, fr, loc, h, k, _, R, hs => ⟨fr, loc, h, defs, R, fun d hd => hd, rfl, hs⟩
  | o :: os, defs, fr, loc, h, k, hk, R, hs => by
    have e : runR RO C A (o :: os) loc h k = stepR RO C A o loc h fun loc h => runR RO C A os loc h k := rfl
    rw [e] at hs
    obtain ⟨dst, op, g, bef⟩ := o
    simp only [okOps, Bool.and_eq_true] at hk
    obtain ⟨⟨hg, hu⟩, hd⟩ := hk
    have e2 : stepR RO C A ⟨dst, op, g, bef⟩ loc h (fun loc h => runR RO C A os loc h k) = wR A loc g (opR RO C (evR A loc) op h fun v h => putL dst v loc fun loc => runR RO C A os loc h k) (putL dst (.tup []) loc fun loc => runR RO C A os loc h k) := rfl
    rw [e2, wR_eq R hg] at hs
    have cont : ∀ {v : PV} {h1 : Heap}, (putL dst v loc fun loc => runR RO C A os loc h1 k) = some b → ∃ fr' loc' h' defs', RL n K defs' fr' A loc' ∧ (∀ d ∈ defs, d ∈ defs') ∧ runOps RO C os ⟨putDst fr dst v, h1⟩ = some ⟨fr', h'⟩ ∧ k loc' h' = some b := by
      intro v h1 hp
      cases dst with
      | none => exact runR_ok hd R hp
      | some d =>
        simp only [Bool.and_eq_true] at hd
        obtain ⟨fr', loc', h', defs', r1, r2, r3, r4⟩ := runR_ok hd.2 (R.put hd.1 v) hp
        exact ⟨fr', loc', h', defs', r1, fun d hd => r2 d (List.mem_cons_of_mem _ hd), r3, r4⟩
    simp only [runOps, stepOp]
    split at hs
    · rename_i hw
      rw [opR_eq, ev_sem R hu] at hs
      split at hs
      · rename_i v h1 hr
        obtain ⟨fr', loc', h', defs', r1, r2, r3, r4⟩ := cont hs
        exact ⟨fr', loc', h', defs', r1, r2, by simp only [hw, hr]; exact r3, r4⟩
      · cases hs
    · rename_i hw
      obtain ⟨fr', loc', h', defs', r1, r2, r3, r4⟩ := cont hs
      exact ⟨fr', loc', h', defs', r1, r2, by simp only [hw]; exact r3, r4⟩
    · cases hs
/-- What is kept of those ahead: all that did anything. -/
def AccR (a1 a2 : Acc) : Prop := ∀ x ∈ a2, x ∈ a1 ∨ x.2 = ⟨[], [], none, []⟩
theorem apart2_idle (t : Tr) : apart2 ⟨[], [], none, []⟩ t = true := by
  unfold apart2
  cases t.c with
  | none => unfold apart; simp
  | some c => rfl
theorem apart2_idle' (t : Tr) : apart2 t ⟨[], [], none, []⟩ = true := by
  unfold apart2
  cases t.c with
  | none => unfold apart; simp
  | some c => rfl
theorem idle_eq {t : Tr} (h : idle t = true) : t = ⟨[], [], none, []⟩ := by
  obtain ⟨R, W, c, D⟩ := t
  cases R with
  | cons => cases h
  | nil => cases W with
    | cons => cases h
    | nil => cases c with
      | some => cases h
      | none => cases D with
        | cons => cases h
        | nil => rfl
theorem accK_ok {a1 a2 : Acc} {bef : List Nat} {t : Tr} (hA : AccR a1 a2) (h : accK a1 bef t = true) : a2.all (fun x => bef.contains x.1 || apart2 x.2 t) = true := by
  rw [List.all_eq_true]
  intro x hx
  unfold accK at h
  cases hi : idle t with
  | true => rw [idle_eq hi, apart2_idle', Bool.or_true]
  | false =>
    rw [hi] at h
    have h : accA bef t a1 = true := h
    rcases hA x hx with h1 | h1
    · rw [accA_eq, List.all_eq_true] at h; exact h x h1
    · rw [h1, apart2_idle, Bool.or_true]
theorem accP_ok {a1 a2 : Acc} (j : Nat) (t : Tr) (hA : AccR a1 a2) : AccR (accP j t a1) ((j, t) :: a2) := by
  intro x hx
  unfold accP
  cases hi : idle t with
  | true =>
    rcases List.mem_cons.1 hx with rfl | hx
    · exact .inr (idle_eq hi)
    · exact hA x hx
  | false =>
    rcases List.mem_cons.1 hx with rfl | hx
    · exact .inl (List.mem_cons_self ..)
    · exact (hA x hx).imp (List.mem_cons_of_mem _) id
theorem AccR.skip {a1 a2 : Acc} (j : Nat) (hA : AccR a1 a2) : AccR a1 ((j, ⟨[], [], none, []⟩) :: a2) := by
  intro x hx
  rcases List.mem_cons.1 hx with rfl | hx
  · exact .inr rfl
  · exact hA x hx
theorem crd_congr {ρ ρ' : PO → PV} (hc : ∀ v, ρ (.c v) = ρ' (.c v)) {op : IOp} (h : ∀ t ∈ op.ts, ρ (.t t) = ρ' (.t t)) : crdOf ρ op = crdOf ρ' op := by
  cases op <;> simp only [crdOf]
  rename_i sz x
  rw [po_congr hc (x := x) h]
theorem runDR_ok {b : β} {A : As} : ∀ {os : List IOper} {j : Nat} {acc acc2 : Acc} {defs : List Nat} {fr : List PV} {loc : As} {h : Heap} {k : As → Heap → Option β}, okOps n K os defs = true → RL n K defs fr A loc → AccR acc acc2 → runDR RO C A os j acc loc h k = some b →
    ∃ fr' loc' h' defs', RL n K defs' fr' A loc' ∧ (∀ d ∈ defs, d ∈ defs') ∧ runOpsD2 RO C j acc2 os ⟨fr, h⟩ = some ⟨fr', h'⟩ ∧ k loc' h' = some b
  | [], j, acc, acc2, defs, fr, loc, h, k, _, R, _, hs => ⟨fr, loc, h, defs, R, fun d hd => hd, rfl, hs⟩
  | o :: os, j, acc, acc2, defs, fr, loc, h, k, hk, R, hA, hs => by
    obtain ⟨dst, op, g, bef⟩ := o
    have e : runDR RO C A (⟨dst, op, g, bef⟩ :: os) j acc loc h k = wR A loc g
        (opTR RO C (evR A loc) op h fun v h' Rs Ws => Bool.casesOn (motive := fun _ => Option β) (accK acc bef (trR (evR A loc) op h h' Rs Ws)) none (putL dst v loc fun loc' => fNat (Nat.succ j) fun j' => runDR RO C A os j' (accP j (trR (evR A loc) op h h' Rs Ws) acc) loc' h' k))
        (putL dst (.tup []) loc fun loc => fNat (Nat.succ j) fun j' => runDR RO C A os j' acc loc h k) := rfl
    simp only [okOps, Bool.and_eq_true] at hk
    obtain ⟨⟨hg, hu⟩, hd⟩ := hk
    rw [e, wR_eq R hg] at hs
    have cont : ∀ {v : PV} {h1 : Heap} {a1 a2 : Acc}, AccR a1 a2 → (putL dst v loc fun loc' => fNat (Nat.succ j) fun j' => runDR RO C A os j' a1 loc' h1 k) = some b →
        ∃ fr' loc' h' defs', RL n K defs' fr' A loc' ∧ (∀ d ∈ defs, d ∈ defs') ∧ runOpsD2 RO C (j + 1) a2 os ⟨putDst fr dst v, h1⟩ = some ⟨fr', h'⟩ ∧ k loc' h' = some b := by
      intro v h1 a1 a2 ha hp
      cases dst with
      | none =>
        have hp : (fNat (Nat.succ j) fun j' => runDR RO C A os j' a1 loc h1 k) = some b := hp
        rw [fNat_eq] at hp
        exact runDR_ok hd R ha hp
      | some d =>
        have hp : (fNat (Nat.succ j) fun j' => runDR RO C A os j' a1 ((d, v) :: loc) h1 k) = some b := hp
        rw [fNat_eq] at hp
        simp only [Bool.and_eq_true] at hd
        obtain ⟨fr', loc', h', defs', r1, r2, r3, r4⟩ := runDR_ok hd.2 (R.put hd.1 v) ha hp
        exact ⟨fr', loc', h', defs', r1, fun d hd => r2 d (List.mem_cons_of_mem _ hd), r3, r4⟩
    have hcr : crdOf (evR A loc) op = crdOf (PO.ev fr) op := crd_congr (ρ := evR A loc) (ρ' := PO.ev fr) (fun v => rfl) (fun t ht => by
      rw [List.all_eq_true] at hu
      exact (R.at_ t (hu t ht)).symm)
    simp only [runOpsD2, stepT]
    split at hs
    · rename_i hw
      rw [opTR_eq, ev_sem R hu] at hs
      split at hs
      · rename_i v h1 Rs Ws hr
        have htr : trR (evR A loc) op h h1 Rs Ws = trOf ⟨dst, op, g, bef⟩ ⟨fr, h⟩ ⟨putDst fr dst v, h1⟩ Rs Ws := by
          unfold trOf trR
          simp only [hw, hcr]
          cases crdOf (PO.ev fr) op <;> rfl
        rw [htr] at hs
        cases ha : accK acc bef (trOf ⟨dst, op, g, bef⟩ ⟨fr, h⟩ ⟨putDst fr dst v, h1⟩ Rs Ws) with
        | false => rw [ha] at hs; cases hs
        | true =>
          rw [ha] at hs
          obtain ⟨fr', loc', h', defs', r1, r2, r3, r4⟩ := cont (accP_ok j _ hA) hs
          refine ⟨fr', loc', h', defs', r1, r2, ?_, r4⟩
          simp only [hw, hr]
          rw [if_pos (accK_ok hA ha)]; exact r3
      · cases hs
    · rename_i hw
      obtain ⟨fr', loc', h', defs', r1, r2, r3, r4⟩ := cont (hA.skip j) hs
      refine ⟨fr', loc', h', defs', r1, r2, ?_, r4⟩
      have htr : trOf ⟨dst, op, g, bef⟩ ⟨fr, h⟩ ⟨putDst fr dst (.tup []), h⟩ [] [] = ⟨[], [], none, []⟩ := by
        unfold trOf
        simp only [hw]
      simp only [hw, htr]
      rw [if_pos (List.all_eq_true.2 fun x _ => by rw [apart2_idle', Bool.or_true])]; exact r3
    · cases hs
theorem RL.flush {ks : List Nat} {defs : List Nat} {fr : List PV} {A loc : As} (R : RL n K defs fr A loc) (hk : A.map Prod.fst = ks) (hks : ∀ t, t < n → tb K t = true → t ∈ ks) (k : As → Option β) : ∃ A', flush K loc A k = k A' ∧ RA n K ks fr A' := by
  obtain ⟨A', e1, e2, e3⟩ := flush_ok K loc A k
  refine ⟨A', e1, R.len, by rw [e2, hk], fun t ht hb => ?_⟩
  rw [e3 t hb (by rw [hk]; exact hks t ht hb)]
  refine R.at_ t ?_
  unfold okT
  rw [Bool.or_eq_true, Bool.and_eq_true]
  exact .inl ⟨Nat.ble_eq_true_of_le ht, hb⟩
end
abbrev ROof (FT : Nat → Option IFun) : Nat → List Bool := fun f => match FT f with | some F => F.ro | none => []
section
variable {β : Type} {FT : Nat → Option IFun} {C : CallF} {N L n K : Nat} {ks : List Nat}
theorem reg_ok (hC : CLe C (callE FT N)) (hks : ∀ t, t < n → tb K t = true → t ∈ ks) {b : β} {ops : List IOper} {d : Bool} {fr : List PV} {A : As} {h : Heap} {k : As → Heap → Option β} (ho : okOps n K ops [] = true) (R : RA n K ks fr A)
    (hs : regR K (ROof FT) C ops d A h k = some b) : ∃ fr' A' h', RA n K ks fr' A' ∧ exec FT (N + 1) (.reg ops d) ⟨fr, h⟩ = some (.norm, ⟨fr', h'⟩) ∧ k A' h' = some b := by
  cases d with
  | false =>
    have hs : runR (ROof FT) C A ops [] h (fun loc h => flush K loc A fun A => k A h) = some b := hs
    obtain ⟨fr', loc', h', defs', r1, _, r3, r4⟩ := runR_ok ho R.rl hs
    obtain ⟨A', e1, e2⟩ := r1.flush R.keys hks fun A => k A h'
    rw [e1] at r4
    refine ⟨fr', A', h', e2, ?_, r4⟩
    rw [exec.eq_def]
    show (match runOps (ROof FT) (callE FT N) ops ⟨fr, h⟩ with | some σ' => some (Ex.norm, σ') | none => none) = _
    rw [runOps_le hC r3]
  | true =>
    have hs : runDR (ROof FT) C A ops 0 [] [] h (fun loc h => flush K loc A fun A => k A h) = some b := hs
    obtain ⟨fr', loc', h', defs', r1, _, r3, r4⟩ := runDR_ok (acc2 := []) ho R.rl (fun x hx => by cases hx) hs
    obtain ⟨A', e1, e2⟩ := r1.flush R.keys hks fun A => k A h'
    rw [e1] at r4
    refine ⟨fr', A', h', e2, ?_, r4⟩
    rw [exec.eq_def]
    show (match runOpsD2 (ROof FT) (callE FT N) 0 [] ops ⟨fr, h⟩ with | some σ' => some (Ex.norm, σ') | none => none) = _
    rw [runOpsD2_le hC r3]
theorem loopR_ok {c : ICode} {D : Nat} {b : β}
    (hb : ∀ {fr : List PV} {A : As} {h : Heap} {k : Ex → As → Heap → Option β}, RA n K ks fr A → execR K (ROof FT) C L c A h k = some b → ∃ ex fr' A' h', RA n K ks fr' A' ∧ exec FT D c ⟨fr, h⟩ = some (ex, ⟨fr', h'⟩) ∧ k ex A' h' = some b) :
    ∀ (l : Nat) {fr : List PV} {A : As} {h : Heap} {k : Ex → As → Heap → Option β}, RA n K ks fr A → loopR (execR K (ROof FT) C L c) l A h k = some b →
      ∃ ex fr' A' h', RA n K ks fr' A' ∧ exec FT (D + l + 1) (.loop c) ⟨fr, h⟩ = some (ex, ⟨fr', h'⟩) ∧ k ex A' h' = some b
  | 0, fr, A, h, k, R, hs => by cases hs
  | l + 1, fr, A, h, k, R, hs => by
    have hs : execR K (ROof FT) C L c A h (fun ex A h => Ex.casesOn (motive := fun _ => Option β) ex (loopR (execR K (ROof FT) C L c) l A h k) (fun i => k (.exit i) A h) (k .ret A h)) = some b := hs
    obtain ⟨ex, fr1, A1, h1, R1, e1, k1⟩ := hb R hs
    have e1' := exec_mono (show D ≤ D + (l + 1) by omega) e1
    cases ex with
    | norm =>
      obtain ⟨ex2, fr2, A2, h2, R2, e2, k2⟩ := loopR_ok hb l R1 k1
      refine ⟨ex2, fr2, A2, h2, R2, ?_, k2⟩
      rw [exec.eq_def]; simp only [e1']
      rw [show D + (l + 1) = D + l + 1 by omega]; exact e2
    | exit i =>
      refine ⟨.exit i, fr1, A1, h1, R1, ?_, k1⟩
      rw [exec.eq_def]; simp only [e1']
    | ret =>
      refine ⟨.ret, fr1, A1, h1, R1, ?_, k1⟩
      rw [exec.eq_def]; simp only [e1']
/-- How many rounds E takes. -/
def costE (L : Nat) : ICode → Nat
  | .seq a b => max (costE L a) (costE L b) + 1
  | .cond _ a b => max (costE L a) (costE L b) + 1
  | .block _ c => costE L c + 1
  | .loop c => costE L c + L + 1
  | .kill _ _ c => costE L c + 1
  | .skip => 1
  | .reg _ _ => 1
  | .exit _ => 1
  | .ret => 1
theorem execR_ok (hC : CLe C (callE FT N)) (hks : ∀ t, t < n → tb K t = true → t ∈ ks) {b : β} : ∀ (c : ICode) {fr : List PV} {A : As} {h : Heap} {k : Ex → As → Heap → Option β}, okC n K c = true → RA n K ks fr A → execR K (ROof FT) C L c A h k = some b →
    ∃ ex fr' A' h', RA n K ks fr' A' ∧ exec FT (N + costE L c) c ⟨fr, h⟩ = some (ex, ⟨fr', h'⟩) ∧ k ex A' h' = some b
  | .skip, fr, A, h, k, _, R, hs => ⟨.norm, fr, A, h, R, by rw [costE, exec.eq_def], hs⟩
  | .reg ops d, fr, A, h, k, ho, R, hs => by
    obtain ⟨fr', A', h', r1, r2, r3⟩ := reg_ok (k := fun A h => k .norm A h) hC hks ho R hs
    exact ⟨.norm, fr', A', h', r1, r2, r3⟩
  | .seq x y, fr, A, h, k, ho, R, hs => by
    simp only [okC, Bool.and_eq_true] at ho
    have hs : execR K (ROof FT) C L x A h (fun ex A h => Ex.casesOn (motive := fun _ => Option β) ex (execR K (ROof FT) C L y A h k) (fun i => k (.exit i) A h) (k .ret A h)) = some b := hs
    obtain ⟨ex, fr1, A1, h1, R1, e1, k1⟩ := execR_ok hC hks x ho.1 R hs
    have e1' := exec_mono (show N + costE L x ≤ N + max (costE L x) (costE L y) by omega) e1
    cases ex with
    | norm =>
      obtain ⟨ex2, fr2, A2, h2, R2, e2, k2⟩ := execR_ok hC hks y ho.2 R1 k1
      have e2' := exec_mono (show N + costE L y ≤ N + max (costE L x) (costE L y) by omega) e2
      refine ⟨ex2, fr2, A2, h2, R2, ?_, k2⟩
      rw [costE, ← Nat.add_assoc, exec.eq_def]; simp only [e1', e2']
    | exit i =>
      refine ⟨.exit i, fr1, A1, h1, R1, ?_, k1⟩
      rw [costE, ← Nat.add_assoc, exec.eq_def]; simp only [e1']
    | ret =>
      refine ⟨.ret, fr1, A1, h1, R1, ?_, k1⟩
      rw [costE, ← Nat.add_assoc, exec.eq_def]; simp only [e1']
  | .cond c x y, fr, A, h, k, ho, R, hs => by
    simp only [okC, Bool.and_eq_true] at ho
    obtain ⟨⟨hc0, hx⟩, hy⟩ := ho
    have hev : PO.ev fr c = evA A c := by
      cases c with
      | t t =>
        rw [List.all_eq_true] at hc0
        exact R.rl.at_ t (hc0 t (List.mem_singleton.2 rfl))
      | c v => rfl
    have hs : (match evA A c with | .bool b => Bool.casesOn (motive := fun _ => Option β) b (execR K (ROof FT) C L y A h k) (execR K (ROof FT) C L x A h k) | _ => none) = some b := hs
    rw [← hev] at hs
    split at hs
    · rename_i bb hc
      cases bb with
      | true =>
        obtain ⟨ex, fr1, A1, h1, R1, e1, k1⟩ := execR_ok hC hks x hx R hs
        have e1' := exec_mono (show N + costE L x ≤ N + max (costE L x) (costE L y) by omega) e1
        refine ⟨ex, fr1, A1, h1, R1, ?_, k1⟩
        rw [costE, ← Nat.add_assoc, exec.eq_def]; simp only [hc, e1']
      | false =>
        obtain ⟨ex, fr1, A1, h1, R1, e1, k1⟩ := execR_ok hC hks y hy R hs
        have e1' := exec_mono (show N + costE L y ≤ N + max (costE L x) (costE L y) by omega) e1
        refine ⟨ex, fr1, A1, h1, R1, ?_, k1⟩
        rw [costE, ← Nat.add_assoc, exec.eq_def]; simp only [hc, e1']
    · cases hs
  | .block id c, fr, A, h, k, ho, R, hs => by
    have hs : execR K (ROof FT) C L c A h (fun ex A h => Ex.casesOn (motive := fun _ => Option β) ex (k .norm A h) (fun i => Bool.casesOn (motive := fun _ => Option β) (Nat.beq i id) (k (.exit i) A h) (k .norm A h)) (k .ret A h)) = some b := hs
    obtain ⟨ex, fr1, A1, h1, R1, e1, k1⟩ := execR_ok hC hks c ho R hs
    cases ex with
    | norm =>
      refine ⟨.norm, fr1, A1, h1, R1, ?_, k1⟩
      rw [costE, ← Nat.add_assoc, exec.eq_def]; simp only [e1]
    | exit i =>
      have k1 : Bool.casesOn (motive := fun _ => Option β) (Nat.beq i id) (k (.exit i) A1 h1) (k .norm A1 h1) = some b := k1
      rw [beq_iff] at k1
      by_cases hi : i = id
      · rw [decide_eq_true hi] at k1
        refine ⟨.norm, fr1, A1, h1, R1, ?_, k1⟩
        rw [costE, ← Nat.add_assoc, exec.eq_def]; simp only [e1, if_pos hi]
      · rw [decide_eq_false hi] at k1
        refine ⟨.exit i, fr1, A1, h1, R1, ?_, k1⟩
        rw [costE, ← Nat.add_assoc, exec.eq_def]; simp only [e1, if_neg hi]
    | ret =>
      refine ⟨.ret, fr1, A1, h1, R1, ?_, k1⟩
      rw [costE, ← Nat.add_assoc, exec.eq_def]; simp only [e1]
  | .loop c, fr, A, h, k, ho, R, hs => by
    have hs : loopR (execR K (ROof FT) C L c) L A h k = some b := hs
    obtain ⟨ex, fr1, A1, h1, R1, e1, k1⟩ := loopR_ok (D := N + costE L c) (fun {fr A h k} R hs => execR_ok hC hks c ho R hs) L R hs
    exact ⟨ex, fr1, A1, h1, R1, by rw [costE, show N + (costE L c + L + 1) = N + costE L c + L + 1 by omega]; exact e1, k1⟩
  | .exit i, fr, A, h, k, _, R, hs => ⟨.exit i, fr, A, h, R, by rw [costE, exec.eq_def], hs⟩
  | .ret, fr, A, h, k, _, R, hs => ⟨.ret, fr, A, h, R, by rw [costE, exec.eq_def], hs⟩
  | .kill _ _ _, fr, A, h, k, ho, R, hs => by simp [okC] at ho
end

/-! ### Calls -/
noncomputable def initA {β : Type} (args : List PV) (ks : List Nat) : (As → β) → β :=
  List.rec (motive := fun _ => (As → β) → β) (fun k => k []) (fun t _ ih k => rPV2 (Option.casesOn (rNth args t) .junk id) fun v => ih fun A => k ((t, v) :: A)) ks
theorem initA_ok {β : Type} (args : List PV) : ∀ (ks : List Nat) (k : As → β), ∃ A, initA args ks k = k A ∧ A.map Prod.fst = ks ∧ ∀ t, t ∈ ks → getA A t = nth args t
  | [], k => ⟨[], rfl, rfl, fun t h => by cases h⟩
  | s :: ks, k => by
    have e : initA args (s :: ks) k = rPV2 (Option.casesOn (motive := fun _ => PV) (rNth args s) .junk id) fun v => initA args ks fun A => k ((s, v) :: A) := rfl
    have hn : (Option.casesOn (motive := fun _ => PV) (rNth args s) .junk id) = nth args s := by
      rw [rNth_eq]
      cases h : args[s]? with
      | none => exact (nth_none (List.getElem?_eq_none_iff.1 h)).symm
      | some v => exact (nth_get h).symm
    rw [e, rPV2_eq, hn]
    obtain ⟨A, e1, e2, e3⟩ := initA_ok args ks fun A => k ((s, nth args s) :: A)
    refine ⟨_, e1, by simp [e2], fun t ht => ?_⟩
    rw [getA_cons]
    by_cases h : s = t
    · rw [if_pos h, h]
    · rw [if_neg h]; exact e3 t ((List.mem_cons.1 ht).resolve_left fun z => h z.symm)
noncomputable def resR (A : As) : List IRes → HM (List PV)
  | [] => .ret []
  | .tmp t :: rs => (resR A rs).bind fun vs => .ret (getA A t :: vs)
  | .cell sz t :: rs => (loadHM sz (getA A t)).bind fun v => (resR A rs).bind fun vs => .ret (v :: vs)
theorem resR_eq {n K : Nat} {ks : List Nat} {fr : List PV} {A : As} (R : RA n K ks fr A) : ∀ {rs : List IRes}, okRes n K rs = true → resR A rs = resOf fr rs
  | [], _ => rfl
  | .tmp t :: rs, h => by
    simp only [okRes, Bool.and_eq_true] at h
    simp only [resR, resOf, resR_eq R h.2]
    rw [R.rl.at_ t h.1]; rfl
  | .cell sz t :: rs, h => by
    simp only [okRes, Bool.and_eq_true] at h
    simp only [resR, resOf, resR_eq R h.2]
    rw [R.rl.at_ t h.1]; rfl
def fin2 (frz : Bool) (m : Nat) (vs : List PV) : HM (PV × List (Option Blk)) :=
  (if frz then freezeC 9 (one vs) else .ret (one vs)).bind fun r =>
  (argBlks m 0).bind fun bs =>
  (collectL 99 (toks r ++ blkToks bs) []).bind fun new =>
    let f : Ref → Nat → Option (Ref × Nat) := fun q v => match q with
      | .a i => some (.a i, v)
      | .dead => none
      | .l _ => match idxOf q v new 0 with | some k => some (.l k, 0) | none => none
    .ret (ren f r, bs.map (fun b => match b with | some b => some (b.ren f) | none => none) ++ new.map fun x => some (x.2.2.ren f))
theorem finish_eq2 (F : IFun) (m : Nat) (fr : List PV) : finish F m fr = (resOf fr F.res).bind fun vs => fin2 F.frz m vs := rfl
theorem fin2_plain {frz : Bool} {vs : List PV} (h : plain (one vs) = true) : fin2 frz 0 vs = .ret (one vs, []) := by
  obtain ⟨p1, p2, p3⟩ := plain_ok h fun _ _ => none
  have p2 : ∀ f, ren f (one vs) = one vs := fun f => (plain_ok h f).2.1
  unfold fin2
  have e : (if frz = true then freezeC 9 (one vs) else HM.ret (one vs)) = .ret (one vs) := by
    cases frz
    · rfl
    · rw [if_pos rfl, p3]
  rw [e]
  simp only [HM.bind, argBlks, p1, blkToks, List.append_nil, collectL, p2, List.map_nil]
noncomputable def rOut (x : PV × List (Option Blk)) : Option (PV × List (Option Blk)) := Prod.casesOn x fun r G => rPV2 r fun r => rList rOptB G fun G => some (r, G)
theorem rOut_eq (x : PV × List (Option Blk)) : rOut x = some x := by
  cases x; simp [rOut, rList_eq rOptB_eq]
noncomputable def finR (F : IFun) (m : Nat) (A : As) (h : Heap) : Option (PV × List (Option Blk)) :=
  rRun (resR A F.res) h fun vs h => Nat.casesOn m (Bool.casesOn (plain (one vs)) (rRun (fin2 F.frz 0 vs) h fun x _ => rOut x) (rPV2 (one vs) fun r => some (r, []))) fun m => rRun (fin2 F.frz (Nat.succ m) vs) h fun x _ => rOut x
theorem finR_eq {F : IFun} {m n K : Nat} {ks : List Nat} {fr : List PV} {A : As} {h : Heap} (R : RA n K ks fr A) (ho : okRes n K F.res = true) : finR F m A h = match (finish F m fr).run h with | some (x, _) => some x | none => none := by
  unfold finR
  rw [rRun_eq, resR_eq R ho, finish_eq2, HM.run_bind]
  cases (resOf fr F.res).run h with
  | none => rfl
  | some p =>
    obtain ⟨vs, h1⟩ := p
    cases m with
    | zero =>
      show Bool.casesOn (motive := fun _ => Option (PV × List (Option Blk))) (plain (one vs)) (rRun (fin2 F.frz 0 vs) h1 fun x _ => rOut x) (rPV2 (one vs) fun r => some (r, [])) = _
      cases hp : plain (one vs) with
      | false =>
        simp only [rRun_eq, rOut_eq]
        cases (fin2 F.frz 0 vs).run h1 <;> rfl
      | true => simp only [rPV2_eq, fin2_plain hp, HM.run]
    | succ m =>
      show rRun (fin2 F.frz (m + 1) vs) h1 (fun x _ => rOut x) = _
      simp only [rRun_eq, rOut_eq]
      cases (fin2 F.frz (m + 1) vs).run h1 <;> rfl
noncomputable def rRep (n : Nat) : List Ent := Nat.rec (motive := fun _ => List Ent) [] (fun _ ih => ⟨0, none⟩ :: ih) n
theorem rRep_eq : ∀ n : Nat, rRep n = List.replicate n ⟨0, none⟩
  | 0 => rfl
  | n + 1 => by rw [List.replicate_succ, ← rRep_eq n]; rfl
noncomputable def rGs {β : Type} (G : List Blk) : (List (Option Blk) → β) → β := List.rec (motive := fun _ => (List (Option Blk) → β) → β) (fun k => k []) (fun b _ ih k => rBlk b fun b => ih fun bs => k (some b :: bs)) G
theorem rGs_eq {β : Type} : ∀ (G : List Blk) (k : List (Option Blk) → β), rGs G k = k (G.map some)
  | [], k => rfl
  | b :: G, k => by
    show rBlk b (fun b => rGs G fun bs => k (some b :: bs)) = _
    rw [rBlk_eq, rGs_eq G]; rfl
/-- A call, reckoned so. -/
noncomputable def callR (QT : Nat → Option QF) (RO : Nat → List Bool) (L : Nat) (m : Nat) : CallF :=
  Nat.rec (motive := fun _ => CallF) (fun _ _ _ => none) (fun _ ih f args G => Option.casesOn (QT f) none fun q => QF.casesOn q fun F K ks => Option.casesOn F.intr
    (Bool.casesOn (Nat.ble (rLen args) F.ntmps) none (initA args ks fun A => rGs G fun GA => rList rEnt (rRep F.nslots) fun Ls =>
      execR K RO ih L F.body A ⟨GA, Ls⟩ fun ex A h => Ex.casesOn ex (finR F (rLen G) A h) (fun _ => none) (finR F (rLen G) A h)))
    (fun g => Option.casesOn (g args G) none rOut)) m
theorem callR_ok {QT : Nat → Option QF} {FT : Nat → Option IFun} {L B : Nat} (hQ : ∀ f q, QT f = some q → FT f = some q.F ∧ okQ q = true) (hB : ∀ f F, FT f = some F → costE L F.body ≤ B) : ∀ m, ∃ N, CLe (callR QT (ROof FT) L m) (callE FT N)
  | 0 => ⟨0, fun f a G r h => by cases h⟩
  | m + 1 => by
    obtain ⟨N, hN⟩ := callR_ok hQ hB m
    refine ⟨N + B + 1, fun f a G r h => ?_⟩
    have h : Option.casesOn (motive := fun _ => Option (PV × List (Option Blk))) (QT f) none (fun q => QF.casesOn (motive := fun _ => Option (PV × List (Option Blk))) q fun F K ks => Option.casesOn (motive := fun _ => Option (PV × List (Option Blk))) F.intr
      (Bool.casesOn (motive := fun _ => Option (PV × List (Option Blk))) (Nat.ble (rLen a) F.ntmps) none (initA a ks fun A => rGs G fun GA => rList rEnt (rRep F.nslots) fun Ls =>
        execR K (ROof FT) (callR QT (ROof FT) L m) L F.body A ⟨GA, Ls⟩ fun ex A h => Ex.casesOn (motive := fun _ => Option (PV × List (Option Blk))) ex (finR F (rLen G) A h) (fun _ => none) (finR F (rLen G) A h)))
      (fun g => Option.casesOn (motive := fun _ => Option (PV × List (Option Blk))) (g a G) none rOut)) = some r := h
    cases hq : QT f with
    | none => rw [hq] at h; cases h
    | some q =>
      obtain ⟨hF, hok⟩ := hQ f q hq
      rw [hq] at h
      obtain ⟨F, K, ks⟩ := q
      simp only at h hF hok
      rw [callE, hF]
      simp only
      cases hi : F.intr with
      | some g =>
        rw [hi] at h
        simp only at h ⊢
        cases hg : g a G with
        | none => rw [hg] at h; cases h
        | some x => rw [hg] at h; simp only [rOut_eq] at h; exact h
      | none =>
        rw [hi] at h
        simp only [ble_iff, rLen_eq] at h ⊢
        by_cases hl : a.length ≤ F.ntmps
        case neg => rw [decide_eq_false hl] at h; cases h
        rw [decide_eq_true hl] at h
        unfold okQ at hok
        simp only [Bool.and_eq_true, List.all_eq_true] at hok
        obtain ⟨⟨o1, o2⟩, o3⟩ := hok
        have hks : ∀ t, t < F.ntmps → tb K t = true → t ∈ ks := by
          intro t ht hb
          have := o3 t (List.mem_range.2 ht)
          rw [hb] at this
          exact rMem_iff.1 (by simpa using this)
        obtain ⟨A, e1, e2, e3⟩ := initA_ok a ks fun A => rGs G fun GA => rList rEnt (rRep F.nslots) fun Ls =>
          execR K (ROof FT) (callR QT (ROof FT) L m) L F.body A ⟨GA, Ls⟩ fun ex A h => Ex.casesOn (motive := fun _ => Option (PV × List (Option Blk))) ex (finR F G.length A h) (fun _ => none) (finR F G.length A h)
        simp only at h
        rw [e1, rGs_eq, rList_eq rEnt_eq, rRep_eq] at h
        have R0 : RA F.ntmps K ks (a ++ List.replicate (F.ntmps - a.length) .junk) A := by
          refine ⟨by simp; omega, e2, fun t ht hb => ?_⟩
          rw [e3 t (hks t ht hb), nth_append]
          by_cases hta : t < a.length
          · rw [if_pos hta]
          · rw [if_neg hta, nth_none (by omega)]
        obtain ⟨ex, fr', A', h', R', x1, k1⟩ := execR_ok hN hks F.body o1 R0 h
        have x1' := exec_mono (show N + costE L F.body ≤ N + B by have := hB f F hF; omega) x1
        rw [x1']
        cases ex with
        | norm =>
          have k1 : finR F G.length A' h' = some r := k1
          rw [finR_eq R' o2] at k1
          exact k1
        | exit i => cases k1
        | ret =>
          have k1 : finR F G.length A' h' = some r := k1
          rw [finR_eq R' o2] at k1
          exact k1
end Gv

namespace Gv
open Go (IntKind BinOp UnOp)
noncomputable def okQs (Q : List (Option QF)) : Bool := List.rec (motive := fun _ => Bool) true (fun q _ ih => Option.casesOn q ih fun q => Bool.casesOn (okQ q) false ih) Q
noncomputable def tabQ (Q : List (Option QF)) (f : Nat) : Option QF := Option.casesOn (rNth Q f) none id
noncomputable def roQ (QT : Nat → Option QF) (f : Nat) : List Bool := Option.casesOn (QT f) [] fun q => q.F.ro
theorem okQs_get : ∀ {Q : List (Option QF)} {j : Nat} {q : QF}, okQs Q = true → Q[j]? = some (some q) → okQ q = true
  | [], j, q, _, h => by simp at h
  | none :: Q, 0, q, _, h => by simp at h
  | none :: Q, j + 1, q, hc, h => okQs_get (Q := Q) hc (by simpa using h)
  | some r :: Q, j, q, hc, h => by
    have e : okQs (some r :: Q) = Bool.casesOn (motive := fun _ => Bool) (okQ r) false (okQs Q) := rfl
    rw [e] at hc
    cases hr : okQ r with
    | false => rw [hr] at hc; cases hc
    | true =>
      rw [hr] at hc
      cases j with
      | zero => simp only [List.getElem?_cons_zero, Option.some.injEq] at h; subst h; exact hr
      | succ j => exact okQs_get hc (by simpa using h)
theorem tabQ_eq (Q : List (Option QF)) (f : Nat) : tabQ Q f = (Q[f]?).getD none := by
  unfold tabQ
  rw [rNth_eq]
  cases Q[f]? <;> rfl
theorem tabOf_map (Q : List (Option QF)) (f : Nat) : tabOf (Q.map (Option.map QF.F)) f = (tabQ Q f).map QF.F := by
  unfold tabOf
  rw [List.getD_eq_getElem?_getD, List.getElem?_map, tabQ_eq]
  cases Q[f]? <;> rfl
theorem roQ_eq {QT : Nat → Option QF} {FT : Nat → Option IFun} (h : ∀ f, FT f = (QT f).map QF.F) : roQ QT = ROof FT := by
  funext f
  unfold roQ ROof
  rw [h f]
  cases QT f <;> rfl
theorem tabQ_ok {Q : List (Option QF)} (h : okQs Q = true) {f : Nat} {q : QF} (hq : tabQ Q f = some q) : okQ q = true := by
  rw [tabQ_eq] at hq
  cases hx : Q[f]? with
  | none => rw [hx] at hq; cases hq
  | some x => rw [hx] at hq; simp only [Option.getD_some] at hq; subst hq; exact okQs_get h hx
end Gv

namespace Gv
open Go (IntKind BinOp UnOp)

/-! ### Arguments that are looked at in a few places alone: others that look the same there do the same -/
abbrev Tn := List (Nat × Nat)
def tnAt : Tn → Nat → Option Nat
  | [], _ => none
  | (t, i) :: S, s => if t = s then some i else tnAt S s
/-- What is seen of an argument. -/
inductive Ob where
  | bin (op : BinOp) (i : Nat) (k : PV) (left : Bool)
  | call (f : Nat) (i : Nat) (ks : List PV)
def constsPO : List PO → Option (List PV)
  | [] => some []
  | .c v :: xs => match constsPO xs with | some vs => some (v :: vs) | none => none
  | .t _ :: _ => none
def clnT (S : Tn) (t : Nat) : Bool := match tnAt S t with | none => true | some _ => false
def clnD (S : Tn) : Option Nat → Bool
  | none => true
  | some d => clnT S d
def obOp (S : Tn) (op : IOp) : Option (List Ob) :=
  if op.ts.all (clnT S) then some [] else
  match op with
  | .bin b (.t a) (.c k) => match tnAt S a with | some i => some [.bin b i k true] | none => none
  | .bin b (.c k) (.t a) => match tnAt S a with | some i => some [.bin b i k false] | none => none
  | .call f (.t a :: xs) _ => match tnAt S a, constsPO xs with | some i, some ks => some [.call f i ks] | _, _ => none
  | _ => none
def movT (S : Tn) (o : IOper) : Bool :=
  match o.op, o.dst with
  | .mov (.t a), some d => match tnAt S a, tnAt S d with | some i, some j => i == j | _, _ => false
  | _, _ => false
def clnG (S : Tn) : Option (Nat × Bool) → Bool
  | some (t, _) => clnT S t
  | none => true
def obOper (S : Tn) (o : IOper) : Option (List Ob) :=
  if clnG S o.guard then
    if movT S o then some [] else if clnD S o.dst then obOp S o.op else none
  else none
def obOpers (S : Tn) : List IOper → Option (List Ob)
  | [] => some []
  | o :: os => match obOper S o, obOpers S os with | some a, some b => some (a ++ b) | _, _ => none
def obCode (S : Tn) : ICode → Option (List Ob)
  | .skip => some []
  | .reg ops _ => obOpers S ops
  | .seq a b => match obCode S a, obCode S b with | some a, some b => some (a ++ b) | _, _ => none
  | .cond c x y => if c.ts.all (clnT S) then (match obCode S x, obCode S y with | some a, some b => some (a ++ b) | _, _ => none) else none
  | .block _ c => obCode S c
  | .loop c => obCode S c
  | .exit _ => some []
  | .ret => some []
  | .kill _ _ _ => none
def obRes (S : Tn) : List IRes → Bool
  | [] => true
  | .tmp t :: rs => clnT S t && obRes S rs
  | .cell _ t :: rs => clnT S t && obRes S rs
def flatV : PV → Bool
  | .int .. | .bool _ | .str _ => true
  | _ => false
def ObEq (FT : Nat → Option IFun) (u u' : Nat → PV) : Ob → Prop
  | .bin b i k true => bin b (u i) k = bin b (u' i) k
  | .bin b i k false => bin b k (u i) = bin b k (u' i)
  | .call f i ks => (flatV (u i) && flatV (u' i) && ks.all flatV) = true ∧ ∀ n x, callE FT n f (u' i :: ks) [] = some x → callE FT n f (u i :: ks) [] = some x
/-- Frames that differ in what is not known alone. -/
def Rl (S : Tn) (u u' : Nat → PV) (fr fr' : List PV) : Prop :=
  fr.length = fr'.length ∧ ∀ t, match tnAt S t with | none => nth fr t = nth fr' t | some i => nth fr t = nth fr' t ∨ (nth fr t = u i ∧ nth fr' t = u' i)
theorem Rl.same {S : Tn} {u u' : Nat → PV} {fr fr' : List PV} (h : Rl S u u' fr fr') {t : Nat} (ht : clnT S t = true) : nth fr t = nth fr' t := by
  have := h.2 t
  unfold clnT at ht
  split at ht
  · rename_i e; rw [e] at this; exact this
  · cases ht
theorem Rl.Same {S : Tn} {u u' : Nat → PV} {fr fr' : List PV} (h : Rl S u u' fr fr') {l : List Nat} (hl : l.all (clnT S) = true) : Same fr' fr l := fun t ht => (h.same (List.all_eq_true.1 hl t ht)).symm
theorem Rl.put {S : Tn} {u u' : Nat → PV} {fr fr' : List PV} (h : Rl S u u' fr fr') {dst : Option Nat} (hd : clnD S dst = true) (v : PV) : Rl S u u' (putDst fr dst v) (putDst fr' dst v) := by
  cases dst with
  | none => exact h
  | some d =>
    refine ⟨by simp only [putDst, upd_length]; exact h.1, fun t => ?_⟩
    simp only [putDst, nth_upd, h.1]
    have := h.2 t
    by_cases hc : t = d ∧ d < fr'.length
    · rw [if_pos hc, if_pos hc]
      split
      · rfl
      · exact .inl rfl
    · rw [if_neg hc, if_neg hc]; exact this
theorem roArgs_flat : ∀ (ro : List Bool) (vs : List PV), vs.all flatV = true → roArgs ro vs = .ret (vs, [])
  | [], vs, _ => by cases vs <;> rfl
  | b :: bs, [], _ => by cases b <;> rfl
  | b :: bs, v :: vs, h => by
    simp only [List.all_cons, Bool.and_eq_true] at h
    have hv : freezeR 9 v = .ret (v, []) := by cases v <;> first | rfl | (simp [flatV] at h; done)
    cases b
    · simp only [roArgs, roArgs_flat bs vs h.2]; rfl
    · simp only [roArgs, roArgs_flat bs vs h.2, hv]; rfl
theorem toksL_flat : ∀ (vs : List PV), vs.all flatV = true → toksL vs = []
  | [], _ => rfl
  | v :: vs, h => by
    simp only [List.all_cons, Bool.and_eq_true] at h
    simp only [toksL, toksL_flat vs h.2]
    cases v <;> first | rfl | (simp [flatV] at h; done)
theorem renL_flat (f : Ref → Nat → Option (Ref × Nat)) : ∀ (vs : List PV), vs.all flatV = true → renL f vs = vs
  | [], _ => rfl
  | v :: vs, h => by
    simp only [List.all_cons, Bool.and_eq_true] at h
    simp only [renL, renL_flat f vs h.2]
    cases v <;> first | rfl | (simp [flatV] at h; done)
theorem callHM_flat (C : CallF) (ro : List Bool) (f : Nat) (vs : List PV) (s : Nat) (h : vs.all flatV = true) :
    callHM C ro f vs s = match C f vs [] with | none => .fail | some (r, G) => afterCall [] [] s r G := by
  unfold callHM
  rw [roArgs_flat ro vs h]
  simp only [HM.bind]
  rw [toksL_flat vs h]
  simp only [collect, HM.bind, meetsRef, List.any_nil, Bool.false_eq_true, if_false, List.map_nil]
  rw [renL_flat _ vs h]
  rfl
theorem constsPO_ev {ρ : PO → PV} (hρ : ∀ v, ρ (.c v) = v) : ∀ {xs : List PO} {vs : List PV}, constsPO xs = some vs → evL ρ xs = vs
  | [], vs, h => by simp only [constsPO, Option.some.injEq] at h; subst h; rfl
  | .c v :: xs, vs, h => by
    simp only [constsPO] at h
    split at h
    · rename_i ws e; simp only [Option.some.injEq] at h; subst h; simp only [evL, hρ, constsPO_ev hρ e]
    · cases h
  | .t _ :: _, vs, h => by simp [constsPO] at h
section
variable {FT : Nat → Option IFun} {S : Tn} {u u' : Nat → PV}
theorem sem_swap {n : Nat} {op : IOp} {L : List Ob} (ho : obOp S op = some L) (hL : ∀ ob ∈ L, ObEq FT u u' ob) {fr fr' : List PV} (R : Rl S u u' fr fr') :
    HM.Le (sem (ROof FT) (callE FT n) (PO.ev fr') op) (sem (ROof FT) (callE FT n) (PO.ev fr) op) := by
  unfold obOp at ho
  split at ho
  · rename_i hc
    rw [sem_same (R.Same hc)]
    exact .refl _
  · split at ho
    · rename_i b a k hneg
      split at ho
      · rename_i i hi
        simp only [Option.some.injEq] at ho
        subst ho
        have h1 := hL _ (List.mem_singleton.2 rfl)
        have h2 := R.2 a
        rw [hi] at h2
        simp only [sem, PO.ev]
        rcases h2 with h2 | ⟨h2, h3⟩
        · rw [h2]; exact .refl _
        · rw [h2, h3]
          have h1 : bin b (u i) k = bin b (u' i) k := h1
          rw [h1]; exact .refl _
      · cases ho
    · rename_i b k a hneg
      split at ho
      · rename_i i hi
        simp only [Option.some.injEq] at ho
        subst ho
        have h1 := hL _ (List.mem_singleton.2 rfl)
        have h2 := R.2 a
        rw [hi] at h2
        simp only [sem, PO.ev]
        rcases h2 with h2 | ⟨h2, h3⟩
        · rw [h2]; exact .refl _
        · rw [h2, h3]
          have h1 : bin b k (u i) = bin b k (u' i) := h1
          rw [h1]; exact .refl _
      · cases ho
    · rename_i f a xs s hneg
      split at ho
      · rename_i i ks hi hk
        simp only [Option.some.injEq] at ho
        subst ho
        obtain ⟨h0, h1⟩ := hL _ (List.mem_singleton.2 rfl)
        simp only [Bool.and_eq_true] at h0
        obtain ⟨⟨g1, g2⟩, g3⟩ := h0
        have h2 := R.2 a
        rw [hi] at h2
        simp only [sem, evL]
        rw [constsPO_ev (ρ := PO.ev fr) (fun _ => rfl) hk, constsPO_ev (ρ := PO.ev fr') (fun _ => rfl) hk]
        simp only [PO.ev]
        rcases h2 with h2 | ⟨h2, h3⟩
        · rw [h2]; exact .refl _
        · rw [h2, h3, callHM_flat _ _ _ _ _ (by simp [g2, g3]), callHM_flat _ _ _ _ _ (by simp [g1, g3])]
          cases hx : callE FT n f (u' i :: ks) [] with
          | none => exact .fail _
          | some x => rw [h1 n x hx]; exact .refl _
      · cases ho
    · cases ho
theorem wanted_swap {o : IOper} (hg : clnG S o.guard = true) {fr fr' : List PV} (R : Rl S u u' fr fr') : wanted fr o.guard = wanted fr' o.guard := by
  cases hgd : o.guard with
  | none => rfl
  | some p =>
    obtain ⟨t, b⟩ := p
    rw [hgd] at hg
    simp only [wanted]
    rw [R.same hg]
theorem movT_inv {o : IOper} (h : movT S o = true) : ∃ a d i, o.op = .mov (.t a) ∧ o.dst = some d ∧ tnAt S a = some i ∧ tnAt S d = some i := by
  unfold movT at h
  split at h
  · rename_i a d h1 h2
    split at h
    · rename_i i j h3 h4
      simp only [beq_iff_eq] at h
      subst h
      exact ⟨a, d, i, h1, h2, h3, h4⟩
    · cases h
  · cases h
theorem Rl.mov {fr fr' : List PV} (R : Rl S u u' fr fr') {a d i : Nat} (ha : tnAt S a = some i) (hd : tnAt S d = some i) : Rl S u u' (upd fr d (nth fr a)) (upd fr' d (nth fr' a)) := by
  refine ⟨by rw [upd_length, upd_length]; exact R.1, fun t => ?_⟩
  simp only [nth_upd, R.1]
  have h1 := R.2 t
  have h2 := R.2 a
  rw [ha] at h2
  by_cases hc : t = d ∧ d < fr'.length
  · rw [if_pos hc, if_pos hc, hc.1, hd]; exact h2
  · rw [if_neg hc, if_neg hc]; exact h1
theorem Rl.dead {fr fr' : List PV} (R : Rl S u u' fr fr') {d i : Nat} (hd : tnAt S d = some i) (v : PV) : Rl S u u' (upd fr d v) (upd fr' d v) := by
  refine ⟨by rw [upd_length, upd_length]; exact R.1, fun t => ?_⟩
  simp only [nth_upd, R.1]
  have h1 := R.2 t
  by_cases hc : t = d ∧ d < fr'.length
  · rw [if_pos hc, if_pos hc, hc.1, hd]; exact .inl rfl
  · rw [if_neg hc, if_neg hc]; exact h1
theorem stepOp_swap {n : Nat} {o : IOper} {L : List Ob} (ho : obOper S o = some L) (hL : ∀ ob ∈ L, ObEq FT u u' ob) {fr fr' g' : List PV} {h h1 : Heap} (R : Rl S u u' fr fr')
    (hs : stepOp (ROof FT) (callE FT n) o ⟨fr', h⟩ = some ⟨g', h1⟩) : ∃ g, stepOp (ROof FT) (callE FT n) o ⟨fr, h⟩ = some ⟨g, h1⟩ ∧ Rl S u u' g g' := by
  unfold obOper at ho
  split at ho
  case isFalse => cases ho
  rename_i hg
  have hw := wanted_swap hg R
  unfold stepOp at hs ⊢
  simp only at hs ⊢
  rw [hw]
  split at ho
  · rename_i hm
    obtain ⟨a, d, i, e1, e2, e3, e4⟩ := movT_inv hm
    split at hs
    · rename_i hwt
      rw [e1] at hs
      simp only [sem, HM.run, PO.ev, e2, putDst, Option.some.injEq, St.mk.injEq] at hs
      obtain ⟨rfl, rfl⟩ := hs
      refine ⟨upd fr d (nth fr a), ?_, R.mov e3 e4⟩
      simp only [hwt, e1, sem, HM.run, PO.ev, e2, putDst]
    · rename_i hwf
      simp only [e2, putDst, Option.some.injEq, St.mk.injEq] at hs
      obtain ⟨rfl, rfl⟩ := hs
      exact ⟨_, by simp only [hwf, e2, putDst], R.dead e4 _⟩
    · cases hs
  · rename_i hm
    split at ho
    case isFalse => cases ho
    rename_i hd
    split at hs
    · rename_i hwt
      split at hs
      · rename_i v h' hr
        simp only [Option.some.injEq, St.mk.injEq] at hs
        obtain ⟨rfl, rfl⟩ := hs
        refine ⟨_, ?_, R.put hd v⟩
        simp only [hwt, (sem_swap ho hL R).run hr]
      · cases hs
    · rename_i hwf
      simp only [Option.some.injEq, St.mk.injEq] at hs
      obtain ⟨rfl, rfl⟩ := hs
      exact ⟨_, by simp only [hwf], R.put hd _⟩
    · cases hs
theorem stepT_swap {n : Nat} {o : IOper} {L : List Ob} (ho : obOper S o = some L) (hL : ∀ ob ∈ L, ObEq FT u u' ob) {fr fr' g' : List PV} {h h1 : Heap} {Rs Ws : List Ref} (R : Rl S u u' fr fr')
    (hs : stepT (ROof FT) (callE FT n) o ⟨fr', h⟩ = some (⟨g', h1⟩, Rs, Ws)) : ∃ g, stepT (ROof FT) (callE FT n) o ⟨fr, h⟩ = some (⟨g, h1⟩, Rs, Ws) ∧ Rl S u u' g g' := by
  unfold obOper at ho
  split at ho
  case isFalse => cases ho
  rename_i hg
  have hw := wanted_swap hg R
  unfold stepT at hs ⊢
  simp only at hs ⊢
  rw [hw]
  split at ho
  · rename_i hm
    obtain ⟨a, d, i, e1, e2, e3, e4⟩ := movT_inv hm
    split at hs
    · rename_i hwt
      rw [e1] at hs
      simp only [sem, HM.runT, PO.ev, e2, putDst, Option.some.injEq, Prod.mk.injEq, St.mk.injEq] at hs
      obtain ⟨⟨rfl, rfl⟩, rfl, rfl⟩ := hs
      refine ⟨upd fr d (nth fr a), ?_, R.mov e3 e4⟩
      simp only [hwt, e1, sem, HM.runT, PO.ev, e2, putDst]
    · rename_i hwf
      simp only [e2, putDst, Option.some.injEq, Prod.mk.injEq, St.mk.injEq] at hs
      obtain ⟨⟨rfl, rfl⟩, rfl, rfl⟩ := hs
      exact ⟨_, by simp only [hwf, e2, putDst], R.dead e4 _⟩
    · cases hs
  · rename_i hm
    split at ho
    case isFalse => cases ho
    rename_i hd
    split at hs
    · rename_i hwt
      split at hs
      · rename_i v h' R' W' hr
        simp only [Option.some.injEq, Prod.mk.injEq, St.mk.injEq] at hs
        obtain ⟨⟨rfl, rfl⟩, rfl, rfl⟩ := hs
        refine ⟨_, ?_, R.put hd v⟩
        simp only [hwt, (sem_swap ho hL R).runT hr]
      · cases hs
    · rename_i hwf
      simp only [Option.some.injEq, Prod.mk.injEq, St.mk.injEq] at hs
      obtain ⟨⟨rfl, rfl⟩, rfl, rfl⟩ := hs
      exact ⟨_, by simp only [hwf], R.put hd _⟩
    · cases hs
theorem runOps_swap {n : Nat} : ∀ {os : List IOper} {L : List Ob}, obOpers S os = some L → (∀ ob ∈ L, ObEq FT u u' ob) → ∀ {fr fr' g' : List PV} {h h1 : Heap}, Rl S u u' fr fr' →
    runOps (ROof FT) (callE FT n) os ⟨fr', h⟩ = some ⟨g', h1⟩ → ∃ g, runOps (ROof FT) (callE FT n) os ⟨fr, h⟩ = some ⟨g, h1⟩ ∧ Rl S u u' g g'
  | [], L, _, _, fr, fr', g', h, h1, R, hs => by
    simp only [runOps, Option.some.injEq, St.mk.injEq] at hs
    obtain ⟨rfl, rfl⟩ := hs
    exact ⟨fr, rfl, R⟩
  | o :: os, L, ho, hL, fr, fr', g', h, h1, R, hs => by
    simp only [obOpers] at ho
    split at ho
    case h_2 => cases ho
    rename_i a b ha hb
    simp only [Option.some.injEq] at ho
    subst ho
    simp only [runOps] at hs ⊢
    cases h2 : stepOp (ROof FT) (callE FT n) o ⟨fr', h⟩ with
    | none => rw [h2] at hs; cases hs
    | some σ =>
      obtain ⟨k', h3⟩ := σ
      rw [h2] at hs
      obtain ⟨k, e1, R1⟩ := stepOp_swap ha (fun ob hm => hL ob (List.mem_append_left _ hm)) R h2
      obtain ⟨g, e2, R2⟩ := runOps_swap hb (fun ob hm => hL ob (List.mem_append_right _ hm)) R1 hs
      exact ⟨g, by rw [e1]; exact e2, R2⟩
theorem trOf_swap {o : IOper} {L : List Ob} (ho : obOper S o = some L) {fr fr' g g' : List PV} {h h1 : Heap} {Rs Ws : List Ref} (R : Rl S u u' fr fr') : trOf o ⟨fr, h⟩ ⟨g, h1⟩ Rs Ws = trOf o ⟨fr', h⟩ ⟨g', h1⟩ Rs Ws := by
  unfold obOper at ho
  split at ho
  case isFalse => cases ho
  rename_i hg
  have hw := wanted_swap hg R
  have hcr : crdOf (PO.ev fr) o.op = crdOf (PO.ev fr') o.op := by
    split at ho
    · rename_i hm
      obtain ⟨a, d, i, e1, e2, e3, e4⟩ := movT_inv hm
      rw [e1]; rfl
    · split at ho
      case isFalse => cases ho
      unfold obOp at ho
      split at ho
      · rename_i hc
        exact (crdOf_same (R.Same hc)).symm
      · cases hop : o.op <;> rw [hop] at ho <;> first | rfl | (simp at ho; done) | skip
  unfold trOf
  simp only [hw, hcr]
theorem runOpsD_swap {n : Nat} : ∀ {os : List IOper} {L : List Ob}, obOpers S os = some L → (∀ ob ∈ L, ObEq FT u u' ob) → ∀ {j : Nat} {acc : List (Nat × Tr)} {fr fr' g' : List PV} {h h1 : Heap}, Rl S u u' fr fr' →
    runOpsD2 (ROof FT) (callE FT n) j acc os ⟨fr', h⟩ = some ⟨g', h1⟩ → ∃ g, runOpsD2 (ROof FT) (callE FT n) j acc os ⟨fr, h⟩ = some ⟨g, h1⟩ ∧ Rl S u u' g g'
  | [], L, _, _, j, acc, fr, fr', g', h, h1, R, hs => by
    simp only [runOpsD2, Option.some.injEq, St.mk.injEq] at hs
    obtain ⟨rfl, rfl⟩ := hs
    exact ⟨fr, rfl, R⟩
  | o :: os, L, ho, hL, j, acc, fr, fr', g', h, h1, R, hs => by
    simp only [obOpers] at ho
    split at ho
    case h_2 => cases ho
    rename_i a b ha hb
    simp only [Option.some.injEq] at ho
    subst ho
    simp only [runOpsD2] at hs ⊢
    cases h2 : stepT (ROof FT) (callE FT n) o ⟨fr', h⟩ with
    | none => rw [h2] at hs; cases hs
    | some p =>
      obtain ⟨⟨k', h3⟩, Rs, Ws⟩ := p
      rw [h2] at hs
      obtain ⟨k, e1, R1⟩ := stepT_swap ha (fun ob hm => hL ob (List.mem_append_left _ hm)) R h2
      rw [e1]
      simp only at hs ⊢
      rw [trOf_swap ha R (g' := k')]
      split at hs
      · rename_i hc
        rw [if_pos hc]
        exact runOpsD_swap hb (fun ob hm => hL ob (List.mem_append_right _ hm)) R1 hs
      · cases hs
theorem exec_swap : ∀ (n : Nat) {c : ICode} {L : List Ob}, obCode S c = some L → (∀ ob ∈ L, ObEq FT u u' ob) → ∀ {fr fr' g' : List PV} {h h1 : Heap} {ex : Ex}, Rl S u u' fr fr' →
    exec FT n c ⟨fr', h⟩ = some (ex, ⟨g', h1⟩) → ∃ g, exec FT n c ⟨fr, h⟩ = some (ex, ⟨g, h1⟩) ∧ Rl S u u' g g'
  | 0, c, L, ho, hL, fr, fr', g', h, h1, ex, R, hs => by simp [exec] at hs
  | n + 1, c, L, ho, hL, fr, fr', g', h, h1, ex, R, hs => by
    rw [exec.eq_def] at hs ⊢
    simp only at hs ⊢
    cases c with
    | skip =>
      simp only [Option.some.injEq, Prod.mk.injEq, St.mk.injEq] at hs
      obtain ⟨rfl, rfl, rfl⟩ := hs
      exact ⟨fr, rfl, R⟩
    | reg ops d =>
      simp only [obCode] at ho
      cases d with
      | false =>
        simp only at hs ⊢
        split at hs
        · rename_i σ1 hr
          simp only [Option.some.injEq, Prod.mk.injEq] at hs
          obtain ⟨rfl, rfl⟩ := hs
          obtain ⟨g, e, R1⟩ := runOps_swap ho hL R hr
          refine ⟨g, ?_, R1⟩
          show (match runOps (ROof FT) (callE FT n) ops ⟨fr, h⟩ with | some σ' => some (Ex.norm, σ') | none => none) = _
          rw [e]
        · cases hs
      | true =>
        simp only at hs ⊢
        split at hs
        · rename_i σ1 hr
          simp only [Option.some.injEq, Prod.mk.injEq] at hs
          obtain ⟨rfl, rfl⟩ := hs
          obtain ⟨g, e, R1⟩ := runOpsD_swap ho hL R hr
          refine ⟨g, ?_, R1⟩
          show (match runOpsD2 (ROof FT) (callE FT n) 0 [] ops ⟨fr, h⟩ with | some σ' => some (Ex.norm, σ') | none => none) = _
          rw [e]
        · cases hs
    | seq a b =>
      simp only [obCode] at ho
      split at ho
      case h_2 => cases ho
      rename_i la lb ha hb
      simp only [Option.some.injEq] at ho
      subst ho
      have hLa : ∀ ob ∈ la, ObEq FT u u' ob := fun ob hm => hL ob (List.mem_append_left _ hm)
      have hLb : ∀ ob ∈ lb, ObEq FT u u' ob := fun ob hm => hL ob (List.mem_append_right _ hm)
      simp only at hs ⊢
      cases h2 : exec FT n a ⟨fr', h⟩ with
      | none => rw [h2] at hs; cases hs
      | some p =>
        obtain ⟨e, k', h3⟩ := p
        rw [h2] at hs
        obtain ⟨k, e1, R1⟩ := exec_swap n ha hLa R h2
        rw [e1]
        cases e with
        | norm => exact exec_swap n hb hLb R1 hs
        | exit i =>
          simp only [Option.some.injEq, Prod.mk.injEq, St.mk.injEq] at hs
          obtain ⟨rfl, rfl, rfl⟩ := hs
          exact ⟨k, rfl, R1⟩
        | ret =>
          simp only [Option.some.injEq, Prod.mk.injEq, St.mk.injEq] at hs
          obtain ⟨rfl, rfl, rfl⟩ := hs
          exact ⟨k, rfl, R1⟩
    | cond d x y =>
      simp only [obCode] at ho
      split at ho
      case isFalse => cases ho
      rename_i hd
      split at ho
      case h_2 => cases ho
      rename_i la lb ha hb
      simp only [Option.some.injEq] at ho
      subst ho
      have hLa : ∀ ob ∈ la, ObEq FT u u' ob := fun ob hm => hL ob (List.mem_append_left _ hm)
      have hLb : ∀ ob ∈ lb, ObEq FT u u' ob := fun ob hm => hL ob (List.mem_append_right _ hm)
      have hev : PO.ev fr d = PO.ev fr' d := (ev_same (R.Same hd)).symm
      simp only at hs ⊢
      rw [hev]
      split at hs
      · exact exec_swap n ha hLa R hs
      · exact exec_swap n hb hLb R hs
      · cases hs
    | block id x =>
      simp only [obCode] at ho
      simp only at hs ⊢
      cases h2 : exec FT n x ⟨fr', h⟩ with
      | none => rw [h2] at hs; cases hs
      | some p =>
        obtain ⟨e, k', h3⟩ := p
        rw [h2] at hs
        obtain ⟨k, e1, R1⟩ := exec_swap n ho hL R h2
        rw [e1]
        cases e with
        | norm =>
          simp only [Option.some.injEq, Prod.mk.injEq, St.mk.injEq] at hs
          obtain ⟨rfl, rfl, rfl⟩ := hs
          exact ⟨k, rfl, R1⟩
        | exit i =>
          simp only at hs ⊢
          split at hs
          · rename_i hi
            simp only [Option.some.injEq, Prod.mk.injEq, St.mk.injEq] at hs
            obtain ⟨rfl, rfl, rfl⟩ := hs
            rw [if_pos hi]; exact ⟨k, rfl, R1⟩
          · rename_i hi
            simp only [Option.some.injEq, Prod.mk.injEq, St.mk.injEq] at hs
            obtain ⟨rfl, rfl, rfl⟩ := hs
            rw [if_neg hi]; exact ⟨k, rfl, R1⟩
        | ret =>
          simp only [Option.some.injEq, Prod.mk.injEq, St.mk.injEq] at hs
          obtain ⟨rfl, rfl, rfl⟩ := hs
          exact ⟨k, rfl, R1⟩
    | loop x =>
      have ho' := ho
      simp only [obCode] at ho
      simp only at hs ⊢
      cases h2 : exec FT n x ⟨fr', h⟩ with
      | none => rw [h2] at hs; cases hs
      | some p =>
        obtain ⟨e, k', h3⟩ := p
        rw [h2] at hs
        obtain ⟨k, e1, R1⟩ := exec_swap n ho hL R h2
        rw [e1]
        cases e with
        | norm => exact exec_swap n ho' hL R1 hs
        | exit i =>
          simp only [Option.some.injEq, Prod.mk.injEq, St.mk.injEq] at hs
          obtain ⟨rfl, rfl, rfl⟩ := hs
          exact ⟨k, rfl, R1⟩
        | ret =>
          simp only [Option.some.injEq, Prod.mk.injEq, St.mk.injEq] at hs
          obtain ⟨rfl, rfl, rfl⟩ := hs
          exact ⟨k, rfl, R1⟩
    | exit i =>
      simp only [Option.some.injEq, Prod.mk.injEq, St.mk.injEq] at hs
      obtain ⟨rfl, rfl, rfl⟩ := hs
      exact ⟨fr, rfl, R⟩
    | ret =>
      simp only [Option.some.injEq, Prod.mk.injEq, St.mk.injEq] at hs
      obtain ⟨rfl, rfl, rfl⟩ := hs
      exact ⟨fr, rfl, R⟩
    | kill _ _ _ => simp [obCode] at ho
theorem resOf_swap {fr fr' : List PV} (R : Rl S u u' fr fr') : ∀ {rs : List IRes}, obRes S rs = true → resOf fr rs = resOf fr' rs
  | [], _ => rfl
  | .tmp t :: rs, h => by
    simp only [obRes, Bool.and_eq_true] at h
    simp only [resOf, resOf_swap R h.2, R.same h.1]
  | .cell sz t :: rs, h => by
    simp only [obRes, Bool.and_eq_true] at h
    simp only [resOf, resOf_swap R h.2, R.same h.1]
theorem callE_swap {f : Nat} {F : IFun} {L : List Ob} {args args' : List PV} {G : List Blk} {x : PV × List (Option Blk)} {n : Nat} (hF : FT f = some F) (hi : F.intr = none) (ho : obCode S F.body = some L) (hr : obRes S F.res = true)
    (hL : ∀ ob ∈ L, ObEq FT (nth args) (nth args') ob) (hl : args.length = args'.length)
    (ha : ∀ t, t < args.length → match tnAt S t with | none => nth args t = nth args' t | some i => i = t) (hx : callE FT n f args' G = some x) : callE FT n f args G = some x := by
  cases n with
  | zero => simp [callE] at hx
  | succ n =>
    rw [callE] at hx ⊢
    rw [hF] at hx ⊢
    simp only [hi] at hx ⊢
    have R0 : Rl S (nth args) (nth args') (args ++ List.replicate (F.ntmps - args.length) .junk) (args' ++ List.replicate (F.ntmps - args'.length) .junk) := by
      refine ⟨by simp [hl], fun t => ?_⟩
      rw [nth_append, nth_append, hl]
      by_cases ht : t < args'.length
      · rw [if_pos ht, if_pos ht]
        have := ha t (by omega)
        split
        · rename_i e; rw [e] at this; exact this
        · rename_i i e; rw [e] at this; simp only at this; subst this; exact .inr ⟨rfl, rfl⟩
      · rw [if_neg ht, if_neg ht]
        split
        · rfl
        · exact .inl rfl
    cases he : exec FT n F.body ⟨args' ++ List.replicate (F.ntmps - args'.length) .junk, ⟨G.map some, List.replicate F.nslots ⟨0, none⟩⟩⟩ with
    | none => rw [he] at hx; cases hx
    | some p =>
      obtain ⟨e, g', h1⟩ := p
      rw [he] at hx
      obtain ⟨g, e1, R1⟩ := exec_swap n ho hL R0 he
      rw [e1]
      have hfin : finish F G.length g = finish F G.length g' := by unfold finish; rw [resOf_swap R1 hr]
      cases e with
      | norm => simp only [hfin]; exact hx
      | exit i => cases hx
      | ret => simp only [hfin]; exact hx
end
end Gv

namespace Gv
open Go (IntKind BinOp UnOp)

/-! ### Code cut off behind a few parts -/
def cutC : Nat → ICode → ICode
  | 0, _ => .exit 999999
  | k + 1, .seq a b => .seq a (cutC k b)
  | _ + 1, c => c
theorem exec_cut {FT : Nat → Option IFun} : ∀ (k n : Nat) {c : ICode} {σ σ' : St} {ex : Ex}, exec FT n (cutC k c) σ = some (ex, σ') → (∀ i, ex = .exit i → False) → exec FT n c σ = some (ex, σ')
  | 0, 0, c, σ, σ', ex, h, _ => by simp [exec] at h
  | 0, n + 1, c, σ, σ', ex, h, hx => by
    rw [cutC, exec.eq_def] at h
    simp only [Option.some.injEq, Prod.mk.injEq] at h
    exact (hx _ h.1.symm).elim
  | k + 1, 0, c, σ, σ', ex, h, _ => by simp [exec] at h
  | k + 1, n + 1, c, σ, σ', ex, h, hx => by
    cases c with
    | seq a b =>
      rw [cutC, exec.eq_def] at h
      rw [exec.eq_def]
      simp only at h ⊢
      cases h1 : exec FT n a σ with
      | none => rw [h1] at h; cases h
      | some p =>
        obtain ⟨e, σ1⟩ := p
        rw [h1] at h
        cases e with
        | norm => exact exec_cut k n h hx
        | exit i => exact h
        | ret => exact h
    | _ => exact h
def setF (FT : Nat → Option IFun) (f : Nat) (F : IFun) (g : Nat) : Option IFun := if g = f then some F else FT g
def cutF (k : Nat) (F : IFun) : IFun := ⟨F.ntmps, F.nslots, F.frz, F.ro, F.res, cutC k F.body, F.intr⟩
section
variable {FT FT2 : Nat → Option IFun}
/-- One table tells no more than another one. -/
structure TLe (FT2 FT : Nat → Option IFun) : Prop where
  ro : ROof FT2 = ROof FT
  at_ : ∀ f F, FT2 f = some F → ∃ F', FT f = some F' ∧ F'.intr = F.intr ∧ F'.ntmps = F.ntmps ∧ F'.nslots = F.nslots ∧ F'.frz = F.frz ∧ F'.res = F.res ∧ (F'.body = F.body ∨ ∃ k, F.body = cutC k F'.body)
theorem TLe.mono (T : TLe FT2 FT) : ∀ (n : Nat), CLe (callE FT2 n) (callE FT n) ∧ ∀ (c : ICode) (σ : St) (r : Ex × St), exec FT2 n c σ = some r → exec FT n c σ = some r := by
  intro n
  induction n with
  | zero => exact ⟨fun f a G r h => by simp [callE] at h, fun c σ r h => by simp [exec] at h⟩
  | succ n ih =>
    obtain ⟨ihC, ihE⟩ := ih
    refine ⟨?_, ?_⟩
    · intro f a G r h
      rw [callE] at h ⊢
      cases hF : FT2 f with
      | none => rw [hF] at h; cases h
      | some F =>
        obtain ⟨F', e0, e1, e2, e3, e4, e5, e6⟩ := T.at_ f F hF
        rw [hF] at h
        rw [e0]
        simp only at h ⊢
        rw [e1, e2, e3]
        cases hi : F.intr with
        | some g => rw [hi] at h; exact h
        | none =>
          rw [hi] at h
          simp only at h ⊢
          have hfin : ∀ m fr, finish F' m fr = finish F m fr := fun m fr => by unfold finish; rw [e4, e5]
          simp only [hfin]
          cases he : exec FT2 n F.body ⟨a ++ List.replicate (F.ntmps - a.length) .junk, ⟨G.map some, List.replicate F.nslots ⟨0, none⟩⟩⟩ with
          | none => rw [he] at h; cases h
          | some p =>
            obtain ⟨ex, σ1⟩ := p
            rw [he] at h
            have h2 := ihE _ _ _ he
            have h3 : (∀ i, ex = .exit i → False) → exec FT n F'.body ⟨a ++ List.replicate (F.ntmps - a.length) .junk, ⟨G.map some, List.replicate F.nslots ⟨0, none⟩⟩⟩ = some (ex, σ1) := by
              intro hx
              rcases e6 with e6 | ⟨k, e6⟩
              · rw [e6]; exact h2
              · rw [e6] at h2; exact exec_cut k n h2 hx
            cases ex with
            | norm => rw [h3 (fun i e => by cases e)]; exact h
            | exit i => cases h
            | ret => rw [h3 (fun i e => by cases e)]; exact h
    · intro c σ r h
      rw [exec.eq_def] at h ⊢
      simp only at h ⊢
      cases c with
      | skip => exact h
      | reg ops d =>
        cases d with
        | false =>
          simp only at h ⊢
          split at h
          · rename_i σ1 h1
            have h1 : runOps (ROof FT2) (callE FT2 n) ops σ = some σ1 := h1
            rw [T.ro] at h1
            show (match runOps (ROof FT) (callE FT n) ops σ with | some σ' => some (Ex.norm, σ') | none => none) = _
            rw [runOps_le ihC h1]; exact h
          · cases h
        | true =>
          simp only at h ⊢
          split at h
          · rename_i σ1 h1
            have h1 : runOpsD2 (ROof FT2) (callE FT2 n) 0 [] ops σ = some σ1 := h1
            rw [T.ro] at h1
            show (match runOpsD2 (ROof FT) (callE FT n) 0 [] ops σ with | some σ' => some (Ex.norm, σ') | none => none) = _
            rw [runOpsD2_le ihC h1]; exact h
          · cases h
      | seq a b =>
        simp only at h ⊢
        cases h1 : exec FT2 n a σ with
        | none => rw [h1] at h; cases h
        | some p =>
          obtain ⟨e, σ1⟩ := p
          rw [h1] at h; rw [ihE _ _ _ h1]
          cases e with
          | norm => exact ihE _ _ _ h
          | exit i => exact h
          | ret => exact h
      | cond d x y =>
        simp only at h ⊢
        split at h
        · exact ihE _ _ _ h
        · exact ihE _ _ _ h
        · cases h
      | block id x =>
        simp only at h ⊢
        cases h1 : exec FT2 n x σ with
        | none => rw [h1] at h; cases h
        | some p => rw [h1] at h; rw [ihE _ _ _ h1]; exact h
      | loop x =>
        simp only at h ⊢
        cases h1 : exec FT2 n x σ with
        | none => rw [h1] at h; cases h
        | some p =>
          obtain ⟨e, σ1⟩ := p
          rw [h1] at h; rw [ihE _ _ _ h1]
          cases e with
          | norm => exact ihE _ _ _ h
          | exit i => exact h
          | ret => exact h
      | exit i => exact h
      | ret => exact h
      | kill ts hs x => exact ihE _ _ _ h
theorem TLe.cut {f k : Nat} {F : IFun} (hF : FT f = some F) : TLe (setF FT f (cutF k F)) FT := by
  refine ⟨?_, fun g F' h => ?_⟩
  · funext g
    unfold ROof setF
    by_cases hg : g = f
    · rw [if_pos hg, hg, hF]; rfl
    · rw [if_neg hg]
  · unfold setF at h
    split at h
    · rename_i hg
      simp only [Option.some.injEq] at h
      subst h; subst hg
      exact ⟨F, hF, rfl, rfl, rfl, rfl, rfl, .inr ⟨k, rfl⟩⟩
    · exact ⟨F', h, rfl, rfl, rfl, rfl, rfl, .inl rfl⟩
end

/-! ### Reckoned answers -/
def isYes : Option (PV × List (Option Blk)) → Bool
  | some (.bool true, []) => true
  | _ => false
theorem isYes_eq {x : Option (PV × List (Option Blk))} (h : isYes x = true) : x = some (.bool true, []) := by
  unfold isYes at h
  split at h
  · rfl
  · cases h
theorem cost_bound (L : Nat) : ∀ (T : List (Option IFun)), ∃ B, ∀ F, some F ∈ T → costE L F.body ≤ B
  | [] => ⟨0, fun F h => by cases h⟩
  | none :: T => by
    obtain ⟨B, h⟩ := cost_bound L T
    exact ⟨B, fun F hF => by
      rcases List.mem_cons.1 hF with e | e
      · cases e
      · exact h F e⟩
  | some G :: T => by
    obtain ⟨B, h⟩ := cost_bound L T
    exact ⟨max B (costE L G.body), fun F hF => by
      rcases List.mem_cons.1 hF with e | e
      · cases e; exact Nat.le_max_right _ _
      · exact Nat.le_trans (h F e) (Nat.le_max_left _ _)⟩
theorem tab_bound (L : Nat) (T : List (Option IFun)) : ∃ B, ∀ f F, tabOf T f = some F → costE L F.body ≤ B := by
  obtain ⟨B, h⟩ := cost_bound L T
  refine ⟨B, fun f F hf => h F ?_⟩
  unfold tabOf at hf
  rw [List.getD_eq_getElem?_getD] at hf
  cases hl : T[f]? with
  | none => rw [hl] at hf; cases hf
  | some x => rw [hl] at hf; simp only [Option.getD_some] at hf; subst hf; exact List.mem_of_getElem? hl
/-- A call, reckoned over a table. -/
noncomputable def runQ (Q : List (Option QF)) (f : Nat) (args : List PV) : Option (PV × List (Option Blk)) := callR (tabQ Q) (roQ (tabQ Q)) 1000 60 f args []
theorem runQ_ok {Q : List (Option QF)} {T : List (Option IFun)} (hT : Q.map (Option.map QF.F) = T) (hq : okQs Q = true) : ∃ N, ∀ f args x, runQ Q f args = some x → callE (tabOf T) N f args [] = some x := by
  obtain ⟨B, hB⟩ := tab_bound 1000 T
  have hF : ∀ f, tabOf T f = (tabQ Q f).map QF.F := fun f => by rw [← hT, tabOf_map]
  obtain ⟨N, hN⟩ := callR_ok (QT := tabQ Q) (L := 1000) (fun f q h => ⟨by rw [hF, h]; rfl, tabQ_ok hq h⟩) hB 60
  refine ⟨N, fun f args x h => hN f args [] x ?_⟩
  unfold runQ at h
  rw [roQ_eq hF] at h
  exact h
theorem yes_of {Q : List (Option QF)} {T : List (Option IFun)} {f : Nat} {args : List PV} (hT : Q.map (Option.map QF.F) = T) (hq : okQs Q = true) (h : isYes (runQ Q f args) = true) : ∃ n, callE (tabOf T) n f args [] = some (.bool true, []) := by
  obtain ⟨N, hN⟩ := runQ_ok hT hq
  exact ⟨N, hN f args _ (isYes_eq h)⟩
/-- A law's arguments, looked at in a few places, and others that look the same there. -/
theorem yes_swap {Q : List (Option QF)} {T : List (Option IFun)} {f : Nat} {F : IFun} {S : Tn} {Ls : List Ob} {args args' : List PV} (hT : Q.map (Option.map QF.F) = T) (hq : okQs Q = true) (hF : tabOf T f = some F) (hi : F.intr = none) (ho : obCode S F.body = some Ls) (hr : obRes S F.res = true)
    (hl : args.length = args'.length) (ha : ∀ t, t < args.length → match tnAt S t with | none => nth args t = nth args' t | some i => i = t)
    (hL : ∀ ob ∈ Ls, ObEq (tabOf T) (nth args) (nth args') ob) (h : isYes (runQ Q f args') = true) : ∃ n, callE (tabOf T) n f args [] = some (.bool true, []) := by
  obtain ⟨n, hn⟩ := yes_of hT hq h
  exact ⟨n, callE_swap hF hi ho hr hL hl ha hn⟩
/-- The table with a function cut off. -/
noncomputable def cutQ (Q : List (Option QF)) (k f : Nat) (q : QF) (g : Nat) : Option QF := Bool.casesOn (Nat.beq g f) (tabQ Q g) (some ⟨cutF k q.F, q.K, q.ks⟩)
noncomputable def runC (Q : List (Option QF)) (k f : Nat) (q : QF) (args : List PV) : Option (PV × List (Option Blk)) := callR (cutQ Q k f q) (roQ (cutQ Q k f q)) 1000 60 f args []
/-- .. in the first few parts alone. -/
theorem yes_cut {Q : List (Option QF)} {T : List (Option IFun)} {f : Nat} {q : QF} {S : Tn} {Ls : List Ob} {args args' : List PV} (k : Nat) (hT : Q.map (Option.map QF.F) = T) (hq : okQs Q = true) (hF : tabOf T f = some q.F) (hqc : okQ ⟨cutF k q.F, q.K, q.ks⟩ = true) (hi : q.F.intr = none) (ho : obCode S (cutC k q.F.body) = some Ls) (hr : obRes S q.F.res = true)
    (hl : args.length = args'.length) (ha : ∀ t, t < args.length → match tnAt S t with | none => nth args t = nth args' t | some i => i = t)
    (hL : ∀ ob ∈ Ls, ObEq (setF (tabOf T) f (cutF k q.F)) (nth args) (nth args') ob) (h : isYes (runC Q k f q args') = true) : ∃ n, callE (tabOf T) n f args [] = some (.bool true, []) := by
  obtain ⟨B, hB⟩ := tab_bound 1000 T
  have hF1 : ∀ g, tabOf T g = (tabQ Q g).map QF.F := fun g => by rw [← hT, tabOf_map]
  have hB2 : ∀ g F', setF (tabOf T) f (cutF k q.F) g = some F' → costE 1000 F'.body ≤ max B (costE 1000 (cutF k q.F).body) := by
    intro g F' hg
    unfold setF at hg
    split at hg
    · simp only [Option.some.injEq] at hg; subst hg; exact Nat.le_max_right _ _
    · exact Nat.le_trans (hB g F' hg) (Nat.le_max_left _ _)
  have hF2 : ∀ g, setF (tabOf T) f (cutF k q.F) g = (cutQ Q k f q g).map QF.F := by
    intro g
    unfold setF cutQ
    rw [beq_iff]
    by_cases hg : g = f
    · rw [if_pos hg, decide_eq_true hg]; rfl
    · rw [if_neg hg, decide_eq_false hg]; exact hF1 g
  obtain ⟨N, hN⟩ := callR_ok (QT := cutQ Q k f q) (FT := setF (tabOf T) f (cutF k q.F)) (L := 1000) (fun g r hg => ⟨by rw [hF2, hg]; rfl, by
    unfold cutQ at hg
    rw [beq_iff] at hg
    by_cases hgf : g = f
    · rw [decide_eq_true hgf] at hg
      simp only [Option.some.injEq] at hg
      rw [← hg]; exact hqc
    · rw [decide_eq_false hgf] at hg; exact tabQ_ok hq hg⟩) hB2 60
  unfold runC at h
  rw [roQ_eq hF2] at h
  have h1 := hN _ _ _ _ (isYes_eq h)
  have h2 := callE_swap (FT := setF (tabOf T) f (cutF k q.F)) (f := f) (F := cutF k q.F) (by unfold setF; rw [if_pos rfl]) hi ho hr hL hl ha h1
  exact ⟨N, ((TLe.cut hF).mono N).1 _ _ _ _ h2⟩
end Gv

namespace Gv
open Go (IntKind BinOp UnOp)
/-- A number's place among K. -/
def rnd (a K : Int) : Int := (a.tmod K + K).tmod K
def roundF : IFun := ⟨12, 0, true, [true, true], [.tmp 4],
 (.seq
  (.reg [⟨some 4, .mov (.c (.int .i64 0)), none, []⟩] false)
  (.seq
   (.reg [⟨some 5, .mov (.t 0), none, []⟩, ⟨some 6, .mov (.t 1), none, []⟩, ⟨some 7, .bin .rem (.t 5) (.t 6), none, []⟩, ⟨some 8, .mov (.t 1), none, []⟩, ⟨some 9, .bin .add (.t 7) (.t 8), none, []⟩, ⟨some 10, .mov (.t 1), none, []⟩, ⟨some 11, .bin .rem (.t 9) (.t 10), none, []⟩, ⟨some 4, .mov (.t 11), none, []⟩] false)
   .ret)), none⟩
theorem tmod_lo (a K : Int) (h : 0 < K) : -K < a.tmod K := by
  rcases Int.le_total 0 a with ha | ha
  · have := Int.tmod_nonneg K ha; omega
  · have h1 := Int.tmod_lt_of_pos (-a) h
    rw [Int.neg_tmod] at h1
    omega
theorem wrap_small {n : Int} (h1 : -1000000 ≤ n) (h2 : n ≤ 1000000) : IntKind.i64.wrap n = n := by rw [IntKind.wrap_i64]; omega
theorem round_run {FT : Nat → Option IFun} {f : Nat} (hF : FT f = some roundF) {a K : Int} (h0 : 0 < K) (h1 : K < 1000) : ∀ n, callE FT n f [.int .i64 a, .int .i64 K] [] = if n < 4 then none else some (.int .i64 (rnd a K), []) := by
  have hw : IntKind.i64.wrap (a.tmod K + K) = a.tmod K + K := by
    have := tmod_lo a K h0
    have := Int.tmod_lt_of_pos a h0
    exact wrap_small (by omega) (by omega)
  have hne : ¬ (K = 0) := by omega
  intro n
  match n with
  | 0 => simp [callE]
  | 1 => simp [callE, hF, roundF, exec]
  | 2 => simp [callE, hF, roundF, exec]
  | 3 => simp [callE, hF, roundF, exec, runOps, stepOp, wanted, sem, PO.ev, nth, upd, putDst, HM.run]
  | n + 4 =>
    rw [if_neg (by omega)]
    simp [callE, hF, roundF, exec, runOps, stepOp, wanted, sem, PO.ev, nth, upd, putDst, HM.run, bin, binI, HM.ofO, hne, hw, finish, resOf, HM.bind, one, freezeC, argBlks, collectL, toks, blkToks, ren, rnd, List.replicate]
theorem rnd_bounds (a K : Int) (h : 0 < K) : 0 ≤ rnd a K ∧ rnd a K < K := by
  have h1 := tmod_lo a K h
  exact ⟨Int.tmod_nonneg K (by omega), Int.tmod_lt_of_pos _ h⟩
theorem rnd_self {r K : Int} (h0 : 0 ≤ r) (h1 : r < K) : rnd r K = r := by
  unfold rnd
  rw [Int.tmod_eq_of_lt h0 h1, Int.tmod_eq_emod_of_nonneg (by omega), Int.add_emod_right, Int.emod_eq_of_lt h0 h1]
/-- What is seen of a number by its place alone. -/
theorem round_ob {FT : Nat → Option IFun} {f : Nat} (hF : FT f = some roundF) {u u' : Nat → PV} {i : Nat} {a K : Int} (h0 : 0 < K) (h1 : K < 1000) (hu : u i = .int .i64 a) (hu' : u' i = .int .i64 (rnd a K)) : ObEq FT u u' (.call f i [.int .i64 K]) := by
  obtain ⟨b0, b1⟩ := rnd_bounds a K h0
  refine ⟨by rw [hu, hu']; rfl, fun n x hx => ?_⟩
  rw [hu'] at hx
  rw [hu]
  rw [round_run hF h0 h1, rnd_self b0 b1] at hx
  rw [round_run hF h0 h1]; exact hx
theorem lt_ob {FT : Nat → Option IFun} {u u' : Nat → PV} {i : Nat} {a a' k : Int} (hu : u i = .int .i64 a) (hu' : u' i = .int .i64 a') (h : a < k ↔ a' < k) : ObEq FT u u' (.bin .lss i (.int .i64 k) true) := by
  show bin .lss (u i) _ = bin .lss (u' i) _
  rw [hu, hu']
  simp only [bin, binI]
  simp [h]
theorem gt_ob {FT : Nat → Option IFun} {u u' : Nat → PV} {i : Nat} {a a' k : Int} (hu : u i = .int .i64 a) (hu' : u' i = .int .i64 a') (h : k < a ↔ k < a') : ObEq FT u u' (.bin .gtr i (.int .i64 k) true) := by
  show bin .gtr (u i) _ = bin .gtr (u' i) _
  rw [hu, hu']
  simp only [bin, binI]
  simp [h]
end Gv

namespace Gv
open Go (IntKind BinOp UnOp)
abbrev Ans := Option (PV × List (Option Blk))
abbrev Orc := List PV → List Blk → Ans
def memF (F : IFun) (g : Orc) : IFun := ⟨F.ntmps, F.nslots, F.frz, F.ro, F.res, F.body, some g⟩
section
variable {FT FT2 : Nat → Option IFun}
/-- Some functions are answered out of facts. -/
structure MLe (N0 : Nat) (FT2 FT : Nat → Option IFun) : Prop where
  ro : ROof FT2 = ROof FT
  at_ : ∀ f F, FT2 f = some F → FT f = some F ∨ ∃ g, F.intr = some g ∧ ∀ a G r, g a G = some r → callE FT N0 f a G = some r
theorem MLe.mono {N0 : Nat} (T : MLe N0 FT2 FT) : ∀ (n : Nat), CLe (callE FT2 n) (callE FT (n + N0)) ∧ ∀ (c : ICode) (σ : St) (r : Ex × St), exec FT2 n c σ = some r → exec FT (n + N0) c σ = some r := by
  intro n
  induction n with
  | zero => exact ⟨fun f a G r h => by simp [callE] at h, fun c σ r h => by simp [exec] at h⟩
  | succ n ih =>
    obtain ⟨ihC, ihE⟩ := ih
    rw [Nat.succ_add]
    refine ⟨?_, ?_⟩
    · intro f a G r h
      rw [callE] at h
      cases hF : FT2 f with
      | none => rw [hF] at h; cases h
      | some F =>
        rw [hF] at h
        rcases T.at_ f F hF with e0 | ⟨g, e1, e2⟩
        · rw [callE, e0]
          simp only at h ⊢
          cases hi : F.intr with
          | some g => rw [hi] at h; exact h
          | none =>
            rw [hi] at h
            simp only at h ⊢
            cases he : exec FT2 n F.body ⟨a ++ List.replicate (F.ntmps - a.length) .junk, ⟨G.map some, List.replicate F.nslots ⟨0, none⟩⟩⟩ with
            | none => rw [he] at h; cases h
            | some p =>
              rw [he] at h
              rw [ihE _ _ _ he]
              exact h
        · simp only [e1] at h
          exact callE_mono (by omega) _ _ _ _ (e2 _ _ _ h)
    · intro c σ r h
      rw [exec.eq_def] at h ⊢
      simp only at h ⊢
      cases c with
      | skip => exact h
      | reg ops d =>
        cases d with
        | false =>
          simp only at h ⊢
          split at h
          · rename_i σ1 h1
            have h1 : runOps (ROof FT2) (callE FT2 n) ops σ = some σ1 := h1
            rw [T.ro] at h1
            show (match runOps (ROof FT) (callE FT (n + N0)) ops σ with | some σ' => some (Ex.norm, σ') | none => none) = _
            rw [runOps_le ihC h1]; exact h
          · cases h
        | true =>
          simp only at h ⊢
          split at h
          · rename_i σ1 h1
            have h1 : runOpsD2 (ROof FT2) (callE FT2 n) 0 [] ops σ = some σ1 := h1
            rw [T.ro] at h1
            show (match runOpsD2 (ROof FT) (callE FT (n + N0)) 0 [] ops σ with | some σ' => some (Ex.norm, σ') | none => none) = _
            rw [runOpsD2_le ihC h1]; exact h
          · cases h
      | seq a b =>
        simp only at h ⊢
        cases h1 : exec FT2 n a σ with
        | none => rw [h1] at h; cases h
        | some p =>
          obtain ⟨e, σ1⟩ := p
          rw [h1] at h; rw [ihE _ _ _ h1]
          cases e with
          | norm => exact ihE _ _ _ h
          | exit i => exact h
          | ret => exact h
      | cond d x y =>
        simp only at h ⊢
        split at h
        · exact ihE _ _ _ h
        · exact ihE _ _ _ h
        · cases h
      | block id x =>
        simp only at h ⊢
        cases h1 : exec FT2 n x σ with
        | none => rw [h1] at h; cases h
        | some p => rw [h1] at h; rw [ihE _ _ _ h1]; exact h
      | loop x =>
        simp only at h ⊢
        cases h1 : exec FT2 n x σ with
        | none => rw [h1] at h; cases h
        | some p =>
          obtain ⟨e, σ1⟩ := p
          rw [h1] at h; rw [ihE _ _ _ h1]
          cases e with
          | norm => exact ihE _ _ _ h
          | exit i => exact h
          | ret => exact h
      | exit i => exact h
      | ret => exact h
      | kill ts hs x => exact ihE _ _ _ h
end
/-- A table for reckoning that tells no more than the given one. -/
structure Good (QT : Nat → Option QF) (FT : Nat → Option IFun) : Prop where
  ok : ∀ f q, QT f = some q → okQ q = true
  ro : roQ QT = ROof FT
  bd : ∃ B, ∀ f q, QT f = some q → costE 1000 q.F.body ≤ B
  le : ∃ N0, MLe N0 (fun f => (QT f).map QF.F) FT
noncomputable def runG (QT : Nat → Option QF) (f : Nat) (args : List PV) : Ans := callR QT (roQ QT) 1000 60 f args []
theorem Good.run {QT : Nat → Option QF} {FT : Nat → Option IFun} (H : Good QT FT) : ∃ N, ∀ f args G x, callR QT (roQ QT) 1000 60 f args G = some x → callE FT N f args G = some x := by
  obtain ⟨B, hB⟩ := H.bd
  obtain ⟨N0, hle⟩ := H.le
  obtain ⟨N, hN⟩ := callR_ok (QT := QT) (FT := fun f => (QT f).map QF.F) (L := 1000) (B := B) (fun f q h => ⟨by simp only [h]; rfl, H.ok f q h⟩) (fun f F hF => by
    cases hq : QT f with
    | none => simp only [hq] at hF; cases hF
    | some q =>
      simp only [hq, Option.map_some, Option.some.injEq] at hF
      subst hF
      exact hB f q hq) 60
  refine ⟨N + N0, fun f args G x h => (hle.mono N).1 _ _ _ _ (hN _ _ _ _ ?_)⟩
  rw [← roQ_eq (QT := QT) (fun f => rfl)]
  exact h
theorem Good.yes {QT : Nat → Option QF} {FT : Nat → Option IFun} (H : Good QT FT) {f : Nat} {args : List PV} (h : isYes (runG QT f args) = true) : ∃ n, callE FT n f args [] = some (.bool true, []) := by
  obtain ⟨N, hN⟩ := H.run
  exact ⟨N, hN _ _ _ _ (isYes_eq h)⟩
theorem Good.base {Q : List (Option QF)} {T : List (Option IFun)} (hT : Q.map (Option.map QF.F) = T) (hq : okQs Q = true) : Good (tabQ Q) (tabOf T) := by
  have hF : ∀ f, tabOf T f = (tabQ Q f).map QF.F := fun f => by rw [← hT, tabOf_map]
  obtain ⟨B, hB⟩ := tab_bound 1000 T
  refine ⟨fun f q h => tabQ_ok hq h, roQ_eq hF, ⟨B, fun f q h => hB f q.F (by rw [hF, h]; rfl)⟩, ⟨0, ?_⟩⟩
  have e : (fun f => (tabQ Q f).map QF.F) = tabOf T := funext fun f => (hF f).symm
  rw [e]
  exact ⟨rfl, fun f F h => .inl h⟩
/-- .. with one more function answered out of facts. -/
noncomputable def memQ (QT : Nat → Option QF) (f : Nat) (q : QF) (g : Orc) (h : Nat) : Option QF := Bool.casesOn (Nat.beq h f) (QT h) (some ⟨memF q.F g, q.K, q.ks⟩)
theorem memQ_eq (QT : Nat → Option QF) (f : Nat) (q : QF) (g : Orc) (h : Nat) : memQ QT f q g h = if h = f then some ⟨memF q.F g, q.K, q.ks⟩ else QT h := by
  unfold memQ
  rw [beq_iff]
  by_cases hf : h = f
  · rw [if_pos hf, decide_eq_true hf]
  · rw [if_neg hf, decide_eq_false hf]
theorem Good.mem {QT : Nat → Option QF} {FT : Nat → Option IFun} (H : Good QT FT) {f : Nat} {q : QF} {g : Orc} (hf : QT f = some q) (hg : ∃ N, ∀ a G r, g a G = some r → callR QT (roQ QT) 1000 60 f a G = some r ∨ callE FT N f a G = some r) : Good (memQ QT f q g) FT := by
  obtain ⟨N, hN⟩ := hg
  obtain ⟨N1, hN1⟩ := H.run
  obtain ⟨B, hB⟩ := H.bd
  obtain ⟨N0, hle⟩ := H.le
  have hok : okQ ⟨memF q.F g, q.K, q.ks⟩ = okQ q := rfl
  have hro : roQ (memQ QT f q g) = roQ QT := by
    funext h
    unfold roQ
    rw [memQ_eq]
    by_cases hh : h = f
    · rw [if_pos hh, hh, hf]; rfl
    · rw [if_neg hh]
  refine ⟨fun h p hp => ?_, hro.trans H.ro, ⟨B, fun h p hp => ?_⟩, ?_⟩
  · rw [memQ_eq] at hp
    split at hp
    · simp only [Option.some.injEq] at hp; rw [← hp, hok]; exact H.ok f q hf
    · exact H.ok h p hp
  · rw [memQ_eq] at hp
    split at hp
    · simp only [Option.some.injEq] at hp; rw [← hp]; exact hB f q hf
    · exact hB h p hp
  · refine ⟨N0 + (N + N1), ?_, fun h F hF => ?_⟩
    · rw [← roQ_eq (QT := memQ QT f q g) (FT := fun f' => (memQ QT f q g f').map QF.F) (fun f => rfl), hro, H.ro]
    · have hF : (memQ QT f q g h).map QF.F = some F := hF
      rw [memQ_eq] at hF
      split at hF
      · rename_i e
        simp only [Option.map_some, Option.some.injEq] at hF
        refine .inr ⟨g, by rw [← hF]; rfl, fun a G r hr => ?_⟩
        rw [e]
        rcases hN a G r hr with h1 | h1
        · exact callE_mono (by omega) _ _ _ _ (hN1 _ _ _ _ h1)
        · exact callE_mono (by omega) _ _ _ _ h1
      · rcases hle.at_ h F hF with h1 | ⟨g1, h1, h2⟩
        · exact .inl h1
        · exact .inr ⟨g1, h1, fun a G r hr => callE_mono (by omega) _ _ _ _ (h2 a G r hr)⟩
/-- A function of no arguments that answers yes. -/
noncomputable def yesO : Orc := fun a G => List.casesOn a (List.casesOn G (some (.bool true, [])) fun _ _ => none) fun _ _ => none
theorem yesO_eq {a : List PV} {G : List Blk} {r : PV × List (Option Blk)} (h : yesO a G = some r) : a = [] ∧ G = [] ∧ r = (.bool true, []) := by
  cases a <;> cases G <;> simp_all [yesO]
theorem Good.memYes {QT : Nat → Option QF} {FT : Nat → Option IFun} (H : Good QT FT) {f : Nat} {q : QF} (hf : QT f = some q) (h : isYes (runG QT f []) = true) : Good (memQ QT f q yesO) FT :=
  H.mem hf ⟨0, fun a G r hr => by
    obtain ⟨rfl, rfl, rfl⟩ := yesO_eq hr
    exact .inl (isYes_eq h)⟩
/-- A law's arguments, looked at in a few places. -/
theorem yes_swapE {FT : Nat → Option IFun} {f : Nat} {F : IFun} {S : Tn} {Ls : List Ob} {args args' : List PV} (hF : FT f = some F) (hi : F.intr = none) (ho : obCode S F.body = some Ls) (hr : obRes S F.res = true)
    (hl : args.length = args'.length) (ha : ∀ t, t < args.length → match tnAt S t with | none => nth args t = nth args' t | some i => i = t)
    (hL : ∀ ob ∈ Ls, ObEq FT (nth args) (nth args') ob) (h : ∃ n, callE FT n f args' [] = some (.bool true, [])) : ∃ n, callE FT n f args [] = some (.bool true, []) := by
  obtain ⟨n, hn⟩ := h
  exact ⟨n, callE_swap hF hi ho hr hL hl ha hn⟩
end Gv
