/- What this file proves: one part of the proof that the law answers true for every input, by an interpreter that is proved sound against the given model. -/
import Derived.Test.YtldplidcfhphhaaEc
namespace Gv
open Go (IntKind BinOp UnOp)

/-! ### Values made plain, for a reckoner that goes by name: each of these is its continuation at the same value -/
def fNat {α : Type} (n : Nat) (k : Nat → α) : α := Nat.casesOn n (k 0) (fun m => k (Nat.succ m))
@[simp] theorem fNat_eq {α : Type} (n : Nat) (k : Nat → α) : fNat n k = k n := by cases n <;> rfl
def fInt {α : Type} (n : Int) (k : Int → α) : α := Int.casesOn n (fun n => fNat n fun n => k (Int.ofNat n)) (fun n => fNat n fun n => k (Int.negSucc n))
@[simp] theorem fInt_eq {α : Type} (n : Int) (k : Int → α) : fInt n k = k n := by cases n <;> simp [fInt]
def fBool {α : Type} (b : Bool) (k : Bool → α) : α := Bool.casesOn b (k false) (k true)
@[simp] theorem fBool_eq {α : Type} (b : Bool) (k : Bool → α) : fBool b k = k b := by cases b <;> rfl
def fRef {α : Type} (r : Ref) (k : Ref → α) : α := Ref.casesOn r (fun n => fNat n fun n => k (.a n)) (fun n => fNat n fun n => k (.l n)) (k .dead)
@[simp] theorem fRef_eq {α : Type} (r : Ref) (k : Ref → α) : fRef r k = k r := by cases r <;> simp [fRef]
def fList {α : Type} {β : Type} (f : α → (α → β) → β) : List α → (List α → β) → β
  | [], k => k []
  | x :: xs, k => f x fun x => fList f xs fun xs => k (x :: xs)
theorem fList_eq {α : Type} {β : Type} {f : α → (α → β) → β} (hf : ∀ x k, f x k = k x) : ∀ (l : List α) (k : List α → β), fList f l k = k l
  | [], k => rfl
  | x :: xs, k => by rw [fList, hf, fList_eq hf xs]
/-- One level. -/
def fPV0 {α : Type} (v : PV) (k : PV → α) : α :=
  PV.casesOn v (fun kd n => fInt n fun n => k (.int kd n)) (fun b => fBool b fun b => k (.bool b)) (fun s => k (.str s)) (k .nils) (fun es c => k (.lst es c))
    (fun r ver sz off len room c0 => fRef r fun r => fNat ver fun ver => fNat sz fun sz => fNat off fun off => fNat len fun len => fNat room fun room => fBool c0 fun c0 => k (.tok r ver sz off len room c0))
    (fun r ver i o => fRef r fun r => fNat ver fun ver => fNat i fun i => fNat o fun o => k (.ptr r ver i o))
    (k .nilp) (fun cs => k (.lptr cs)) (fun cs => k (.agg cs)) (fun vs => k (.tup vs)) (fun f cs => k (.fn f cs)) (k .nilfn) (k .junk)
@[simp] theorem fPV0_eq {α : Type} (v : PV) (k : PV → α) : fPV0 v k = k v := by cases v <;> simp [fPV0]
/-- Cells, too. -/
def fPV1 {α : Type} (v : PV) (k : PV → α) : α :=
  PV.casesOn v (fun kd n => fInt n fun n => k (.int kd n)) (fun b => fBool b fun b => k (.bool b)) (fun s => k (.str s)) (k .nils) (fun es c => k (.lst es c))
    (fun r ver sz off len room c0 => fRef r fun r => fNat ver fun ver => fNat sz fun sz => fNat off fun off => fNat len fun len => fNat room fun room => fBool c0 fun c0 => k (.tok r ver sz off len room c0))
    (fun r ver i o => fRef r fun r => fNat ver fun ver => fNat i fun i => fNat o fun o => k (.ptr r ver i o))
    (k .nilp) (fun cs => fList fPV0 cs fun cs => k (.lptr cs)) (fun cs => fList fPV0 cs fun cs => k (.agg cs)) (fun vs => fList fPV0 vs fun vs => k (.tup vs)) (fun f cs => fList fPV0 cs fun cs => k (.fn f cs)) (k .nilfn) (k .junk)
@[simp] theorem fPV1_eq {α : Type} (v : PV) (k : PV → α) : fPV1 v k = k v := by cases v <;> simp [fPV1, fList_eq fPV0_eq]
def fPV2 {α : Type} (v : PV) (k : PV → α) : α :=
  PV.casesOn v (fun kd n => fInt n fun n => k (.int kd n)) (fun b => fBool b fun b => k (.bool b)) (fun s => k (.str s)) (k .nils) (fun es c => fList fPV0 es fun es => fBool c fun c => k (.lst es c))
    (fun r ver sz off len room c0 => fRef r fun r => fNat ver fun ver => fNat sz fun sz => fNat off fun off => fNat len fun len => fNat room fun room => fBool c0 fun c0 => k (.tok r ver sz off len room c0))
    (fun r ver i o => fRef r fun r => fNat ver fun ver => fNat i fun i => fNat o fun o => k (.ptr r ver i o))
    (k .nilp) (fun cs => fList fPV0 cs fun cs => k (.lptr cs)) (fun cs => fList fPV0 cs fun cs => k (.agg cs)) (fun vs => fList fPV1 vs fun vs => k (.tup vs)) (fun f cs => fList fPV0 cs fun cs => k (.fn f cs)) (k .nilfn) (k .junk)
@[simp] theorem fPV2_eq {α : Type} (v : PV) (k : PV → α) : fPV2 v k = k v := by cases v <;> simp [fPV2, fList_eq fPV0_eq, fList_eq fPV1_eq]
def fBlk {α : Type} (b : Blk) (k : Blk → α) : α := Blk.casesOn b fun sz es ro => fNat sz fun sz => fList fPV1 es fun es => fBool ro fun ro => k ⟨sz, es, ro⟩
@[simp] theorem fBlk_eq {α : Type} (b : Blk) (k : Blk → α) : fBlk b k = k b := by cases b; simp [fBlk, fList_eq fPV1_eq]
def fOpt {α : Type} {β : Type} (f : α → (α → β) → β) (o : Option α) (k : Option α → β) : β := Option.casesOn o (k none) (fun x => f x fun x => k (some x))
theorem fOpt_eq {α : Type} {β : Type} {f : α → (α → β) → β} (hf : ∀ x k, f x k = k x) (o : Option α) (k : Option α → β) : fOpt f o k = k o := by cases o <;> simp [fOpt, hf]
def fEnt {α : Type} (e : Ent) (k : Ent → α) : α := Ent.casesOn e fun ver blk => fNat ver fun ver => fOpt fBlk blk fun blk => k ⟨ver, blk⟩
@[simp] theorem fEnt_eq {α : Type} (e : Ent) (k : Ent → α) : fEnt e k = k e := by cases e; simp [fEnt, fOpt_eq fBlk_eq]
def setK {α : Type} {β : Type} : List α → Nat → α → (List α → β) → β
  | [], _, _, k => k []
  | x :: xs, n, y, k => Nat.casesOn n (k (y :: xs)) fun n => setK xs n y fun xs => k (x :: xs)
theorem setK_eq {α : Type} {β : Type} : ∀ (l : List α) (n : Nat) (y : α) (k : List α → β), setK l n y k = k (l.set n y)
  | [], _, _, _ => rfl
  | x :: xs, 0, y, k => rfl
  | x :: xs, n + 1, y, k => by rw [List.set_cons_succ, ← setK_eq xs n y fun xs => k (x :: xs)]; rfl
def putH {β : Type} (h : Heap) (r : Ref) (e : Ent) (k : Heap → β) : β := Heap.casesOn h fun A L => Ref.casesOn r (fun i => setK A i e.blk fun A => k ⟨A, L⟩) (fun s => setK L s e fun L => k ⟨A, L⟩) (k ⟨A, L⟩)
@[simp] theorem putH_eq {β : Type} (h : Heap) (r : Ref) (e : Ent) (k : Heap → β) : putH h r e k = k (h.put r e) := by
  cases h; cases r <;> simp [putH, Heap.put, setK_eq]
def runK {α β : Type} : HM α → Heap → (α → Heap → Option β) → Option β
  | .ret a, h, k => k a h
  | .fail, _, _ => none
  | .get r kk, h, k => match h.get r with | some e => runK (kk e) h k | none => none
  | .set r e kk, h, k => match h.get r with | some _ => fEnt e fun e => putH h r e fun h => runK kk h k | none => none
theorem runK_eq {α β : Type} : ∀ (m : HM α) (h : Heap) (k : α → Heap → Option β), runK m h k = match m.run h with | some (a, h') => k a h' | none => none := by
  intro m
  induction m with
  | ret a => intro h k; rfl
  | fail => intro h k; rfl
  | get r kk ih =>
    intro h k
    simp only [runK, HM.run]
    cases h.get r with
    | none => rfl
    | some e => exact ih e h k
  | set r e kk ih =>
    intro h k
    simp only [runK, HM.run]
    cases h.get r with
    | none => rfl
    | some e' => simp only [fEnt_eq, putH_eq]; exact ih _ k
def runTK {α β : Type} : HM α → Heap → (α → Heap → List Ref → List Ref → Option β) → Option β
  | .ret a, h, k => k a h [] []
  | .fail, _, _ => none
  | .get r kk, h, k => match h.get r with | some e => runTK (kk e) h (fun a h R W => fRef r fun r => k a h (r :: R) W) | none => none
  | .set r e kk, h, k => match h.get r with | some _ => fEnt e fun e => putH h r e fun h => runTK kk h (fun a h R W => fRef r fun r => k a h R (r :: W)) | none => none
theorem runTK_eq {α β : Type} : ∀ (m : HM α) (h : Heap) (k : α → Heap → List Ref → List Ref → Option β), runTK m h k = match m.runT h with | some (a, h', R, W) => k a h' R W | none => none := by
  intro m
  induction m with
  | ret a => intro h k; rfl
  | fail => intro h k; rfl
  | get r kk ih =>
    intro h k
    simp only [runTK, HM.runT]
    cases h.get r with
    | none => rfl
    | some e =>
      simp only [ih e h, fRef_eq]
      cases (kk e).runT h with
      | none => rfl
      | some p => rfl
  | set r e kk ih =>
    intro h k
    simp only [runTK, HM.runT]
    cases h.get r with
    | none => rfl
    | some e' =>
      simp only [fEnt_eq, putH_eq, ih _, fRef_eq]
      cases kk.runT (h.put r e) with
      | none => rfl
      | some p => rfl

/-! ### Frames as tries -/
structure N8 (α : Type) where
  (a0 a1 a2 a3 a4 a5 a6 a7 : α)
def N8.sel {α : Type} (n : N8 α) (i : Nat) : α :=
  N8.casesOn n fun a0 a1 a2 a3 a4 a5 a6 a7 => Nat.casesOn i a0 fun i => Nat.casesOn i a1 fun i => Nat.casesOn i a2 fun i => Nat.casesOn i a3 fun i => Nat.casesOn i a4 fun i => Nat.casesOn i a5 fun i => Nat.casesOn i a6 fun _ => a7
def N8.upd {α β : Type} (n : N8 α) (i : Nat) (f : α → (α → β) → β) (k : N8 α → β) : β :=
  N8.casesOn n fun a0 a1 a2 a3 a4 a5 a6 a7 => Nat.casesOn i (f a0 fun y => k ⟨y, a1, a2, a3, a4, a5, a6, a7⟩) fun i => Nat.casesOn i (f a1 fun y => k ⟨a0, y, a2, a3, a4, a5, a6, a7⟩)
    fun i => Nat.casesOn i (f a2 fun y => k ⟨a0, a1, y, a3, a4, a5, a6, a7⟩) fun i => Nat.casesOn i (f a3 fun y => k ⟨a0, a1, a2, y, a4, a5, a6, a7⟩) fun i => Nat.casesOn i (f a4 fun y => k ⟨a0, a1, a2, a3, y, a5, a6, a7⟩)
    fun i => Nat.casesOn i (f a5 fun y => k ⟨a0, a1, a2, a3, a4, y, a6, a7⟩) fun i => Nat.casesOn i (f a6 fun y => k ⟨a0, a1, a2, a3, a4, a5, y, a7⟩) fun _ => f a7 fun y => k ⟨a0, a1, a2, a3, a4, a5, a6, y⟩
def N8.set {α : Type} (n : N8 α) (i : Nat) (y : α) : N8 α := n.upd i (fun _ k => k y) id
theorem N8.sel_set {α : Type} (n : N8 α) {i j : Nat} (y : α) (hi : i < 8) (hj : j < 8) : (n.set i y).sel j = if j = i then y else n.sel j := by
  cases n
  match i, j, hi, hj with
  | 0, 0, _, _ | 0, 1, _, _ | 0, 2, _, _ | 0, 3, _, _ | 0, 4, _, _ | 0, 5, _, _ | 0, 6, _, _ | 0, 7, _, _ => rfl
  | 1, 0, _, _ | 1, 1, _, _ | 1, 2, _, _ | 1, 3, _, _ | 1, 4, _, _ | 1, 5, _, _ | 1, 6, _, _ | 1, 7, _, _ => rfl
  | 2, 0, _, _ | 2, 1, _, _ | 2, 2, _, _ | 2, 3, _, _ | 2, 4, _, _ | 2, 5, _, _ | 2, 6, _, _ | 2, 7, _, _ => rfl
  | 3, 0, _, _ | 3, 1, _, _ | 3, 2, _, _ | 3, 3, _, _ | 3, 4, _, _ | 3, 5, _, _ | 3, 6, _, _ | 3, 7, _, _ => rfl
  | 4, 0, _, _ | 4, 1, _, _ | 4, 2, _, _ | 4, 3, _, _ | 4, 4, _, _ | 4, 5, _, _ | 4, 6, _, _ | 4, 7, _, _ => rfl
  | 5, 0, _, _ | 5, 1, _, _ | 5, 2, _, _ | 5, 3, _, _ | 5, 4, _, _ | 5, 5, _, _ | 5, 6, _, _ | 5, 7, _, _ => rfl
  | 6, 0, _, _ | 6, 1, _, _ | 6, 2, _, _ | 6, 3, _, _ | 6, 4, _, _ | 6, 5, _, _ | 6, 6, _, _ | 6, 7, _, _ => rfl
  | 7, 0, _, _ | 7, 1, _, _ | 7, 2, _, _ | 7, 3, _, _ | 7, 4, _, _ | 7, 5, _, _ | 7, 6, _, _ | 7, 7, _, _ => rfl
theorem N8.upd_eq {α β : Type} (n : N8 α) {i : Nat} {f : α → (α → β) → β} {g : α → α} (hf : ∀ x k, f x k = k (g x)) (hi : i < 8) (k : N8 α → β) : n.upd i f k = k (n.set i (g (n.sel i))) := by
  cases n
  match i, hi with
  | 0, _ | 1, _ | 2, _ | 3, _ | 4, _ | 5, _ | 6, _ | 7, _ => exact hf _ _
abbrev T3 (α : Type) := N8 (N8 (N8 α))
def T3.get {α : Type} (T : T3 α) (t : Nat) : α := ((N8.sel T (Nat.div t 64)).sel (Nat.mod (Nat.div t 8) 8)).sel (Nat.mod t 8)
def T3.put {α β : Type} (T : T3 α) (t : Nat) (v : α) (k : T3 α → β) : β :=
  N8.upd T (Nat.div t 64) (fun T k => T.upd (Nat.mod (Nat.div t 8) 8) (fun T k => T.upd (Nat.mod t 8) (fun _ k => k v) k) k) k
def T3.set {α : Type} (T : T3 α) (t : Nat) (v : α) : T3 α :=
  N8.set T (t / 64) ((N8.sel T (t / 64)).set (t / 8 % 8) (((N8.sel T (t / 64)).sel (t / 8 % 8)).set (t % 8) v))
theorem T3.put_eq {α β : Type} (T : T3 α) {t : Nat} (ht : t < 512) (v : α) (k : T3 α → β) : T3.put T t v k = k (T.set t v) := by
  have h1 : t / 64 < 8 := by omega
  have h2 : t / 8 % 8 < 8 := by omega
  have h3 : t % 8 < 8 := by omega
  refine (N8.upd_eq (g := fun T1 : N8 (N8 α) => T1.set (t / 8 % 8) ((T1.sel (t / 8 % 8)).set (t % 8) v)) T (fun x k => ?_) h1 k).trans rfl
  refine (N8.upd_eq (g := fun T2 : N8 α => T2.set (t % 8) v) x (fun x k => ?_) h2 k).trans rfl
  exact (N8.upd_eq (g := fun _ => v) x (fun x k => rfl) h3 k).trans rfl
theorem T3.get_set {α : Type} (T : T3 α) {t s : Nat} (ht : t < 512) (hs : s < 512) (v : α) : T3.get (T.set t v) s = if s = t then v else T3.get T s := by
  show ((N8.sel (T3.set T t v) (s / 64)).sel (s / 8 % 8)).sel (s % 8) = if s = t then v else ((N8.sel T (s / 64)).sel (s / 8 % 8)).sel (s % 8)
  unfold T3.set
  rw [N8.sel_set _ _ (by omega) (by omega)]
  by_cases h1 : s / 64 = t / 64
  · rw [if_pos h1, N8.sel_set _ _ (by omega) (by omega)]
    by_cases h2 : s / 8 % 8 = t / 8 % 8
    · rw [if_pos h2, N8.sel_set _ _ (by omega) (by omega)]
      by_cases h3 : s % 8 = t % 8
      · rw [if_pos h3, if_pos (by omega)]
      · rw [if_neg h3, if_neg (by omega), h1, h2]
    · rw [if_neg h2, if_neg (by omega), h1]
  · rw [if_neg h1, if_neg (by omega)]
def N8.all {α : Type} (x : α) : N8 α := ⟨x, x, x, x, x, x, x, x⟩
def T3.all {α : Type} (x : α) : T3 α := N8.all (N8.all (N8.all x))
theorem N8.sel_all {α : Type} (x : α) (i : Nat) : (N8.all x).sel i = x := by
  match i with
  | 0 | 1 | 2 | 3 | 4 | 5 | 6 => rfl
  | n + 7 => rfl
theorem T3.get_all {α : Type} (x : α) (t : Nat) : T3.get (T3.all x) t = x := by
  unfold T3.get T3.all; rw [N8.sel_all, N8.sel_all, N8.sel_all]

/-- A frame of n. -/
def getF (n : Nat) (T : T3 PV) (t : Nat) : PV := Bool.casesOn (Nat.ble n t) (T3.get T t) .junk
def putF {β : Type} (n : Nat) (T : T3 PV) (t : Nat) (v : PV) (k : T3 PV → β) : β := Bool.casesOn (Nat.ble n t) (T3.put T t v k) (k T)
structure FrK (n : Nat) (fr : List PV) (T : T3 PV) : Prop where
  len : fr.length = n
  le : n ≤ 512
  at_ : ∀ t, nth fr t = getF n T t
theorem getF_eq (n : Nat) (T : T3 PV) (t : Nat) : getF n T t = if n ≤ t then .junk else T3.get T t := by
  unfold getF
  by_cases h : n ≤ t
  · rw [if_pos h, Nat.ble_eq_true_of_le h]
  · rw [if_neg h]
    cases hb : Nat.ble n t with
    | false => rfl
    | true => exact absurd (Nat.le_of_ble_eq_true hb) h
theorem putF_ok {β : Type} {n : Nat} {fr : List PV} {T : T3 PV} (R : FrK n fr T) (d : Nat) (v : PV) (k : T3 PV → β) : ∃ T', FrK n (upd fr d v) T' ∧ putF n T d v k = k T' := by
  unfold putF
  by_cases h : n ≤ d
  · rw [Nat.ble_eq_true_of_le h]
    refine ⟨T, ⟨by rw [upd_length, R.len], R.le, fun t => ?_⟩, rfl⟩
    rw [nth_upd, if_neg (by rw [R.len]; omega), R.at_]
  · have hb : Nat.ble n d = false := by
      cases hb : Nat.ble n d with
      | false => rfl
      | true => exact absurd (Nat.le_of_ble_eq_true hb) h
    rw [hb]
    have hd : d < 512 := by have := R.le; omega
    refine ⟨T.set d v, ⟨by rw [upd_length, R.len], R.le, fun t => ?_⟩, T3.put_eq T hd v k⟩
    rw [nth_upd, R.at_, getF_eq, getF_eq, R.len]
    by_cases ht : n ≤ t
    · rw [if_pos ht, if_pos ht, if_neg (by omega)]
    · rw [if_neg ht, if_neg ht, T3.get_set _ hd (by have := R.le; omega)]
      by_cases e : t = d
      · rw [if_pos e, if_pos ⟨e, by omega⟩]
      · rw [if_neg e, if_neg (by intro h; exact e h.1)]
end Gv

namespace Gv
open Go (IntKind BinOp UnOp)

def evF (n : Nat) (T : T3 PV) : PO → PV
  | .t t => getF n T t
  | .c v => v
theorem evF_eq {n : Nat} {fr : List PV} {T : T3 PV} (R : FrK n fr T) : evF n T = PO.ev fr := by
  funext x
  cases x with
  | t t => exact (R.at_ t).symm
  | c v => rfl
def wantedK (n : Nat) (T : T3 PV) (g : Option (Nat × Bool)) : Option Bool :=
  match g with
  | none => some true
  | some (t, b) => match getF n T t with
    | .bool c => some (c == b)
    | .tup [] => some false
    | _ => none
theorem wantedK_eq {n : Nat} {fr : List PV} {T : T3 PV} (R : FrK n fr T) (g : Option (Nat × Bool)) : wantedK n T g = wanted fr g := by
  cases g with
  | none => rfl
  | some p => simp only [wantedK, wanted, R.at_]; rfl
def putD {β : Type} (n : Nat) (T : T3 PV) (dst : Option Nat) (v : PV) (k : T3 PV → β) : β := match dst with | some d => putF n T d v k | none => k T
theorem putD_ok {β : Type} {n : Nat} {fr : List PV} {T : T3 PV} (R : FrK n fr T) (dst : Option Nat) (v : PV) (k : T3 PV → β) : ∃ T', FrK n (putDst fr dst v) T' ∧ putD n T dst v k = k T' := by
  cases dst with
  | none => exact ⟨T, R, rfl⟩
  | some d => exact putF_ok R d v k
section
variable {β : Type} (RO : Nat → List Bool) (C : CallF)
def stepK (n : Nat) (o : IOper) (T : T3 PV) (h : Heap) (k : T3 PV → Heap → Option β) : Option β :=
  match wantedK n T o.guard with
  | some true => runK (sem RO C (evF n T) o.op) h fun v h => fPV2 v fun v => putD n T o.dst v fun T => k T h
  | some false => putD n T o.dst (.tup []) fun T => k T h
  | none => none
def runOpsK (n : Nat) : List IOper → T3 PV → Heap → (T3 PV → Heap → Option β) → Option β
  | [], T, h, k => k T h
  | o :: os, T, h, k => stepK RO C n o T h fun T h => runOpsK n os T h k
def stepTK (n : Nat) (o : IOper) (T : T3 PV) (h : Heap) (k : T3 PV → Heap → List Ref → List Ref → Option β) : Option β :=
  match wantedK n T o.guard with
  | some true => runTK (sem RO C (evF n T) o.op) h fun v h R W => fPV2 v fun v => putD n T o.dst v fun T => k T h R W
  | some false => putD n T o.dst (.tup []) fun T => k T h [] []
  | none => none
def runOpsDK (n : Nat) : Nat → List (Nat × List Ref × List Ref) → List IOper → T3 PV → Heap → (T3 PV → Heap → Option β) → Option β
  | _, _, [], T, h, k => k T h
  | j, acc, o :: os, T, h, k => stepTK RO C n o T h fun T h R W =>
    match acc.all (fun x => o.bef.contains x.1 || apart x.2.1 x.2.2 R W) with
    | true => fNat j fun j => runOpsDK n (j + 1) ((j, R, W) :: acc) os T h k
    | false => none
variable {RO C}
theorem stepK_ok {n : Nat} {o : IOper} {fr : List PV} {T : T3 PV} {h : Heap} {k : T3 PV → Heap → Option β} {b : β} (R : FrK n fr T) (hs : stepK RO C n o T h k = some b) :
    ∃ fr' T' h', FrK n fr' T' ∧ stepOp RO C o ⟨fr, h⟩ = some ⟨fr', h'⟩ ∧ k T' h' = some b := by
  unfold stepK at hs
  rw [wantedK_eq R] at hs
  unfold stepOp
  split at hs
  · rename_i hw
    rw [hw]
    rw [runK_eq, evF_eq R] at hs
    split at hs
    · rename_i v h' hr
      simp only [fPV2_eq] at hs
      obtain ⟨T', R', e⟩ := putD_ok R o.dst v fun T => k T h'
      rw [e] at hs
      exact ⟨_, T', h', R', by simp only [hr], hs⟩
    · cases hs
  · rename_i hw
    rw [hw]
    obtain ⟨T', R', e⟩ := putD_ok R o.dst (.tup []) fun T => k T h
    rw [e] at hs
    exact ⟨_, T', h, R', rfl, hs⟩
  · cases hs
theorem runOpsK_ok {n : Nat} {b : β} : ∀ {os : List IOper} {fr : List PV} {T : T3 PV} {h : Heap} {k : T3 PV → Heap → Option β}, FrK n fr T → runOpsK RO C n os T h k = some b →
    ∃ fr' T' h', FrK n fr' T' ∧ runOps RO C os ⟨fr, h⟩ = some ⟨fr', h'⟩ ∧ k T' h' = some b
  | [], fr, T, h, k, R, hs => ⟨fr, T, h, R, rfl, hs⟩
  | o :: os, fr, T, h, k, R, hs => by
    simp only [runOpsK] at hs
    obtain ⟨fr1, T1, h1, R1, e1, k1⟩ := stepK_ok R hs
    obtain ⟨fr2, T2, h2, R2, e2, k2⟩ := runOpsK_ok R1 k1
    exact ⟨fr2, T2, h2, R2, by simp only [runOps, e1, e2], k2⟩
theorem stepTK_ok {n : Nat} {o : IOper} {fr : List PV} {T : T3 PV} {h : Heap} {k : T3 PV → Heap → List Ref → List Ref → Option β} {b : β} (R : FrK n fr T) (hs : stepTK RO C n o T h k = some b) :
    ∃ fr' T' h' Rs Ws, FrK n fr' T' ∧ stepT RO C o ⟨fr, h⟩ = some (⟨fr', h'⟩, Rs, Ws) ∧ k T' h' Rs Ws = some b := by
  unfold stepTK at hs
  rw [wantedK_eq R] at hs
  unfold stepT
  split at hs
  · rename_i hw
    rw [hw]
    rw [runTK_eq, evF_eq R] at hs
    split at hs
    · rename_i v h' Rs Ws hr
      simp only [fPV2_eq] at hs
      obtain ⟨T', R', e⟩ := putD_ok R o.dst v fun T => k T h' Rs Ws
      rw [e] at hs
      exact ⟨_, T', h', Rs, Ws, R', by simp only [hr], hs⟩
    · cases hs
  · rename_i hw
    rw [hw]
    obtain ⟨T', R', e⟩ := putD_ok R o.dst (.tup []) fun T => k T h [] []
    rw [e] at hs
    exact ⟨_, T', h, [], [], R', rfl, hs⟩
  · cases hs
theorem runOpsDK_ok {n : Nat} {b : β} : ∀ {os : List IOper} {j : Nat} {acc : List (Nat × List Ref × List Ref)} {fr : List PV} {T : T3 PV} {h : Heap} {k : T3 PV → Heap → Option β}, FrK n fr T → runOpsDK RO C n j acc os T h k = some b →
    ∃ fr' T' h', FrK n fr' T' ∧ runOpsD RO C j acc os ⟨fr, h⟩ = some ⟨fr', h'⟩ ∧ k T' h' = some b
  | [], j, acc, fr, T, h, k, R, hs => ⟨fr, T, h, R, rfl, hs⟩
  | o :: os, j, acc, fr, T, h, k, R, hs => by
    simp only [runOpsDK] at hs
    obtain ⟨fr1, T1, h1, Rs, Ws, R1, e1, k1⟩ := stepTK_ok R hs
    split at k1
    · rename_i ha
      rw [fNat_eq] at k1
      obtain ⟨fr2, T2, h2, R2, e2, k2⟩ := runOpsDK_ok R1 k1
      refine ⟨fr2, T2, h2, R2, ?_, k2⟩
      simp only [runOpsD, e1]
      rw [if_pos ha, e2]
    · cases k1
end

/-- Rounds. -/
def loopK {β : Type} (body : T3 PV → Heap → (Ex → T3 PV → Heap → Option β) → Option β) : Nat → T3 PV → Heap → (Ex → T3 PV → Heap → Option β) → Option β
  | 0, _, _, _ => none
  | n + 1, T, h, k => body T h fun ex T h => Ex.casesOn ex (loopK body n T h k) (fun i => k (.exit i) T h) (k .ret T h)
def execK {β : Type} (RO : Nat → List Bool) (C : CallF) (L n : Nat) : ICode → T3 PV → Heap → (Ex → T3 PV → Heap → Option β) → Option β
  | .skip, T, h, k => k .norm T h
  | .reg ops d, T, h, k => Bool.casesOn d (runOpsK RO C n ops T h fun T h => k .norm T h) (runOpsDK RO C n 0 [] ops T h fun T h => k .norm T h)
  | .seq a b, T, h, k => execK RO C L n a T h fun ex T h => Ex.casesOn ex (execK RO C L n b T h k) (fun i => k (.exit i) T h) (k .ret T h)
  | .cond c x y, T, h, k => match evF n T c with
    | .bool true => execK RO C L n x T h k
    | .bool false => execK RO C L n y T h k
    | _ => none
  | .block id c, T, h, k => execK RO C L n c T h fun ex T h => Ex.casesOn ex (k .norm T h) (fun i => Bool.casesOn (Nat.beq i id) (k (.exit i) T h) (k .norm T h)) (k .ret T h)
  | .loop c, T, h, k => loopK (fun T h k => execK RO C L n c T h k) L T h k
  | .exit i, T, h, k => k (.exit i) T h
  | .ret, T, h, k => k .ret T h
  | .kill _ _ _, _, _, _ => none

section
variable {β : Type} {FT : Nat → Option IFun} {C : CallF} {N L n : Nat}
abbrev ROof (FT : Nat → Option IFun) : Nat → List Bool := fun f => match FT f with | some F => F.ro | none => []
theorem loopK_ok {c : ICode} {D : Nat} {b : β} (hD : 0 < D)
    (hb : ∀ {fr : List PV} {T : T3 PV} {h : Heap} {k : Ex → T3 PV → Heap → Option β}, FrK n fr T → execK (ROof FT) C L n c T h k = some b → ∃ ex fr' T' h', FrK n fr' T' ∧ exec FT D c ⟨fr, h⟩ = some (ex, ⟨fr', h'⟩) ∧ k ex T' h' = some b) :
    ∀ (l : Nat) {fr : List PV} {T : T3 PV} {h : Heap} {k : Ex → T3 PV → Heap → Option β}, FrK n fr T → loopK (fun T h k => execK (ROof FT) C L n c T h k) l T h k = some b →
      ∃ ex fr' T' h', FrK n fr' T' ∧ exec FT (D + l + 1) (.loop c) ⟨fr, h⟩ = some (ex, ⟨fr', h'⟩) ∧ k ex T' h' = some b
  | 0, fr, T, h, k, R, hs => by simp [loopK] at hs
  | l + 1, fr, T, h, k, R, hs => by
    simp only [loopK] at hs
    obtain ⟨ex, fr1, T1, h1, R1, e1, k1⟩ := hb R hs
    have e1' := exec_mono (show D ≤ D + (l + 1) by omega) e1
    cases ex with
    | norm =>
      obtain ⟨ex2, fr2, T2, h2, R2, e2, k2⟩ := loopK_ok hD hb l R1 k1
      refine ⟨ex2, fr2, T2, h2, R2, ?_, k2⟩
      rw [exec.eq_def]; simp only [e1']
      rw [show D + (l + 1) = D + l + 1 by omega]; exact e2
    | exit i =>
      refine ⟨.exit i, fr1, T1, h1, R1, ?_, k1⟩
      rw [exec.eq_def]; simp only [e1']
    | ret =>
      refine ⟨.ret, fr1, T1, h1, R1, ?_, k1⟩
      rw [exec.eq_def]; simp only [e1']
/-- How many rounds E takes. -/
def costE (L : Nat) : ICode → Nat
  | .seq a b => max (costE L a) (costE L b) + 1
  | .cond _ a b => max (costE L a) (costE L b) + 1
  | .block _ c => costE L c + 1
  | .loop c => costE L c + L + 1
  | .kill _ _ c => costE L c + 1
  | .skip => 1
  | .reg _ _ => 1
  | .exit _ => 1
  | .ret => 1
theorem costE_pos (L : Nat) (c : ICode) : 0 < costE L c := by cases c <;> simp [costE]
theorem execK_ok (hC : CLe C (callE FT N)) {b : β} : ∀ (c : ICode) {fr : List PV} {T : T3 PV} {h : Heap} {k : Ex → T3 PV → Heap → Option β}, FrK n fr T → execK (ROof FT) C L n c T h k = some b →
    ∃ ex fr' T' h', FrK n fr' T' ∧ exec FT (N + costE L c) c ⟨fr, h⟩ = some (ex, ⟨fr', h'⟩) ∧ k ex T' h' = some b
  | .skip, fr, T, h, k, R, hs => ⟨.norm, fr, T, h, R, by rw [costE, exec.eq_def], hs⟩
  | .reg ops d, fr, T, h, k, R, hs => by
    cases d with
    | false =>
      obtain ⟨fr', T', h', R', e, hk⟩ := runOpsK_ok R hs
      refine ⟨.norm, fr', T', h', R', ?_, hk⟩
      have e2 := runOps_le hC e
      rw [costE, exec.eq_def]
      show (match runOps (ROof FT) (callE FT N) ops ⟨fr, h⟩ with | some σ' => some (Ex.norm, σ') | none => none) = _
      rw [e2]
    | true =>
      obtain ⟨fr', T', h', R', e, hk⟩ := runOpsDK_ok R hs
      refine ⟨.norm, fr', T', h', R', ?_, hk⟩
      have e2 := runOpsD_le hC e
      rw [costE, exec.eq_def]
      show (match runOpsD (ROof FT) (callE FT N) 0 [] ops ⟨fr, h⟩ with | some σ' => some (Ex.norm, σ') | none => none) = _
      rw [e2]
  | .seq x y, fr, T, h, k, R, hs => by
    simp only [execK] at hs
    obtain ⟨ex, fr1, T1, h1, R1, e1, k1⟩ := execK_ok hC x R hs
    have e1' := exec_mono (show N + costE L x ≤ N + max (costE L x) (costE L y) by omega) e1
    cases ex with
    | norm =>
      obtain ⟨ex2, fr2, T2, h2, R2, e2, k2⟩ := execK_ok hC y R1 k1
      have e2' := exec_mono (show N + costE L y ≤ N + max (costE L x) (costE L y) by omega) e2
      refine ⟨ex2, fr2, T2, h2, R2, ?_, k2⟩
      rw [costE, ← Nat.add_assoc, exec.eq_def]; simp only [e1', e2']
    | exit i =>
      refine ⟨.exit i, fr1, T1, h1, R1, ?_, k1⟩
      rw [costE, ← Nat.add_assoc, exec.eq_def]; simp only [e1']
    | ret =>
      refine ⟨.ret, fr1, T1, h1, R1, ?_, k1⟩
      rw [costE, ← Nat.add_assoc, exec.eq_def]; simp only [e1']
  | .cond c x y, fr, T, h, k, R, hs => by
    simp only [execK, evF_eq R] at hs
    split at hs
    · rename_i hc
      obtain ⟨ex, fr1, T1, h1, R1, e1, k1⟩ := execK_ok hC x R hs
      have e1' := exec_mono (show N + costE L x ≤ N + max (costE L x) (costE L y) by omega) e1
      refine ⟨ex, fr1, T1, h1, R1, ?_, k1⟩
      rw [costE, ← Nat.add_assoc, exec.eq_def]; simp only [hc, e1']
    · rename_i hc
      obtain ⟨ex, fr1, T1, h1, R1, e1, k1⟩ := execK_ok hC y R hs
      have e1' := exec_mono (show N + costE L y ≤ N + max (costE L x) (costE L y) by omega) e1
      refine ⟨ex, fr1, T1, h1, R1, ?_, k1⟩
      rw [costE, ← Nat.add_assoc, exec.eq_def]; simp only [hc, e1']
    · cases hs
  | .block id c, fr, T, h, k, R, hs => by
    simp only [execK] at hs
    obtain ⟨ex, fr1, T1, h1, R1, e1, k1⟩ := execK_ok hC c R hs
    cases ex with
    | norm =>
      refine ⟨.norm, fr1, T1, h1, R1, ?_, k1⟩
      rw [costE, ← Nat.add_assoc, exec.eq_def]; simp only [e1]
    | exit i =>
      by_cases hi : i = id
      · subst hi
        refine ⟨.norm, fr1, T1, h1, R1, ?_, by simpa [Nat.beq_refl] using k1⟩
        rw [costE, ← Nat.add_assoc, exec.eq_def]; simp only [e1, if_true]
      · have hb : Nat.beq i id = false := by
          cases hb : Nat.beq i id with
          | false => rfl
          | true => exact absurd (Nat.eq_of_beq_eq_true hb) hi
        have k1 : Bool.rec (motive := fun _ => Option β) (k (.exit i) T1 h1) (k .norm T1 h1) (Nat.beq i id) = some b := k1
        rw [hb] at k1
        refine ⟨.exit i, fr1, T1, h1, R1, ?_, k1⟩
        rw [costE, ← Nat.add_assoc, exec.eq_def]; simp only [e1, if_neg hi]
    | ret =>
      refine ⟨.ret, fr1, T1, h1, R1, ?_, k1⟩
      rw [costE, ← Nat.add_assoc, exec.eq_def]; simp only [e1]
  | .loop c, fr, T, h, k, R, hs => by
    simp only [execK] at hs
    obtain ⟨ex, fr1, T1, h1, R1, e1, k1⟩ := loopK_ok (D := N + costE L c) (by have := costE_pos L c; omega) (fun {fr T h k} R hs => execK_ok hC c R hs) L R hs
    exact ⟨ex, fr1, T1, h1, R1, by rw [costE, show N + (costE L c + L + 1) = N + costE L c + L + 1 by omega]; exact e1, k1⟩
  | .exit i, fr, T, h, k, R, hs => ⟨.exit i, fr, T, h, R, by rw [costE, exec.eq_def], hs⟩
  | .ret, fr, T, h, k, R, hs => ⟨.ret, fr, T, h, R, by rw [costE, exec.eq_def], hs⟩
  | .kill _ _ _, fr, T, h, k, R, hs => by simp [execK] at hs
end

/-! ### Calls -/
def fillF {β : Type} (n : Nat) : List PV → Nat → T3 PV → (T3 PV → β) → β
  | [], _, T, k => k T
  | v :: vs, t, T, k => putF n T t v fun T => fNat (t + 1) fun t => fillF n vs t T k
def fHeapL {β : Type} (n : Nat) (k : List Ent → β) : β := fList fEnt (List.replicate n ⟨0, none⟩) k
def rOpt {β : Type} (x : PV × List (Option Blk)) (k : PV × List (Option Blk) → β) : β := Prod.casesOn x fun r G => fPV2 r fun r => fList (fOpt fBlk) G fun G => k (r, G)
theorem rOpt_eq {β : Type} (x : PV × List (Option Blk)) (k : PV × List (Option Blk) → β) : rOpt x k = k x := by
  cases x; simp [rOpt, fList_eq (fun x k => fOpt_eq fBlk_eq x k)]
/-- Results out of a trie frame. -/
def resK (n : Nat) (T : T3 PV) : List IRes → HM (List PV)
  | [] => .ret []
  | .tmp t :: rs => (resK n T rs).bind fun vs => .ret (getF n T t :: vs)
  | .cell sz t :: rs => (loadHM sz (getF n T t)).bind fun v => (resK n T rs).bind fun vs => .ret (v :: vs)
def finishK (F : IFun) (m : Nat) (n : Nat) (T : T3 PV) : HM (PV × List (Option Blk)) :=
  (resK n T F.res).bind fun vs =>
  (if F.frz then freezeC 9 (one vs) else .ret (one vs)).bind fun r =>
  (argBlks m 0).bind fun bs =>
  (collectL 99 (toks r ++ blkToks bs) []).bind fun new =>
    let f : Ref → Nat → Option (Ref × Nat) := fun q v => match q with
      | .a i => some (.a i, v)
      | .dead => none
      | .l _ => match idxOf q v new 0 with | some k => some (.l k, 0) | none => none
    .ret (ren f r, bs.map (fun b => match b with | some b => some (b.ren f) | none => none) ++ new.map fun x => some (x.2.2.ren f))
theorem resK_eq {n : Nat} {fr : List PV} {T : T3 PV} (R : FrK n fr T) : ∀ rs : List IRes, resK n T rs = resOf fr rs
  | [] => rfl
  | .tmp t :: rs => by simp only [resK, resOf, resK_eq R rs, R.at_]
  | .cell sz t :: rs => by simp only [resK, resOf, resK_eq R rs, R.at_]
theorem finishK_eq {F : IFun} {m n : Nat} {fr : List PV} {T : T3 PV} (R : FrK n fr T) : finishK F m n T = finish F m fr := by
  unfold finishK finish; rw [resK_eq R]; rfl
theorem fillF_ok {β : Type} {n : Nat} : ∀ (vs : List PV) (t : Nat) (pre : List PV) {T : T3 PV} (k : T3 PV → β), t = pre.length → FrK n (pre ++ List.replicate (n - t) .junk) T → t + vs.length ≤ n →
    ∃ T', FrK n (pre ++ vs ++ List.replicate (n - t - vs.length) .junk) T' ∧ fillF n vs t T k = k T'
  | [], t, pre, T, k, ht, R, hl => ⟨T, by simpa using R, rfl⟩
  | v :: vs, t, pre, T, k, ht, R, hl => by
    simp only [List.length_cons] at hl
    simp only [fillF]
    obtain ⟨T1, R1, e1⟩ := putF_ok R t v fun T => fNat (t + 1) fun t => fillF n vs t T k
    rw [e1, fNat_eq]
    have hu : upd (pre ++ List.replicate (n - t) .junk) t v = (pre ++ [v]) ++ List.replicate (n - (t + 1)) .junk := by
      subst ht
      have : ∀ (pre : List PV) (ys : List PV) (x : PV), upd (pre ++ x :: ys) pre.length v = pre ++ v :: ys := by
        intro pre
        induction pre with
        | nil => intro ys x; rfl
        | cons p ps ih => intro ys x; simp only [List.cons_append, List.length_cons, upd, ih]
      rw [show n - pre.length = (n - (pre.length + 1)) + 1 by omega, List.replicate_succ, this]; simp
    rw [hu] at R1
    obtain ⟨T2, R2, e2⟩ := fillF_ok vs (t + 1) (pre ++ [v]) k (by simp [ht]) R1 (by omega)
    refine ⟨T2, ?_, e2⟩
    have : n - (t + 1) - vs.length = n - t - (v :: vs).length := by simp; omega
    rw [this] at R2
    simpa using R2
/-- A call, reckoned so. -/
def callK (FT : Nat → Option IFun) (L : Nat) : Nat → CallF
  | 0, _, _, _ => none
  | m + 1, f, args, G => match FT f with
    | none => none
    | some F => match F.intr with
      | some g => match g args G with | some x => rOpt x some | none => none
      | none => match Nat.ble F.ntmps 512 && Nat.ble args.length F.ntmps with
        | false => none
        | true => fList fPV2 args fun args => fillF F.ntmps args 0 (T3.all .junk) fun T => fList (fOpt fBlk) (G.map some) fun A => fHeapL F.nslots fun Ls =>
          execK (ROof FT) (callK FT L m) L F.ntmps F.body T ⟨A, Ls⟩ fun ex T h => Ex.casesOn ex
            (runK (finishK F G.length F.ntmps T) h fun x _ => rOpt x some) (fun _ => none) (runK (finishK F G.length F.ntmps T) h fun x _ => rOpt x some)
theorem callK_ok {FT : Nat → Option IFun} {L B : Nat} (hB : ∀ f F, FT f = some F → costE L F.body ≤ B) : ∀ m, ∃ N, CLe (callK FT L m) (callE FT N)
  | 0 => ⟨0, fun f a G r h => by simp [callK] at h⟩
  | m + 1 => by
    obtain ⟨N, hN⟩ := callK_ok hB m
    refine ⟨N + B + 1, fun f a G r h => ?_⟩
    simp only [callK] at h
    rw [callE]
    cases hF : FT f with
    | none => rw [hF] at h; cases h
    | some F =>
      rw [hF] at h
      simp only at h ⊢
      cases hi : F.intr with
      | some g =>
        rw [hi] at h
        simp only at h ⊢
        split at h
        · rename_i x hx; rw [rOpt_eq] at h; rw [hx]; exact h
        · cases h
      | none =>
        rw [hi] at h
        simp only at h ⊢
        split at h
        · cases h
        · rename_i hc
          simp only [Bool.and_eq_true] at hc
          have h1 := Nat.le_of_ble_eq_true hc.1
          have h2 := Nat.le_of_ble_eq_true hc.2
          rw [fList_eq fPV2_eq] at h
          have R0 : FrK F.ntmps ([] ++ List.replicate (F.ntmps - 0) PV.junk) (T3.all .junk) := by
            refine ⟨by simp, h1, fun t => ?_⟩
            rw [getF_eq, T3.get_all]
            simp only [List.nil_append]
            have : nth (List.replicate (F.ntmps - 0) PV.junk) t = .junk := by
              have := nth_append (l := []) (k := F.ntmps - 0) (t := t)
              simpa using this
            rw [this]; simp
          obtain ⟨T0, R, e⟩ := fillF_ok a 0 [] (T := T3.all .junk) (fun T => fList (fOpt fBlk) (G.map some) fun A => fHeapL F.nslots fun Ls =>
            execK (ROof FT) (callK FT L m) L F.ntmps F.body T ⟨A, Ls⟩ fun ex T h => Ex.casesOn ex
              (runK (finishK F G.length F.ntmps T) h fun x _ => rOpt x some) (fun _ => none) (runK (finishK F G.length F.ntmps T) h fun x _ => rOpt x some)) rfl R0 (by omega)
          rw [e, fList_eq (fun x k => fOpt_eq fBlk_eq x k)] at h
          unfold fHeapL at h
          rw [fList_eq fEnt_eq] at h
          simp only [List.nil_append, Nat.sub_zero] at R
          obtain ⟨ex, fr', T', h', R', e1, k1⟩ := execK_ok hN F.body R h
          have e1' := exec_mono (show N + costE L F.body ≤ N + B by have := hB f F hF; omega) e1
          rw [e1']
          cases ex with
          | norm =>
            simp only [runK_eq, finishK_eq R', rOpt_eq] at k1
            simp only
            cases hf : (finish F G.length fr').run h' with
            | none => rw [hf] at k1; cases k1
            | some p => rw [hf] at k1; exact k1
          | exit i => cases k1
          | ret =>
            simp only [runK_eq, finishK_eq R', rOpt_eq] at k1
            simp only
            cases hf : (finish F G.length fr').run h' with
            | none => rw [hf] at k1; cases k1
            | some p => rw [hf] at k1; exact k1
end Gv

namespace Gv
open Go (IntKind BinOp UnOp)

/-! ### Arguments that are looked at in a few places alone: others that look the same there do the same -/
abbrev Tn := List (Nat × Nat)
def tnAt : Tn → Nat → Option Nat
  | [], _ => none
  | (t, i) :: S, s => if t = s then some i else tnAt S s
/-- What is seen of an argument. -/
inductive Ob where
  | bin (op : BinOp) (i : Nat) (k : PV) (left : Bool)
  | call (f : Nat) (i : Nat) (ks : List PV)
def constsPO : List PO → Option (List PV)
  | [] => some []
  | .c v :: xs => match constsPO xs with | some vs => some (v :: vs) | none => none
  | .t _ :: _ => none
def clnT (S : Tn) (t : Nat) : Bool := match tnAt S t with | none => true | some _ => false
def clnD (S : Tn) : Option Nat → Bool
  | none => true
  | some d => clnT S d
def obOp (S : Tn) (op : IOp) : Option (List Ob) :=
  if op.ts.all (clnT S) then some [] else
  match op with
  | .bin b (.t a) (.c k) => match tnAt S a with | some i => some [.bin b i k true] | none => none
  | .bin b (.c k) (.t a) => match tnAt S a with | some i => some [.bin b i k false] | none => none
  | .call f (.t a :: xs) _ => match tnAt S a, constsPO xs with | some i, some ks => some [.call f i ks] | _, _ => none
  | _ => none
def movT (S : Tn) (o : IOper) : Bool :=
  match o.op, o.dst with
  | .mov (.t a), some d => match tnAt S a, tnAt S d with | some i, some j => i == j | _, _ => false
  | _, _ => false
def clnG (S : Tn) : Option (Nat × Bool) → Bool
  | some (t, _) => clnT S t
  | none => true
def obOper (S : Tn) (o : IOper) : Option (List Ob) :=
  if clnG S o.guard then
    if movT S o then some [] else if clnD S o.dst then obOp S o.op else none
  else none
def obOpers (S : Tn) : List IOper → Option (List Ob)
  | [] => some []
  | o :: os => match obOper S o, obOpers S os with | some a, some b => some (a ++ b) | _, _ => none
def obCode (S : Tn) : ICode → Option (List Ob)
  | .skip => some []
  | .reg ops _ => obOpers S ops
  | .seq a b => match obCode S a, obCode S b with | some a, some b => some (a ++ b) | _, _ => none
  | .cond c x y => if c.ts.all (clnT S) then (match obCode S x, obCode S y with | some a, some b => some (a ++ b) | _, _ => none) else none
  | .block _ c => obCode S c
  | .loop c => obCode S c
  | .exit _ => some []
  | .ret => some []
  | .kill _ _ _ => none
def obRes (S : Tn) : List IRes → Bool
  | [] => true
  | .tmp t :: rs => clnT S t && obRes S rs
  | .cell _ t :: rs => clnT S t && obRes S rs
def flatV : PV → Bool
  | .int .. | .bool _ | .str _ => true
  | _ => false
def ObEq (FT : Nat → Option IFun) (u u' : Nat → PV) : Ob → Prop
  | .bin b i k true => bin b (u i) k = bin b (u' i) k
  | .bin b i k false => bin b k (u i) = bin b k (u' i)
  | .call f i ks => (flatV (u i) && flatV (u' i) && ks.all flatV) = true ∧ ∀ n x, callE FT n f (u' i :: ks) [] = some x → callE FT n f (u i :: ks) [] = some x
/-- Frames that differ in what is not known alone. -/
def Rl (S : Tn) (u u' : Nat → PV) (fr fr' : List PV) : Prop :=
  fr.length = fr'.length ∧ ∀ t, match tnAt S t with | none => nth fr t = nth fr' t | some i => nth fr t = nth fr' t ∨ (nth fr t = u i ∧ nth fr' t = u' i)
theorem Rl.same {S : Tn} {u u' : Nat → PV} {fr fr' : List PV} (h : Rl S u u' fr fr') {t : Nat} (ht : clnT S t = true) : nth fr t = nth fr' t := by
  have := h.2 t
  unfold clnT at ht
  split at ht
  · rename_i e; rw [e] at this; exact this
  · cases ht
theorem Rl.Same {S : Tn} {u u' : Nat → PV} {fr fr' : List PV} (h : Rl S u u' fr fr') {l : List Nat} (hl : l.all (clnT S) = true) : Same fr' fr l := fun t ht => (h.same (List.all_eq_true.1 hl t ht)).symm
theorem Rl.put {S : Tn} {u u' : Nat → PV} {fr fr' : List PV} (h : Rl S u u' fr fr') {dst : Option Nat} (hd : clnD S dst = true) (v : PV) : Rl S u u' (putDst fr dst v) (putDst fr' dst v) := by
  cases dst with
  | none => exact h
  | some d =>
    refine ⟨by simp only [putDst, upd_length]; exact h.1, fun t => ?_⟩
    simp only [putDst, nth_upd, h.1]
    have := h.2 t
    by_cases hc : t = d ∧ d < fr'.length
    · rw [if_pos hc, if_pos hc]
      split
      · rfl
      · exact .inl rfl
    · rw [if_neg hc, if_neg hc]; exact this
theorem roArgs_flat : ∀ (ro : List Bool) (vs : List PV), vs.all flatV = true → roArgs ro vs = .ret (vs, [])
  | [], vs, _ => by cases vs <;> rfl
  | b :: bs, [], _ => by cases b <;> rfl
  | b :: bs, v :: vs, h => by
    simp only [List.all_cons, Bool.and_eq_true] at h
    have hv : freezeR 9 v = .ret (v, []) := by cases v <;> first | rfl | (simp [flatV] at h; done)
    cases b
    · simp only [roArgs, roArgs_flat bs vs h.2]; rfl
    · simp only [roArgs, roArgs_flat bs vs h.2, hv]; rfl
theorem toksL_flat : ∀ (vs : List PV), vs.all flatV = true → toksL vs = []
  | [], _ => rfl
  | v :: vs, h => by
    simp only [List.all_cons, Bool.and_eq_true] at h
    simp only [toksL, toksL_flat vs h.2]
    cases v <;> first | rfl | (simp [flatV] at h; done)
theorem renL_flat (f : Ref → Nat → Option (Ref × Nat)) : ∀ (vs : List PV), vs.all flatV = true → renL f vs = vs
  | [], _ => rfl
  | v :: vs, h => by
    simp only [List.all_cons, Bool.and_eq_true] at h
    simp only [renL, renL_flat f vs h.2]
    cases v <;> first | rfl | (simp [flatV] at h; done)
theorem callHM_flat (C : CallF) (ro : List Bool) (f : Nat) (vs : List PV) (s : Nat) (h : vs.all flatV = true) :
    callHM C ro f vs s = match C f vs [] with | none => .fail | some (r, G) => afterCall [] [] s r G := by
  unfold callHM
  rw [roArgs_flat ro vs h]
  simp only [HM.bind]
  rw [toksL_flat vs h]
  simp only [collect, HM.bind, meetsRef, List.any_nil, Bool.false_eq_true, if_false, List.map_nil]
  rw [renL_flat _ vs h]
  rfl
theorem constsPO_ev {ρ : PO → PV} (hρ : ∀ v, ρ (.c v) = v) : ∀ {xs : List PO} {vs : List PV}, constsPO xs = some vs → evL ρ xs = vs
  | [], vs, h => by simp only [constsPO, Option.some.injEq] at h; subst h; rfl
  | .c v :: xs, vs, h => by
    simp only [constsPO] at h
    split at h
    · rename_i ws e; simp only [Option.some.injEq] at h; subst h; simp only [evL, hρ, constsPO_ev hρ e]
    · cases h
  | .t _ :: _, vs, h => by simp [constsPO] at h
section
variable {FT : Nat → Option IFun} {S : Tn} {u u' : Nat → PV}
theorem sem_swap {n : Nat} {op : IOp} {L : List Ob} (ho : obOp S op = some L) (hL : ∀ ob ∈ L, ObEq FT u u' ob) {fr fr' : List PV} (R : Rl S u u' fr fr') :
    HM.Le (sem (ROof FT) (callE FT n) (PO.ev fr') op) (sem (ROof FT) (callE FT n) (PO.ev fr) op) := by
  unfold obOp at ho
  split at ho
  · rename_i hc
    rw [sem_same (R.Same hc)]
    exact .refl _
  · split at ho
    · rename_i b a k hneg
      split at ho
      · rename_i i hi
        simp only [Option.some.injEq] at ho
        subst ho
        have h1 := hL _ (List.mem_singleton.2 rfl)
        have h2 := R.2 a
        rw [hi] at h2
        simp only [sem, PO.ev]
        rcases h2 with h2 | ⟨h2, h3⟩
        · rw [h2]; exact .refl _
        · rw [h2, h3]
          have h1 : bin b (u i) k = bin b (u' i) k := h1
          rw [h1]; exact .refl _
      · cases ho
    · rename_i b k a hneg
      split at ho
      · rename_i i hi
        simp only [Option.some.injEq] at ho
        subst ho
        have h1 := hL _ (List.mem_singleton.2 rfl)
        have h2 := R.2 a
        rw [hi] at h2
        simp only [sem, PO.ev]
        rcases h2 with h2 | ⟨h2, h3⟩
        · rw [h2]; exact .refl _
        · rw [h2, h3]
          have h1 : bin b k (u i) = bin b k (u' i) := h1
          rw [h1]; exact .refl _
      · cases ho
    · rename_i f a xs s hneg
      split at ho
      · rename_i i ks hi hk
        simp only [Option.some.injEq] at ho
        subst ho
        obtain ⟨h0, h1⟩ := hL _ (List.mem_singleton.2 rfl)
        simp only [Bool.and_eq_true] at h0
        obtain ⟨⟨g1, g2⟩, g3⟩ := h0
        have h2 := R.2 a
        rw [hi] at h2
        simp only [sem, evL]
        rw [constsPO_ev (ρ := PO.ev fr) (fun _ => rfl) hk, constsPO_ev (ρ := PO.ev fr') (fun _ => rfl) hk]
        simp only [PO.ev]
        rcases h2 with h2 | ⟨h2, h3⟩
        · rw [h2]; exact .refl _
        · rw [h2, h3, callHM_flat _ _ _ _ _ (by simp [g2, g3]), callHM_flat _ _ _ _ _ (by simp [g1, g3])]
          cases hx : callE FT n f (u' i :: ks) [] with
          | none => exact .fail _
          | some x => rw [h1 n x hx]; exact .refl _
      · cases ho
    · cases ho
theorem wanted_swap {o : IOper} (hg : clnG S o.guard = true) {fr fr' : List PV} (R : Rl S u u' fr fr') : wanted fr o.guard = wanted fr' o.guard := by
  cases hgd : o.guard with
  | none => rfl
  | some p =>
    obtain ⟨t, b⟩ := p
    rw [hgd] at hg
    simp only [wanted]
    rw [R.same hg]
theorem movT_inv {o : IOper} (h : movT S o = true) : ∃ a d i, o.op = .mov (.t a) ∧ o.dst = some d ∧ tnAt S a = some i ∧ tnAt S d = some i := by
  unfold movT at h
  split at h
  · rename_i a d h1 h2
    split at h
    · rename_i i j h3 h4
      simp only [beq_iff_eq] at h
      subst h
      exact ⟨a, d, i, h1, h2, h3, h4⟩
    · cases h
  · cases h
theorem Rl.mov {fr fr' : List PV} (R : Rl S u u' fr fr') {a d i : Nat} (ha : tnAt S a = some i) (hd : tnAt S d = some i) : Rl S u u' (upd fr d (nth fr a)) (upd fr' d (nth fr' a)) := by
  refine ⟨by rw [upd_length, upd_length]; exact R.1, fun t => ?_⟩
  simp only [nth_upd, R.1]
  have h1 := R.2 t
  have h2 := R.2 a
  rw [ha] at h2
  by_cases hc : t = d ∧ d < fr'.length
  · rw [if_pos hc, if_pos hc, hc.1, hd]; exact h2
  · rw [if_neg hc, if_neg hc]; exact h1
theorem Rl.dead {fr fr' : List PV} (R : Rl S u u' fr fr') {d i : Nat} (hd : tnAt S d = some i) (v : PV) : Rl S u u' (upd fr d v) (upd fr' d v) := by
  refine ⟨by rw [upd_length, upd_length]; exact R.1, fun t => ?_⟩
  simp only [nth_upd, R.1]
  have h1 := R.2 t
  by_cases hc : t = d ∧ d < fr'.length
  · rw [if_pos hc, if_pos hc, hc.1, hd]; exact .inl rfl
  · rw [if_neg hc, if_neg hc]; exact h1
theorem stepOp_swap {n : Nat} {o : IOper} {L : List Ob} (ho : obOper S o = some L) (hL : ∀ ob ∈ L, ObEq FT u u' ob) {fr fr' g' : List PV} {h h1 : Heap} (R : Rl S u u' fr fr')
    (hs : stepOp (ROof FT) (callE FT n) o ⟨fr', h⟩ = some ⟨g', h1⟩) : ∃ g, stepOp (ROof FT) (callE FT n) o ⟨fr, h⟩ = some ⟨g, h1⟩ ∧ Rl S u u' g g' := by
  unfold obOper at ho
  split at ho
  case isFalse => cases ho
  rename_i hg
  have hw := wanted_swap hg R
  unfold stepOp at hs ⊢
  simp only at hs ⊢
  rw [hw]
  split at ho
  · rename_i hm
    obtain ⟨a, d, i, e1, e2, e3, e4⟩ := movT_inv hm
    split at hs
    · rename_i hwt
      rw [e1] at hs
      simp only [sem, HM.run, PO.ev, e2, putDst, Option.some.injEq, St.mk.injEq] at hs
      obtain ⟨rfl, rfl⟩ := hs
      refine ⟨upd fr d (nth fr a), ?_, R.mov e3 e4⟩
      simp only [hwt, e1, sem, HM.run, PO.ev, e2, putDst]
    · rename_i hwf
      simp only [e2, putDst, Option.some.injEq, St.mk.injEq] at hs
      obtain ⟨rfl, rfl⟩ := hs
      exact ⟨_, by simp only [hwf, e2, putDst], R.dead e4 _⟩
    · cases hs
  · rename_i hm
    split at ho
    case isFalse => cases ho
    rename_i hd
    split at hs
    · rename_i hwt
      split at hs
      · rename_i v h' hr
        simp only [Option.some.injEq, St.mk.injEq] at hs
        obtain ⟨rfl, rfl⟩ := hs
        refine ⟨_, ?_, R.put hd v⟩
        simp only [hwt, (sem_swap ho hL R).run hr]
      · cases hs
    · rename_i hwf
      simp only [Option.some.injEq, St.mk.injEq] at hs
      obtain ⟨rfl, rfl⟩ := hs
      exact ⟨_, by simp only [hwf], R.put hd _⟩
    · cases hs
theorem stepT_swap {n : Nat} {o : IOper} {L : List Ob} (ho : obOper S o = some L) (hL : ∀ ob ∈ L, ObEq FT u u' ob) {fr fr' g' : List PV} {h h1 : Heap} {Rs Ws : List Ref} (R : Rl S u u' fr fr')
    (hs : stepT (ROof FT) (callE FT n) o ⟨fr', h⟩ = some (⟨g', h1⟩, Rs, Ws)) : ∃ g, stepT (ROof FT) (callE FT n) o ⟨fr, h⟩ = some (⟨g, h1⟩, Rs, Ws) ∧ Rl S u u' g g' := by
  unfold obOper at ho
  split at ho
  case isFalse => cases ho
  rename_i hg
  have hw := wanted_swap hg R
  unfold stepT at hs ⊢
  simp only at hs ⊢
  rw [hw]
  split at ho
  · rename_i hm
    obtain ⟨a, d, i, e1, e2, e3, e4⟩ := movT_inv hm
    split at hs
    · rename_i hwt
      rw [e1] at hs
      simp only [sem, HM.runT, PO.ev, e2, putDst, Option.some.injEq, Prod.mk.injEq, St.mk.injEq] at hs
      obtain ⟨⟨rfl, rfl⟩, rfl, rfl⟩ := hs
      refine ⟨upd fr d (nth fr a), ?_, R.mov e3 e4⟩
      simp only [hwt, e1, sem, HM.runT, PO.ev, e2, putDst]
    · rename_i hwf
      simp only [e2, putDst, Option.some.injEq, Prod.mk.injEq, St.mk.injEq] at hs
      obtain ⟨⟨rfl, rfl⟩, rfl, rfl⟩ := hs
      exact ⟨_, by simp only [hwf, e2, putDst], R.dead e4 _⟩
    · cases hs
  · rename_i hm
    split at ho
    case isFalse => cases ho
    rename_i hd
    split at hs
    · rename_i hwt
      split at hs
      · rename_i v h' R' W' hr
        simp only [Option.some.injEq, Prod.mk.injEq, St.mk.injEq] at hs
        obtain ⟨⟨rfl, rfl⟩, rfl, rfl⟩ := hs
        refine ⟨_, ?_, R.put hd v⟩
        simp only [hwt, (sem_swap ho hL R).runT hr]
      · cases hs
    · rename_i hwf
      simp only [Option.some.injEq, Prod.mk.injEq, St.mk.injEq] at hs
      obtain ⟨⟨rfl, rfl⟩, rfl, rfl⟩ := hs
      exact ⟨_, by simp only [hwf], R.put hd _⟩
    · cases hs
theorem runOps_swap {n : Nat} : ∀ {os : List IOper} {L : List Ob}, obOpers S os = some L → (∀ ob ∈ L, ObEq FT u u' ob) → ∀ {fr fr' g' : List PV} {h h1 : Heap}, Rl S u u' fr fr' →
    runOps (ROof FT) (callE FT n) os ⟨fr', h⟩ = some ⟨g', h1⟩ → ∃ g, runOps (ROof FT) (callE FT n) os ⟨fr, h⟩ = some ⟨g, h1⟩ ∧ Rl S u u' g g'
  | [], L, _, _, fr, fr', g', h, h1, R, hs => by
    simp only [runOps, Option.some.injEq, St.mk.injEq] at hs
    obtain ⟨rfl, rfl⟩ := hs
    exact ⟨fr, rfl, R⟩
  | o :: os, L, ho, hL, fr, fr', g', h, h1, R, hs => by
    simp only [obOpers] at ho
    split at ho
    case h_2 => cases ho
    rename_i a b ha hb
    simp only [Option.some.injEq] at ho
    subst ho
    simp only [runOps] at hs ⊢
    cases h2 : stepOp (ROof FT) (callE FT n) o ⟨fr', h⟩ with
    | none => rw [h2] at hs; cases hs
    | some σ =>
      obtain ⟨k', h3⟩ := σ
      rw [h2] at hs
      obtain ⟨k, e1, R1⟩ := stepOp_swap ha (fun ob hm => hL ob (List.mem_append_left _ hm)) R h2
      obtain ⟨g, e2, R2⟩ := runOps_swap hb (fun ob hm => hL ob (List.mem_append_right _ hm)) R1 hs
      exact ⟨g, by rw [e1]; exact e2, R2⟩
theorem runOpsD_swap {n : Nat} : ∀ {os : List IOper} {L : List Ob}, obOpers S os = some L → (∀ ob ∈ L, ObEq FT u u' ob) → ∀ {j : Nat} {acc : List (Nat × List Ref × List Ref)} {fr fr' g' : List PV} {h h1 : Heap}, Rl S u u' fr fr' →
    runOpsD (ROof FT) (callE FT n) j acc os ⟨fr', h⟩ = some ⟨g', h1⟩ → ∃ g, runOpsD (ROof FT) (callE FT n) j acc os ⟨fr, h⟩ = some ⟨g, h1⟩ ∧ Rl S u u' g g'
  | [], L, _, _, j, acc, fr, fr', g', h, h1, R, hs => by
    simp only [runOpsD, Option.some.injEq, St.mk.injEq] at hs
    obtain ⟨rfl, rfl⟩ := hs
    exact ⟨fr, rfl, R⟩
  | o :: os, L, ho, hL, j, acc, fr, fr', g', h, h1, R, hs => by
    simp only [obOpers] at ho
    split at ho
    case h_2 => cases ho
    rename_i a b ha hb
    simp only [Option.some.injEq] at ho
    subst ho
    simp only [runOpsD] at hs ⊢
    cases h2 : stepT (ROof FT) (callE FT n) o ⟨fr', h⟩ with
    | none => rw [h2] at hs; cases hs
    | some p =>
      obtain ⟨⟨k', h3⟩, Rs, Ws⟩ := p
      rw [h2] at hs
      obtain ⟨k, e1, R1⟩ := stepT_swap ha (fun ob hm => hL ob (List.mem_append_left _ hm)) R h2
      rw [e1]
      simp only at hs ⊢
      split at hs
      · rename_i hc
        rw [if_pos hc]
        exact runOpsD_swap hb (fun ob hm => hL ob (List.mem_append_right _ hm)) R1 hs
      · cases hs
theorem exec_swap : ∀ (n : Nat) {c : ICode} {L : List Ob}, obCode S c = some L → (∀ ob ∈ L, ObEq FT u u' ob) → ∀ {fr fr' g' : List PV} {h h1 : Heap} {ex : Ex}, Rl S u u' fr fr' →
    exec FT n c ⟨fr', h⟩ = some (ex, ⟨g', h1⟩) → ∃ g, exec FT n c ⟨fr, h⟩ = some (ex, ⟨g, h1⟩) ∧ Rl S u u' g g'
  | 0, c, L, ho, hL, fr, fr', g', h, h1, ex, R, hs => by simp [exec] at hs
  | n + 1, c, L, ho, hL, fr, fr', g', h, h1, ex, R, hs => by
    rw [exec.eq_def] at hs ⊢
    simp only at hs ⊢
    cases c with
    | skip =>
      simp only [Option.some.injEq, Prod.mk.injEq, St.mk.injEq] at hs
      obtain ⟨rfl, rfl, rfl⟩ := hs
      exact ⟨fr, rfl, R⟩
    | reg ops d =>
      simp only [obCode] at ho
      cases d with
      | false =>
        simp only at hs ⊢
        split at hs
        · rename_i σ1 hr
          simp only [Option.some.injEq, Prod.mk.injEq] at hs
          obtain ⟨rfl, rfl⟩ := hs
          obtain ⟨g, e, R1⟩ := runOps_swap ho hL R hr
          refine ⟨g, ?_, R1⟩
          show (match runOps (ROof FT) (callE FT n) ops ⟨fr, h⟩ with | some σ' => some (Ex.norm, σ') | none => none) = _
          rw [e]
        · cases hs
      | true =>
        simp only at hs ⊢
        split at hs
        · rename_i σ1 hr
          simp only [Option.some.injEq, Prod.mk.injEq] at hs
          obtain ⟨rfl, rfl⟩ := hs
          obtain ⟨g, e, R1⟩ := runOpsD_swap ho hL R hr
          refine ⟨g, ?_, R1⟩
          show (match runOpsD (ROof FT) (callE FT n) 0 [] ops ⟨fr, h⟩ with | some σ' => some (Ex.norm, σ') | none => none) = _
          rw [e]
        · cases hs
    | seq a b =>
      simp only [obCode] at ho
      split at ho
      case h_2 => cases ho
      rename_i la lb ha hb
      simp only [Option.some.injEq] at ho
      subst ho
      have hLa : ∀ ob ∈ la, ObEq FT u u' ob := fun ob hm => hL ob (List.mem_append_left _ hm)
      have hLb : ∀ ob ∈ lb, ObEq FT u u' ob := fun ob hm => hL ob (List.mem_append_right _ hm)
      simp only at hs ⊢
      cases h2 : exec FT n a ⟨fr', h⟩ with
      | none => rw [h2] at hs; cases hs
      | some p =>
        obtain ⟨e, k', h3⟩ := p
        rw [h2] at hs
        obtain ⟨k, e1, R1⟩ := exec_swap n ha hLa R h2
        rw [e1]
        cases e with
        | norm => exact exec_swap n hb hLb R1 hs
        | exit i =>
          simp only [Option.some.injEq, Prod.mk.injEq, St.mk.injEq] at hs
          obtain ⟨rfl, rfl, rfl⟩ := hs
          exact ⟨k, rfl, R1⟩
        | ret =>
          simp only [Option.some.injEq, Prod.mk.injEq, St.mk.injEq] at hs
          obtain ⟨rfl, rfl, rfl⟩ := hs
          exact ⟨k, rfl, R1⟩
    | cond d x y =>
      simp only [obCode] at ho
      split at ho
      case isFalse => cases ho
      rename_i hd
      split at ho
      case h_2 => cases ho
      rename_i la lb ha hb
      simp only [Option.some.injEq] at ho
      subst ho
      have hLa : ∀ ob ∈ la, ObEq FT u u' ob := fun ob hm => hL ob (List.mem_append_left _ hm)
      have hLb : ∀ ob ∈ lb, ObEq FT u u' ob := fun ob hm => hL ob (List.mem_append_right _ hm)
      have hev : PO.ev fr d = PO.ev fr' d := (ev_same (R.Same hd)).symm
      simp only at hs ⊢
      rw [hev]
      split at hs
      · exact exec_swap n ha hLa R hs
      · exact exec_swap n hb hLb R hs
      · cases hs
    | block id x =>
      simp only [obCode] at ho
      simp only at hs ⊢
      cases h2 : exec FT n x ⟨fr', h⟩ with
      | none => rw [h2] at hs; cases hs
      | some p =>
        obtain ⟨e, k', h3⟩ := p
        rw [h2] at hs
        obtain ⟨k, e1, R1⟩ := exec_swap n ho hL R h2
        rw [e1]
        cases e with
        | norm =>
          simp only [Option.some.injEq, Prod.mk.injEq, St.mk.injEq] at hs
          obtain ⟨rfl, rfl, rfl⟩ := hs
          exact ⟨k, rfl, R1⟩
        | exit i =>
          simp only at hs ⊢
          split at hs
          · rename_i hi
            simp only [Option.some.injEq, Prod.mk.injEq, St.mk.injEq] at hs
            obtain ⟨rfl, rfl, rfl⟩ := hs
            rw [if_pos hi]; exact ⟨k, rfl, R1⟩
          · rename_i hi
            simp only [Option.some.injEq, Prod.mk.injEq, St.mk.injEq] at hs
            obtain ⟨rfl, rfl, rfl⟩ := hs
            rw [if_neg hi]; exact ⟨k, rfl, R1⟩
        | ret =>
          simp only [Option.some.injEq, Prod.mk.injEq, St.mk.injEq] at hs
          obtain ⟨rfl, rfl, rfl⟩ := hs
          exact ⟨k, rfl, R1⟩
    | loop x =>
      have ho' := ho
      simp only [obCode] at ho
      simp only at hs ⊢
      cases h2 : exec FT n x ⟨fr', h⟩ with
      | none => rw [h2] at hs; cases hs
      | some p =>
        obtain ⟨e, k', h3⟩ := p
        rw [h2] at hs
        obtain ⟨k, e1, R1⟩ := exec_swap n ho hL R h2
        rw [e1]
        cases e with
        | norm => exact exec_swap n ho' hL R1 hs
        | exit i =>
          simp only [Option.some.injEq, Prod.mk.injEq, St.mk.injEq] at hs
          obtain ⟨rfl, rfl, rfl⟩ := hs
          exact ⟨k, rfl, R1⟩
        | ret =>
          simp only [Option.some.injEq, Prod.mk.injEq, St.mk.injEq] at hs
          obtain ⟨rfl, rfl, rfl⟩ := hs
          exact ⟨k, rfl, R1⟩
    | exit i =>
      simp only [Option.some.injEq, Prod.mk.injEq, St.mk.injEq] at hs
      obtain ⟨rfl, rfl, rfl⟩ := hs
      exact ⟨fr, rfl, R⟩
    | ret =>
      simp only [Option.some.injEq, Prod.mk.injEq, St.mk.injEq] at hs
      obtain ⟨rfl, rfl, rfl⟩ := hs
      exact ⟨fr, rfl, R⟩
    | kill _ _ _ => simp [obCode] at ho
theorem resOf_swap {fr fr' : List PV} (R : Rl S u u' fr fr') : ∀ {rs : List IRes}, obRes S rs = true → resOf fr rs = resOf fr' rs
  | [], _ => rfl
  | .tmp t :: rs, h => by
    simp only [obRes, Bool.and_eq_true] at h
    simp only [resOf, resOf_swap R h.2, R.same h.1]
  | .cell sz t :: rs, h => by
    simp only [obRes, Bool.and_eq_true] at h
    simp only [resOf, resOf_swap R h.2, R.same h.1]
theorem callE_swap {f : Nat} {F : IFun} {L : List Ob} {args args' : List PV} {G : List Blk} {x : PV × List (Option Blk)} {n : Nat} (hF : FT f = some F) (hi : F.intr = none) (ho : obCode S F.body = some L) (hr : obRes S F.res = true)
    (hL : ∀ ob ∈ L, ObEq FT (nth args) (nth args') ob) (hl : args.length = args'.length)
    (ha : ∀ t, t < args.length → match tnAt S t with | none => nth args t = nth args' t | some i => i = t) (hx : callE FT n f args' G = some x) : callE FT n f args G = some x := by
  cases n with
  | zero => simp [callE] at hx
  | succ n =>
    rw [callE] at hx ⊢
    rw [hF] at hx ⊢
    simp only [hi] at hx ⊢
    have R0 : Rl S (nth args) (nth args') (args ++ List.replicate (F.ntmps - args.length) .junk) (args' ++ List.replicate (F.ntmps - args'.length) .junk) := by
      refine ⟨by simp [hl], fun t => ?_⟩
      rw [nth_append, nth_append, hl]
      by_cases ht : t < args'.length
      · rw [if_pos ht, if_pos ht]
        have := ha t (by omega)
        split
        · rename_i e; rw [e] at this; exact this
        · rename_i i e; rw [e] at this; simp only at this; subst this; exact .inr ⟨rfl, rfl⟩
      · rw [if_neg ht, if_neg ht]
        split
        · rfl
        · exact .inl rfl
    cases he : exec FT n F.body ⟨args' ++ List.replicate (F.ntmps - args'.length) .junk, ⟨G.map some, List.replicate F.nslots ⟨0, none⟩⟩⟩ with
    | none => rw [he] at hx; cases hx
    | some p =>
      obtain ⟨e, g', h1⟩ := p
      rw [he] at hx
      obtain ⟨g, e1, R1⟩ := exec_swap n ho hL R0 he
      rw [e1]
      have hfin : finish F G.length g = finish F G.length g' := by unfold finish; rw [resOf_swap R1 hr]
      cases e with
      | norm => simp only [hfin]; exact hx
      | exit i => cases hx
      | ret => simp only [hfin]; exact hx
end
end Gv

namespace Gv
open Go (IntKind BinOp UnOp)

/-! ### Code cut off behind a few parts -/
def cutC : Nat → ICode → ICode
  | 0, _ => .exit 999999
  | k + 1, .seq a b => .seq a (cutC k b)
  | _ + 1, c => c
theorem exec_cut {FT : Nat → Option IFun} : ∀ (k n : Nat) {c : ICode} {σ σ' : St} {ex : Ex}, exec FT n (cutC k c) σ = some (ex, σ') → (∀ i, ex = .exit i → False) → exec FT n c σ = some (ex, σ')
  | 0, 0, c, σ, σ', ex, h, _ => by simp [exec] at h
  | 0, n + 1, c, σ, σ', ex, h, hx => by
    rw [cutC, exec.eq_def] at h
    simp only [Option.some.injEq, Prod.mk.injEq] at h
    exact (hx _ h.1.symm).elim
  | k + 1, 0, c, σ, σ', ex, h, _ => by simp [exec] at h
  | k + 1, n + 1, c, σ, σ', ex, h, hx => by
    cases c with
    | seq a b =>
      rw [cutC, exec.eq_def] at h
      rw [exec.eq_def]
      simp only at h ⊢
      cases h1 : exec FT n a σ with
      | none => rw [h1] at h; cases h
      | some p =>
        obtain ⟨e, σ1⟩ := p
        rw [h1] at h
        cases e with
        | norm => exact exec_cut k n h hx
        | exit i => exact h
        | ret => exact h
    | _ => exact h
def setF (FT : Nat → Option IFun) (f : Nat) (F : IFun) (g : Nat) : Option IFun := if g = f then some F else FT g
def cutF (k : Nat) (F : IFun) : IFun := ⟨F.ntmps, F.nslots, F.frz, F.ro, F.res, cutC k F.body, F.intr⟩
section
variable {FT FT2 : Nat → Option IFun}
/-- One table tells no more than another one. -/
structure TLe (FT2 FT : Nat → Option IFun) : Prop where
  ro : ROof FT2 = ROof FT
  at_ : ∀ f F, FT2 f = some F → ∃ F', FT f = some F' ∧ F'.intr = F.intr ∧ F'.ntmps = F.ntmps ∧ F'.nslots = F.nslots ∧ F'.frz = F.frz ∧ F'.res = F.res ∧ (F'.body = F.body ∨ ∃ k, F.body = cutC k F'.body)
theorem TLe.mono (T : TLe FT2 FT) : ∀ (n : Nat), CLe (callE FT2 n) (callE FT n) ∧ ∀ (c : ICode) (σ : St) (r : Ex × St), exec FT2 n c σ = some r → exec FT n c σ = some r := by
  intro n
  induction n with
  | zero => exact ⟨fun f a G r h => by simp [callE] at h, fun c σ r h => by simp [exec] at h⟩
  | succ n ih =>
    obtain ⟨ihC, ihE⟩ := ih
    refine ⟨?_, ?_⟩
    · intro f a G r h
      rw [callE] at h ⊢
      cases hF : FT2 f with
      | none => rw [hF] at h; cases h
      | some F =>
        obtain ⟨F', e0, e1, e2, e3, e4, e5, e6⟩ := T.at_ f F hF
        rw [hF] at h
        rw [e0]
        simp only at h ⊢
        rw [e1, e2, e3]
        cases hi : F.intr with
        | some g => rw [hi] at h; exact h
        | none =>
          rw [hi] at h
          simp only at h ⊢
          have hfin : ∀ m fr, finish F' m fr = finish F m fr := fun m fr => by unfold finish; rw [e4, e5]
          simp only [hfin]
          cases he : exec FT2 n F.body ⟨a ++ List.replicate (F.ntmps - a.length) .junk, ⟨G.map some, List.replicate F.nslots ⟨0, none⟩⟩⟩ with
          | none => rw [he] at h; cases h
          | some p =>
            obtain ⟨ex, σ1⟩ := p
            rw [he] at h
            have h2 := ihE _ _ _ he
            have h3 : (∀ i, ex = .exit i → False) → exec FT n F'.body ⟨a ++ List.replicate (F.ntmps - a.length) .junk, ⟨G.map some, List.replicate F.nslots ⟨0, none⟩⟩⟩ = some (ex, σ1) := by
              intro hx
              rcases e6 with e6 | ⟨k, e6⟩
              · rw [e6]; exact h2
              · rw [e6] at h2; exact exec_cut k n h2 hx
            cases ex with
            | norm => rw [h3 (fun i e => by cases e)]; exact h
            | exit i => cases h
            | ret => rw [h3 (fun i e => by cases e)]; exact h
    · intro c σ r h
      rw [exec.eq_def] at h ⊢
      simp only at h ⊢
      cases c with
      | skip => exact h
      | reg ops d =>
        cases d with
        | false =>
          simp only at h ⊢
          split at h
          · rename_i σ1 h1
            have h1 : runOps (ROof FT2) (callE FT2 n) ops σ = some σ1 := h1
            rw [T.ro] at h1
            show (match runOps (ROof FT) (callE FT n) ops σ with | some σ' => some (Ex.norm, σ') | none => none) = _
            rw [runOps_le ihC h1]; exact h
          · cases h
        | true =>
          simp only at h ⊢
          split at h
          · rename_i σ1 h1
            have h1 : runOpsD (ROof FT2) (callE FT2 n) 0 [] ops σ = some σ1 := h1
            rw [T.ro] at h1
            show (match runOpsD (ROof FT) (callE FT n) 0 [] ops σ with | some σ' => some (Ex.norm, σ') | none => none) = _
            rw [runOpsD_le ihC h1]; exact h
          · cases h
      | seq a b =>
        simp only at h ⊢
        cases h1 : exec FT2 n a σ with
        | none => rw [h1] at h; cases h
        | some p =>
          obtain ⟨e, σ1⟩ := p
          rw [h1] at h; rw [ihE _ _ _ h1]
          cases e with
          | norm => exact ihE _ _ _ h
          | exit i => exact h
          | ret => exact h
      | cond d x y =>
        simp only at h ⊢
        split at h
        · exact ihE _ _ _ h
        · exact ihE _ _ _ h
        · cases h
      | block id x =>
        simp only at h ⊢
        cases h1 : exec FT2 n x σ with
        | none => rw [h1] at h; cases h
        | some p => rw [h1] at h; rw [ihE _ _ _ h1]; exact h
      | loop x =>
        simp only at h ⊢
        cases h1 : exec FT2 n x σ with
        | none => rw [h1] at h; cases h
        | some p =>
          obtain ⟨e, σ1⟩ := p
          rw [h1] at h; rw [ihE _ _ _ h1]
          cases e with
          | norm => exact ihE _ _ _ h
          | exit i => exact h
          | ret => exact h
      | exit i => exact h
      | ret => exact h
      | kill ts hs x => exact ihE _ _ _ h
theorem TLe.cut {f k : Nat} {F : IFun} (hF : FT f = some F) : TLe (setF FT f (cutF k F)) FT := by
  refine ⟨?_, fun g F' h => ?_⟩
  · funext g
    unfold ROof setF
    by_cases hg : g = f
    · rw [if_pos hg, hg, hF]; rfl
    · rw [if_neg hg]
  · unfold setF at h
    split at h
    · rename_i hg
      simp only [Option.some.injEq] at h
      subst h; subst hg
      exact ⟨F, hF, rfl, rfl, rfl, rfl, rfl, .inr ⟨k, rfl⟩⟩
    · exact ⟨F', h, rfl, rfl, rfl, rfl, rfl, .inl rfl⟩
end

/-! ### Reckoned answers -/
def isYes : Option (PV × List (Option Blk)) → Bool
  | some (.bool true, []) => true
  | _ => false
theorem isYes_eq {x : Option (PV × List (Option Blk))} (h : isYes x = true) : x = some (.bool true, []) := by
  unfold isYes at h
  split at h
  · rfl
  · cases h
theorem cost_bound (L : Nat) : ∀ (T : List (Option IFun)), ∃ B, ∀ F, some F ∈ T → costE L F.body ≤ B
  | [] => ⟨0, fun F h => by cases h⟩
  | none :: T => by
    obtain ⟨B, h⟩ := cost_bound L T
    exact ⟨B, fun F hF => by
      rcases List.mem_cons.1 hF with e | e
      · cases e
      · exact h F e⟩
  | some G :: T => by
    obtain ⟨B, h⟩ := cost_bound L T
    exact ⟨max B (costE L G.body), fun F hF => by
      rcases List.mem_cons.1 hF with e | e
      · cases e; exact Nat.le_max_right _ _
      · exact Nat.le_trans (h F e) (Nat.le_max_left _ _)⟩
theorem tab_bound (L : Nat) (T : List (Option IFun)) : ∃ B, ∀ f F, tabOf T f = some F → costE L F.body ≤ B := by
  obtain ⟨B, h⟩ := cost_bound L T
  refine ⟨B, fun f F hf => h F ?_⟩
  unfold tabOf at hf
  rw [List.getD_eq_getElem?_getD] at hf
  cases hl : T[f]? with
  | none => rw [hl] at hf; cases hf
  | some x => rw [hl] at hf; simp only [Option.getD_some] at hf; subst hf; exact List.mem_of_getElem? hl
theorem yes_of {T : List (Option IFun)} {L m f : Nat} {args : List PV} (h : isYes (callK (tabOf T) L m f args []) = true) : ∃ n, callE (tabOf T) n f args [] = some (.bool true, []) := by
  obtain ⟨B, hB⟩ := tab_bound L T
  obtain ⟨N, hN⟩ := callK_ok hB m
  exact ⟨N, hN _ _ _ _ (isYes_eq h)⟩
/-- A law's arguments, looked at in a few places, and others that look the same there. -/
theorem yes_swap {T : List (Option IFun)} {L m f : Nat} {F : IFun} {S : Tn} {Ls : List Ob} {args args' : List PV} (hF : tabOf T f = some F) (hi : F.intr = none) (ho : obCode S F.body = some Ls) (hr : obRes S F.res = true)
    (hl : args.length = args'.length) (ha : ∀ t, t < args.length → match tnAt S t with | none => nth args t = nth args' t | some i => i = t)
    (hL : ∀ ob ∈ Ls, ObEq (tabOf T) (nth args) (nth args') ob) (h : isYes (callK (tabOf T) L m f args' []) = true) : ∃ n, callE (tabOf T) n f args [] = some (.bool true, []) := by
  obtain ⟨n, hn⟩ := yes_of h
  exact ⟨n, callE_swap hF hi ho hr hL hl ha hn⟩
/-- .. in the first few parts alone. -/
theorem yes_cut {T : List (Option IFun)} {L m f : Nat} {F : IFun} {S : Tn} {Ls : List Ob} {args args' : List PV} (k : Nat) (hF : tabOf T f = some F) (hi : F.intr = none) (ho : obCode S (cutC k F.body) = some Ls) (hr : obRes S F.res = true)
    (hl : args.length = args'.length) (ha : ∀ t, t < args.length → match tnAt S t with | none => nth args t = nth args' t | some i => i = t)
    (hL : ∀ ob ∈ Ls, ObEq (setF (tabOf T) f (cutF k F)) (nth args) (nth args') ob) (h : isYes (callK (setF (tabOf T) f (cutF k F)) L m f args' []) = true) : ∃ n, callE (tabOf T) n f args [] = some (.bool true, []) := by
  obtain ⟨B, hB⟩ := tab_bound L T
  have hB2 : ∀ g F', setF (tabOf T) f (cutF k F) g = some F' → costE L F'.body ≤ max B (costE L (cutF k F).body) := by
    intro g F' hg
    unfold setF at hg
    split at hg
    · simp only [Option.some.injEq] at hg; subst hg; exact Nat.le_max_right _ _
    · exact Nat.le_trans (hB g F' hg) (Nat.le_max_left _ _)
  obtain ⟨N, hN⟩ := callK_ok hB2 m
  have h1 := hN _ _ _ _ (isYes_eq h)
  have h2 := callE_swap (FT := setF (tabOf T) f (cutF k F)) (f := f) (F := cutF k F) (by unfold setF; rw [if_pos rfl]) hi ho hr hL hl ha h1
  exact ⟨N, ((TLe.cut hF).mono N).1 _ _ _ _ h2⟩
end Gv

namespace Gv
open Go (IntKind BinOp UnOp)
/-- A number's place among K. -/
def rnd (a K : Int) : Int := (a.tmod K + K).tmod K
def roundF : IFun := ⟨12, 0, true, [true, true], [.tmp 4],
 (.seq
  (.reg [⟨some 4, .mov (.c (.int .i64 0)), none, []⟩] false)
  (.seq
   (.reg [⟨some 5, .mov (.t 0), none, []⟩, ⟨some 6, .mov (.t 1), none, []⟩, ⟨some 7, .bin .rem (.t 5) (.t 6), none, []⟩, ⟨some 8, .mov (.t 1), none, []⟩, ⟨some 9, .bin .add (.t 7) (.t 8), none, []⟩, ⟨some 10, .mov (.t 1), none, []⟩, ⟨some 11, .bin .rem (.t 9) (.t 10), none, []⟩, ⟨some 4, .mov (.t 11), none, []⟩] false)
   .ret)), none⟩
theorem tmod_lo (a K : Int) (h : 0 < K) : -K < a.tmod K := by
  rcases Int.le_total 0 a with ha | ha
  · have := Int.tmod_nonneg K ha; omega
  · have h1 := Int.tmod_lt_of_pos (-a) h
    rw [Int.neg_tmod] at h1
    omega
theorem wrap_small {n : Int} (h1 : -1000000 ≤ n) (h2 : n ≤ 1000000) : IntKind.i64.wrap n = n := by rw [IntKind.wrap_i64]; omega
theorem round_run {FT : Nat → Option IFun} {f : Nat} (hF : FT f = some roundF) {a K : Int} (h0 : 0 < K) (h1 : K < 1000) : ∀ n, callE FT n f [.int .i64 a, .int .i64 K] [] = if n < 4 then none else some (.int .i64 (rnd a K), []) := by
  have hw : IntKind.i64.wrap (a.tmod K + K) = a.tmod K + K := by
    have := tmod_lo a K h0
    have := Int.tmod_lt_of_pos a h0
    exact wrap_small (by omega) (by omega)
  have hne : ¬ (K = 0) := by omega
  intro n
  match n with
  | 0 => simp [callE]
  | 1 => simp [callE, hF, roundF, exec]
  | 2 => simp [callE, hF, roundF, exec]
  | 3 => simp [callE, hF, roundF, exec, runOps, stepOp, wanted, sem, PO.ev, nth, upd, putDst, HM.run]
  | n + 4 =>
    rw [if_neg (by omega)]
    simp [callE, hF, roundF, exec, runOps, stepOp, wanted, sem, PO.ev, nth, upd, putDst, HM.run, bin, binI, HM.ofO, hne, hw, finish, resOf, HM.bind, one, freezeC, argBlks, collectL, toks, blkToks, ren, rnd, List.replicate]
theorem rnd_bounds (a K : Int) (h : 0 < K) : 0 ≤ rnd a K ∧ rnd a K < K := by
  have h1 := tmod_lo a K h
  exact ⟨Int.tmod_nonneg K (by omega), Int.tmod_lt_of_pos _ h⟩
theorem rnd_self {r K : Int} (h0 : 0 ≤ r) (h1 : r < K) : rnd r K = r := by
  unfold rnd
  rw [Int.tmod_eq_of_lt h0 h1, Int.tmod_eq_emod_of_nonneg (by omega), Int.add_emod_right, Int.emod_eq_of_lt h0 h1]
/-- What is seen of a number by its place alone. -/
theorem round_ob {FT : Nat → Option IFun} {f : Nat} (hF : FT f = some roundF) {u u' : Nat → PV} {i : Nat} {a K : Int} (h0 : 0 < K) (h1 : K < 1000) (hu : u i = .int .i64 a) (hu' : u' i = .int .i64 (rnd a K)) : ObEq FT u u' (.call f i [.int .i64 K]) := by
  obtain ⟨b0, b1⟩ := rnd_bounds a K h0
  refine ⟨by rw [hu, hu']; rfl, fun n x hx => ?_⟩
  rw [hu'] at hx
  rw [hu]
  rw [round_run hF h0 h1, rnd_self b0 b1] at hx
  rw [round_run hF h0 h1]; exact hx
theorem lt_ob {FT : Nat → Option IFun} {u u' : Nat → PV} {i : Nat} {a a' k : Int} (hu : u i = .int .i64 a) (hu' : u' i = .int .i64 a') (h : a < k ↔ a' < k) : ObEq FT u u' (.bin .lss i (.int .i64 k) true) := by
  show bin .lss (u i) _ = bin .lss (u' i) _
  rw [hu, hu']
  simp only [bin, binI]
  simp [h]
theorem gt_ob {FT : Nat → Option IFun} {u u' : Nat → PV} {i : Nat} {a a' k : Int} (hu : u i = .int .i64 a) (hu' : u' i = .int .i64 a') (h : k < a ↔ k < a') : ObEq FT u u' (.bin .gtr i (.int .i64 k) true) := by
  show bin .gtr (u i) _ = bin .gtr (u' i) _
  rw [hu, hu']
  simp only [bin, binI]
  simp [h]
end Gv
