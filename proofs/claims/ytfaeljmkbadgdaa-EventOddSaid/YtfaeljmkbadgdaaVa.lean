/- What this file proves: one part of the proof that the law answers true for every input, by an interpreter that is proved sound against the given model. -/
import Derived.Test.YtfaeljmkbadgdaaEc
namespace Gv
open Go (IntKind BinOp UnOp)

mutual
def nrm : PV → PV
  | .nils => .lst [] false
  | .lst es _ => .lst (nrmL es) false
  | .lptr cs => .lptr (nrmL cs)
  | .agg cs => .agg (nrmL cs)
  | .tup cs => .tup (nrmL cs)
  | .fn f cs => .fn f (nrmL cs)
  | v => v
def nrmL : List PV → List PV
  | [] => []
  | x :: xs => nrm x :: nrmL xs
end

inductive X where
  | v (n : Nat)
  | int (k : IntKind) (n : Int)
  | boo (b : Bool)
  | str (s : List UInt8)
  | nilp
  | nilfn
  | nl
  | cn (a l : X)
  | agg (l : X)
  | lst (l : X)
  | lp (l : X)
  | tup (l : X)
  | fn (f : Nat) (l : X)
  | bin (op : BinOp) (a b : X)
  | un (op : UnOp) (a : X)
  | toInt (k : IntKind) (a : X)
  | eqs (neg : Bool) (ks : List Bool) (a b : X)
  | eqb (neg : Bool) (a b : X)
  | eqn (k : Nat) (neg : Bool) (a b : X)
  | len (a : X)
  | lenS (a : X)
  | fld (sz : Option Nat) (a : X) (o : Nat)
  | ld (sz : Option Nat) (a : X) (o : Nat)
  | ia (sz : Nat) (a i : X)
  | fa (a : X) (o : Nat)
  | iaa (n sz : Nat) (a i : X)
  | slice (sz : Nat) (a lo hi mx : X)
  | app (sz : Nat) (a b : X)
  | mks (sz : Nat) (z n : X)
  | ite (c a b : X)
  | gd (c : X) (p : Bool) (e : X)
  | b2s (a : X)
  | s2b (a : X)
  | mm (b : Bool) (l : X)
  | ext (a : X) (i : Nat)
  | upd (sz : Option Nat) (a i : X) (o : Nat) (e : X)
  | chk (sz : Option Nat) (e : X)
  | pos (a : X)
  | nck (a : X)
  deriving DecidableEq, Inhabited

abbrev Env := Nat → PV

def listOf : PV → Option (List PV)
  | .tup l => some l
  | _ => none
def lenV : PV → Option PV
  | .lst es _ => some (.int .i64 es.length)
  | _ => none
def optV : PV → Option (Option PV)
  | .tup [] => some none
  | .int k n => some (some (.int k n))
  | _ => none
def sliceV (sz : Nat) (x lo hi mx : PV) : Option PV :=
  match optV lo, optV hi, optV mx with
  | some lo, some hi, some mx => match x with
    | .lst es _ => if sz = 0 ∨ (mx.isSome && hi.isNone) = true then none else (sliceLst sz es false lo hi mx).map nrm
    | .str s => if sz = 0 then (if mx.isSome then none else sliceStr s lo hi) else none
    | _ => none
  | _, _, _ => none
def appV (sz : Nat) (x y : PV) : Option PV :=
  match x, y with
  | .lst xs _, .lst ys _ => if sized sz ys ∧ xs.length + ys.length < maxNew then some (.lst (xs ++ ys) false) else none
  | .lst xs _, .str s => if sz = 1 ∧ xs.length + s.length < maxNew then some (.lst (xs ++ s.map fun b => PV.int .u8 b.toNat) false) else none
  | _, _ => none
def mksV (sz : Nat) (z n : PV) : Option PV :=
  match n with
  | .int _ n => if 0 ≤ n ∧ n < maxNew ∧ z.cells.length = sz ∧ okCells z.cells then some (.lst (List.replicate n.toNat z) false) else none
  | _ => none
def b2sV : PV → Option PV
  | .lst es _ => (bytesOf es).map PV.str
  | _ => none
def s2bV : PV → Option PV
  | .str l => if l.length < maxNew then some (.lst (l.map fun b => PV.int .u8 b.toNat) false) else none
  | _ => none
def mmV (b : Bool) : List PV → Option PV
  | [] => none
  | y :: ys => mmPV b y ys
def updV (sz : Option Nat) (x i : PV) (o : Nat) (e : PV) : Option PV :=
  match x, i with
  | .lst es _, .int _ n => if 0 ≤ n ∧ n < es.length then match es[n.toNat]? with
      | some y => if e.fits sz ∧ okCells e.cells ∧ o + e.cells.length ≤ y.cells.length
          then some (.lst (es.set n.toNat (y.withCells (y.cells.take o ++ e.cells ++ y.cells.drop (o + e.cells.length)))) false) else none
      | none => none
    else none
  | _, _ => none
def loadV (cs : List PV) (o : Nat) (sz : Option Nat) : Option PV := match loadC cs o sz with | some x => if x.fits sz then some x else none | none => none
def ldV (sz : Option Nat) (o : Nat) : PV → Option PV
  | .lptr cs => loadV cs o sz
  | _ => none
def fldV (sz : Option Nat) (o : Nat) : PV → Option PV
  | .agg cs => loadV cs o sz
  | _ => none
def extV (i : Nat) : PV → Option PV
  | .tup vs => vs[i]?
  | _ => none
def nckV : PV → Option PV
  | .lptr cs => some (.lptr cs)
  | .fn f cs => some (.fn f cs)
  | _ => none
def posV : PV → Option PV
  | .lst (e :: es) c => some (.lst (e :: es) c)
  | _ => none
def chkV (sz : Option Nat) (x : PV) : Option PV := if x.fits sz ∧ okCells x.cells then some x else none
def toIntV (k : IntKind) : PV → Option PV
  | .int _ n => some (.int k (k.wrap n))
  | _ => none
def eqsV (neg : Bool) (ks : List Bool) (x y : PV) : Option PV :=
  match x, y with
  | .agg xs, .agg ys => match eqCells ks xs ys with | some b => some (.bool (if neg then !b else b)) | none => none
  | _, _ => none
def mfn (f : Nat) (l : PV) : Option PV := (listOf l).map (PV.fn f)
def obind {α β : Type} (x : Option α) (f : α → Option β) : Option β := match x with | some a => f a | none => none
@[simp] theorem obind_some {α β : Type} (a : α) (f : α → Option β) : obind (some a) f = f a := rfl
@[simp] theorem obind_none {α β : Type} (f : α → Option β) : obind (none : Option α) f = none := rfl

def X.ev (env : Env) : X → Option PV
  | .v n => some (env n)
  | .int k n => some (.int k n)
  | .boo b => some (.bool b)
  | .str s => some (.str s)
  | .nilp => some .nilp
  | .nilfn => some .nilfn
  | .nl => some (.tup [])
  | .cn a l => obind (a.ev env) fun x => obind (l.ev env) fun y => match y with | .tup xs => some (.tup (x :: xs)) | _ => none
  | .agg l => obind (l.ev env) fun y => obind (listOf y) fun xs => if okCells xs then some (.agg xs) else none
  | .lst l => obind (l.ev env) fun y => obind (listOf y) fun xs => some (.lst xs false)
  | .lp l => obind (l.ev env) fun y => obind (listOf y) fun xs => if okCells xs then some (.lptr xs) else none
  | .tup l => obind (l.ev env) fun y => obind (listOf y) fun xs => some (.tup xs)
  | .fn f l => obind (l.ev env) fun y => mfn f y
  | .bin op a b => obind (a.ev env) fun x => obind (b.ev env) fun y => Gv.bin op x y
  | .un op a => obind (a.ev env) fun x => Gv.un op x
  | .toInt k a => obind (a.ev env) fun x => toIntV k x
  | .eqs neg ks a b => obind (a.ev env) fun x => obind (b.ev env) fun y => eqsV neg ks x y
  | .eqb neg a b => obind (a.ev env) fun x => obind (b.ev env) fun y => Gv.eqb neg x y
  | .eqn k neg a b => obind (a.ev env) fun x => obind (b.ev env) fun y => if k = 0 then none else Gv.eqn k neg x y
  | .len a => obind (a.ev env) lenV
  | .lenS a => obind (a.ev env) lenSPV
  | .fld sz a o => obind (a.ev env) (fldV sz o)
  | .ld sz a o => obind (a.ev env) (ldV sz o)
  | .ia sz a i => obind (a.ev env) fun x => obind (i.ev env) fun y => indexAddrPV sz x y
  | .fa a o => obind (a.ev env) fun x => fieldAddrPV x o
  | .iaa n sz a i => obind (a.ev env) fun x => obind (i.ev env) fun y => idxArrPV n sz x y
  | .slice sz a lo hi mx => obind (a.ev env) fun x => obind (lo.ev env) fun l => obind (hi.ev env) fun h => obind (mx.ev env) fun m => sliceV sz x l h m
  | .app sz a b => obind (a.ev env) fun x => obind (b.ev env) fun y => appV sz x y
  | .mks sz z n => obind (z.ev env) fun x => obind (n.ev env) fun y => mksV sz x y
  | .ite c a b => obind (c.ev env) fun y => match y with | .bool true => a.ev env | .bool false => b.ev env | _ => none
  | .gd c p e => obind (c.ev env) fun y => match y with | .bool q => if q = p then e.ev env else some (.tup []) | .tup [] => some (.tup []) | _ => none
  | .b2s a => obind (a.ev env) b2sV
  | .s2b a => obind (a.ev env) s2bV
  | .mm b l => obind (l.ev env) fun y => obind (listOf y) (mmV b)
  | .ext a i => obind (a.ev env) (extV i)
  | .upd sz a i o e => obind (a.ev env) fun x => obind (i.ev env) fun y => obind (e.ev env) fun z => updV sz x y o z
  | .chk sz e => obind (e.ev env) (chkV sz)
  | .pos a => obind (a.ev env) posV
  | .nck a => obind (a.ev env) nckV

def X.ment (p : Nat → Bool) : X → Bool
  | .v n => p n
  | .cn a b | .bin _ a b | .eqs _ _ a b | .eqb _ a b | .eqn _ _ a b | .ia _ a b | .iaa _ _ a b | .app _ a b | .mks _ a b | .gd a _ b => a.ment p || b.ment p
  | .agg a | .lst a | .lp a | .tup a | .fn _ a | .un _ a | .toInt _ a | .len a | .lenS a | .fld _ a _ | .ld _ a _ | .fa a _ | .b2s a | .s2b a | .mm _ a | .ext a _ | .chk _ a | .pos a | .nck a => a.ment p
  | .slice _ a b c d => a.ment p || b.ment p || c.ment p || d.ment p
  | .ite a b c | .upd _ a b _ c => a.ment p || b.ment p || c.ment p
  | _ => false
theorem X.ev_ment {p : Nat → Bool} {e1 e2 : Env} (h : ∀ n, p n = false → e1 n = e2 n) : ∀ {x : X}, x.ment p = false → x.ev e1 = x.ev e2 := by
  intro x
  induction x <;> intro hm <;> simp only [X.ment, Bool.or_eq_false_iff] at hm <;> simp only [X.ev]
  case v n => rw [h n hm]
  all_goals simp_all
def subX (e : X) : X → Bool
  | .cn a b => decide (e = .cn a b) || subX e a || subX e b
  | .bin o a b => decide (e = .bin o a b) || subX e a || subX e b
  | .eqs n k a b => decide (e = .eqs n k a b) || subX e a || subX e b
  | .eqb n a b => decide (e = .eqb n a b) || subX e a || subX e b
  | .eqn k n a b => decide (e = .eqn k n a b) || subX e a || subX e b
  | .ia k a b => decide (e = .ia k a b) || subX e a || subX e b
  | .iaa k l a b => decide (e = .iaa k l a b) || subX e a || subX e b
  | .app k a b => decide (e = .app k a b) || subX e a || subX e b
  | .mks k a b => decide (e = .mks k a b) || subX e a || subX e b
  | .gd a p b => decide (e = .gd a p b) || subX e a
  | .agg a => decide (e = .agg a) || subX e a
  | .lst a => decide (e = .lst a) || subX e a
  | .lp a => decide (e = .lp a) || subX e a
  | .tup a => decide (e = .tup a) || subX e a
  | .fn f a => decide (e = .fn f a) || subX e a
  | .un o a => decide (e = .un o a) || subX e a
  | .toInt k a => decide (e = .toInt k a) || subX e a
  | .len a => decide (e = .len a) || subX e a
  | .lenS a => decide (e = .lenS a) || subX e a
  | .fld s a o => decide (e = .fld s a o) || subX e a
  | .ld s a o => decide (e = .ld s a o) || subX e a
  | .fa a o => decide (e = .fa a o) || subX e a
  | .b2s a => decide (e = .b2s a) || subX e a
  | .s2b a => decide (e = .s2b a) || subX e a
  | .mm b a => decide (e = .mm b a) || subX e a
  | .ext a i => decide (e = .ext a i) || subX e a
  | .chk s a => decide (e = .chk s a) || subX e a
  | .pos a => decide (e = .pos a) || subX e a
  | .nck a => decide (e = .nck a) || subX e a
  | .slice s a b c d => decide (e = .slice s a b c d) || subX e a || subX e b || subX e c || subX e d
  | .ite a b c => decide (e = .ite a b c) || subX e a
  | .upd s a b o c => decide (e = .upd s a b o c) || subX e a || subX e b || subX e c
  | x => decide (e = x)
theorem obind_isSome {α β : Type} {x : Option α} {f : α → Option β} (h : (obind x f).isSome = true) : x.isSome = true ∧ ∃ a, x = some a ∧ (f a).isSome = true := by
  cases x with
  | none => simp at h
  | some a => exact ⟨rfl, a, rfl, h⟩
theorem subX_ev {env : Env} {e : X} : ∀ {x : X}, subX e x = true → (x.ev env).isSome = true → (e.ev env).isSome = true := by
  intro x
  induction x <;> intro hs hv <;> simp only [subX, Bool.or_eq_true, decide_eq_true_eq] at hs
  case ite a b c iha ihb ihc =>
    rcases hs with rfl | hs
    · exact hv
    · simp only [X.ev] at hv; exact iha hs (obind_isSome hv).1
  case gd a p b iha ihb =>
    rcases hs with rfl | hs
    · exact hv
    · simp only [X.ev] at hv; exact iha hs (obind_isSome hv).1
  case slice s a b c d iha ihb ihc ihd =>
    rcases hs with (((rfl | hs) | hs) | hs) | hs
    · exact hv
    all_goals
      simp only [X.ev] at hv
      obtain ⟨h1, x, _, h2⟩ := obind_isSome hv
      obtain ⟨h3, y, _, h4⟩ := obind_isSome h2
      obtain ⟨h5, z, _, h6⟩ := obind_isSome h4
      obtain ⟨h7, u, _, _⟩ := obind_isSome h6
    · exact iha hs h1
    · exact ihb hs h3
    · exact ihc hs h5
    · exact ihd hs h7
  case upd s a b o c iha ihb ihc =>
    rcases hs with ((rfl | hs) | hs) | hs
    · exact hv
    all_goals
      simp only [X.ev] at hv
      obtain ⟨h1, x, _, h2⟩ := obind_isSome hv
      obtain ⟨h3, y, _, h4⟩ := obind_isSome h2
      obtain ⟨h5, z, _, h6⟩ := obind_isSome h4
    · exact iha hs h1
    · exact ihb hs h3
    · exact ihc hs h5
  all_goals first
    | (subst hs; exact hv)
    | (rename_i iha ihb
       rcases hs with (rfl | hs) | hs
       · exact hv
       · simp only [X.ev] at hv; exact iha hs (obind_isSome hv).1
       · simp only [X.ev] at hv
         obtain ⟨h1, x, _, h2⟩ := obind_isSome hv
         exact ihb hs (obind_isSome h2).1)
    | (rename_i iha
       rcases hs with rfl | hs
       · exact hv
       · simp only [X.ev] at hv; exact iha hs (obind_isSome hv).1)

inductive VS where
  | asg (needs : List X) (binds : List (Nat × X))
  | call (needs : List X) (g : Option (X × Bool)) (d : Nat) (f : Nat) (args : List X) (outs : List Nat)
  | callv (needs : List X) (g : Option (X × Bool)) (d : Nat) (f : X) (args : List X)
inductive VC where
  | skip
  | st (l : List VS)
  | seq (a b : VC)
  | cond (c : X) (a b : VC)
  | block (id : Nat) (c : VC)
  | loop (c : VC)
  | exit (id : Nat)
  | ret (r : X) (outs : List X)
inductive K where
  | F
  | O (sz : Nat) (wf : Bool)
  | Q
  | B (ro : Bool) (cs : List K)
  | A (cs : List K)
  | T (cs : List K)
structure Sig where
  ps : List K
  r : K
  scal : Bool
structure VFun where
  sig : Sig
  binds : List (Nat × X)
  body : VC
abbrev CallV := Nat → List PV → Option (PV × List PV)

def Env.set (env : Env) (n : Nat) (v : PV) : Env := fun i => if i = n then v else env i
@[simp] theorem Env.set_at (env : Env) (n i : Nat) (v : PV) : env.set n v i = if i = n then v else env i := rfl
def Env.sets (env : Env) : List Nat → List PV → Env
  | n :: ns, v :: vs => (env.set n v).sets ns vs
  | _, _ => env
def evAll (env : Env) : List X → Option (List PV)
  | [] => some []
  | x :: xs => obind (x.ev env) fun v => obind (evAll env xs) fun vs => some (v :: vs)
def bindAll (env : Env) : List (Nat × X) → Env → Option Env
  | [], out => some out
  | (n, x) :: bs, out => obind (x.ev env) fun v => bindAll env bs (out.set n v)
def allGood (env : Env) : List X → Bool
  | [] => true
  | x :: xs => (x.ev env).isSome && allGood env xs
def guardV (env : Env) : Option (X × Bool) → Option Bool
  | none => some true
  | some (g, p) => match g.ev env with
    | some (.bool q) => some (q == p)
    | some (.tup []) => some false
    | _ => none
def VS.run (C : CallV) (V : Nat → List PV → List PV → Bool) (env : Env) : VS → Option Env
  | .asg needs binds => if allGood env needs then bindAll env binds env else none
  | .call needs g d f args outs => if allGood env needs then
      match guardV env g with
      | some true => obind (evAll env args) fun vs => obind (C f vs) fun r => if r.2.length = outs.length then some ((env.set d r.1).sets outs r.2) else none
      | some false => some (env.set d (.tup []))
      | none => none
    else none
  | .callv needs g d f args => if allGood env needs then
      match guardV env g with
      | some true => obind (f.ev env) fun fv => match fv with
        | .fn k caps => obind (evAll env args) fun vs => if V k vs caps then obind (C k (vs ++ caps)) fun r => some (env.set d r.1) else none
        | _ => none
      | some false => some (env.set d (.tup []))
      | none => none
    else none
def runVS (C : CallV) (V : Nat → List PV → List PV → Bool) (env : Env) : List VS → Option Env
  | [] => some env
  | s :: ss => obind (s.run C V env) fun env => runVS C V env ss
inductive VEx where
  | norm (env : Env)
  | exit (id : Nat) (env : Env)
  | ret (r : PV) (outs : List PV)
def loopN (f : Env → Option VEx) : Nat → Env → Option VEx
  | 0, _ => none
  | n + 1, env => match f env with
    | some (.norm env') => loopN f n env'
    | r => r
def bigN : Nat := 1099511627776
def den (C : CallV) (V : Nat → List PV → List PV → Bool) : VC → Env → Option VEx
  | .skip, env => some (.norm env)
  | .st l, env => match runVS C V env l with | some env => some (.norm env) | none => none
  | .seq a b, env => match den C V a env with
    | some (.norm env) => den C V b env
    | r => r
  | .cond c a b, env => match c.ev env with
    | some (.bool true) => den C V a env
    | some (.bool false) => den C V b env
    | _ => none
  | .block id c, env => match den C V c env with
    | some (.exit i env) => if i = id then some (.norm env) else some (.exit i env)
    | r => r
  | .loop c, env => loopN (den C V c) bigN env
  | .exit id, env => some (.exit id env)
  | .ret r outs, env => obind (r.ev env) fun x => obind (evAll env outs) fun os => some (.ret x os)
def scalV : PV → Bool
  | .int .. | .bool _ | .str _ | .nilp | .nilfn => true
  | .tup vs => vs.all fun | .int .. | .bool _ | .str _ | .nilp | .nilfn => true | _ => false
  | _ => false
def Env.ofArgs (vs : List PV) : Env := fun i => (vs[i]?).getD .junk
def allF : List K → Bool
  | [] => true
  | .F :: ks => allF ks
  | _ => false
def vOk : List K → Nat → List PV → Bool
  | [], 0, [] => true
  | .F :: ks, n + 1, cs => vOk ks n cs
  | .B true bs :: ks, 0, .lptr l :: cs => allF bs && l.length == bs.length && vOk ks 0 cs
  | .B true _ :: _, 0, _ :: _ => false
  | .F :: _, 0, .lptr _ :: _ => false
  | .F :: ks, 0, _ :: cs => vOk ks 0 cs
  | _, _, _ => false
def vTab (VT : Nat → Option VFun) (f : Nat) (vs caps : List PV) : Bool := match VT f with | some F => vOk F.sig.ps vs.length caps && (match F.sig.r with | .F => F.sig.scal | _ => false) | none => false
def isO : K → Bool
  | .O _ _ => true
  | _ => false
def scalO : PV → Bool
  | .lst es _ => es.all fun | .int .. | .bool _ | .str _ | .nilp | .nilfn => true | _ => false
  | _ => false
def callV (VT : Nat → Option VFun) : Nat → CallV
  | 0, _, _ => none
  | m + 1, f, vs => match VT f with
    | none => none
    | some F => obind (bindAll (Env.ofArgs vs) F.binds (Env.ofArgs vs)) fun env => match den (callV VT m) (vTab VT) F.body env with
      | some (.ret r os) => if F.sig.ps.length = vs.length ∧ (F.sig.scal = false ∨ scalV r = true ∨ (isO F.sig.r && scalO r) = true) then some (r, os) else none
      | _ => none
end Gv

namespace Gv
open Go (IntKind BinOp UnOp)

mutual
def pl : PV → Bool
 | .lst es _ => plL es
 | .lptr cs => okCells cs && plL cs
 | .agg cs => okCells cs && plL cs
 | .fn _ cs => cs.isEmpty
 | .tup _ | .tok .. | .ptr .. | .junk => false
 | _ => true
def plL : List PV → Bool
 | [] => true
 | x :: xs => pl x && plL xs
end
theorem nrmL_map : ∀ l : List PV, nrmL l = l.map nrm
 | [] => rfl
 | x :: xs => by simp only [nrmL, List.map_cons, nrmL_map xs]
theorem plL_iff : ∀ {l : List PV}, plL l = true ↔ ∀ x ∈ l, pl x = true
 | [] => by simp [plL]
 | x :: xs => by simp [plL, plL_iff (l := xs)]
theorem nrmL_length (l : List PV) : (nrmL l).length = l.length := by rw [nrmL_map, List.length_map]
theorem nrm_cells (v : PV) : (nrm v).cells = nrmL v.cells := by cases v <;> simp [nrm, PV.cells, nrmL]
theorem nrm_cells_len (v : PV) : (nrm v).cells.length = v.cells.length := by rw [nrm_cells, nrmL_length]
theorem nrm_isCell (v : PV) : (nrm v).isCell = v.isCell := by cases v <;> rfl
theorem nrm_okCells : ∀ l : List PV, okCells (nrmL l) = okCells l
 | [] => rfl
 | x :: xs => by simp only [nrmL, okCells, nrm_isCell, nrm_okCells xs]
theorem nrm_fits (v : PV) (sz : Option Nat) : (nrm v).fits sz = v.fits sz := by
 cases sz <;> cases v <;> simp [nrm, PV.fits, nrmL_length]
theorem nrmL_get {l : List PV} {i : Nat} : (nrmL l)[i]? = (l[i]?).map nrm := by rw [nrmL_map, List.getElem?_map]
theorem plL_get {l : List PV} (h : plL l = true) {i : Nat} {x : PV} (hi : l[i]? = some x) : pl x = true := plL_iff.1 h x (List.mem_of_getElem? hi)
theorem plL_drop {l : List PV} (h : plL l = true) (n : Nat) : plL (l.drop n) = true := plL_iff.2 fun x hx => plL_iff.1 h x (List.mem_of_mem_drop hx)
theorem plL_take {l : List PV} (h : plL l = true) (n : Nat) : plL (l.take n) = true := plL_iff.2 fun x hx => plL_iff.1 h x (List.mem_of_mem_take hx)
theorem plL_app {l m : List PV} : plL (l ++ m) = (plL l && plL m) := by
 induction l with
 | nil => simp [plL]
 | cons x xs ih => simp [plL, ih, Bool.and_assoc]
theorem nrmL_drop (l : List PV) (n : Nat) : nrmL (l.drop n) = (nrmL l).drop n := by simp only [nrmL_map, List.map_drop]
theorem nrmL_take (l : List PV) (n : Nat) : nrmL (l.take n) = (nrmL l).take n := by simp only [nrmL_map, List.map_take]
theorem nrmL_app (l m : List PV) : nrmL (l ++ m) = nrmL l ++ nrmL m := by simp only [nrmL_map, List.map_append]
theorem okCells_iff : ∀ {l : List PV}, okCells l = true ↔ ∀ x ∈ l, x.isCell = true
 | [] => by simp [okCells]
 | x :: xs => by simp [okCells, okCells_iff (l := xs)]
theorem okCells_drop {l : List PV} (h : okCells l = true) (n : Nat) : okCells (l.drop n) = true := okCells_iff.2 fun x hx => okCells_iff.1 h x (List.mem_of_mem_drop hx)
theorem okCells_take {l : List PV} (h : okCells l = true) (n : Nat) : okCells (l.take n) = true := okCells_iff.2 fun x hx => okCells_iff.1 h x (List.mem_of_mem_take hx)
theorem okCells_app {l m : List PV} : okCells (l ++ m) = (okCells l && okCells m) := by
 induction l with
 | nil => simp [okCells]
 | cons x xs ih => simp [okCells, ih, Bool.and_assoc]
theorem pl_cells {v : PV} (h : pl v = true) : plL v.cells = true := by
 cases v <;> simp_all [pl, PV.cells, plL]
mutual
theorem nrm_nrm : ∀ (v : PV), nrm (nrm v) = nrm v
 | .lst es _ => by simp only [nrm, nrmL_nrmL]
 | .lptr cs => by simp only [nrm, nrmL_nrmL]
 | .agg cs => by simp only [nrm, nrmL_nrmL]
 | .tup cs => by simp only [nrm, nrmL_nrmL]
 | .fn _ cs => by simp only [nrm, nrmL_nrmL]
 | .tok .. => rfl
 | .ptr .. => rfl
 | .junk => rfl
 | .int .. => rfl
 | .bool _ => rfl
 | .str _ => rfl
 | .nils => rfl
 | .nilp => rfl
 | .nilfn => rfl
theorem nrmL_nrmL : ∀ (l : List PV), nrmL (nrmL l) = nrmL l
 | [] => rfl
 | x :: xs => by simp only [nrmL, nrm_nrm, nrmL_nrmL]
end

mutual
theorem pl_ren : ∀ {v : PV}, pl v = true → ∀ f : Ref → Nat → Option (Ref × Nat), ren f v = v ∧ toks v = []
 | .lst es _, h, f => ⟨rfl, rfl⟩
 | .lptr cs, h, f => ⟨rfl, rfl⟩
 | .agg cs, h, f => by
  simp only [pl, Bool.and_eq_true] at h
  have := plL_ren h.2 f
  exact ⟨by simp only [ren, this.1], by simp only [toks, this.2]⟩
 | .tup cs, h, f => by simp [pl] at h
 | .fn _ cs, h, f => by
  simp only [pl, List.isEmpty_iff] at h; subst h; exact ⟨rfl, rfl⟩
 | .tok .., h, _ => by simp [pl] at h
 | .ptr .., h, _ => by simp [pl] at h
 | .junk, h, _ => by simp [pl] at h
 | .int .., _, _ => ⟨rfl, rfl⟩
 | .bool _, _, _ => ⟨rfl, rfl⟩
 | .str _, _, _ => ⟨rfl, rfl⟩
 | .nils, _, _ => ⟨rfl, rfl⟩
 | .nilp, _, _ => ⟨rfl, rfl⟩
 | .nilfn, _, _ => ⟨rfl, rfl⟩
theorem plL_ren : ∀ {l : List PV}, plL l = true → ∀ f : Ref → Nat → Option (Ref × Nat), renL f l = l ∧ toksL l = []
 | [], _, f => ⟨rfl, rfl⟩
 | x :: xs, h, f => by
  simp only [plL, Bool.and_eq_true] at h
  have h1 := pl_ren h.1 f
  have h2 := plL_ren h.2 f
  exact ⟨by simp only [renL, h1.1, h2.1], by simp only [toksL, h1.2, h2.2, List.nil_append]⟩
end
theorem pl_frozen : ∀ {v : PV}, pl v = true → frozenV v = true := by
 have key : ∀ {l : List PV}, (∀ x ∈ l, frozenV x = true) → frozenL l = true := by
  intro l h
  induction l with
  | nil => rfl
  | cons x xs ih => simp only [frozenL, h x (List.mem_cons_self ..), ih (fun y hy => h y (List.mem_cons_of_mem _ hy)), Bool.and_self]
 intro v
 apply PV.rec (motive_1 := fun v => pl v = true → frozenV v = true) (motive_2 := fun l => plL l = true → frozenL l = true) <;> intros <;> simp_all [pl, plL, frozenV, frozenL]
theorem plL_frozen {l : List PV} (h : plL l = true) : frozenL l = true := by
 induction l with
 | nil => rfl
 | cons x xs ih =>
  simp only [plL, Bool.and_eq_true] at h
  simp only [frozenL, pl_frozen h.1, ih h.2, Bool.and_self]
theorem freezeR_cell {v : PV} (h : pl v = true) (hc : v.isCell = true) (n : Nat) : freezeR (n + 1) v = .ret (v, []) := by
 cases v <;> first | rfl | (simp [pl] at h; done) | (simp [PV.isCell] at hc; done)
theorem mapR_cells : ∀ {cs : List PV}, okCells cs = true → plL cs = true → ∀ n, mapR (freezeR (n + 1)) cs = .ret (cs, [])
 | [], _, _, n => rfl
 | c :: cs, h, hp, n => by
  simp only [okCells, plL, Bool.and_eq_true] at h hp
  rw [mapR, freezeR_cell hp.1 h.1]
  show (mapR (freezeR (n + 1)) cs).bind _ = _
  rw [mapR_cells h.2 hp.2]; rfl
theorem freezeR_pl {v : PV} (h : pl v = true) (n : Nat) : freezeR (n + 2) v = .ret (v, []) := by
 cases v with
 | agg cs =>
  simp only [pl, Bool.and_eq_true] at h
  show (mapR (freezeR (n + 1)) cs).bind _ = _
  rw [mapR_cells h.1 h.2]; rfl
 | _ => first | rfl | (simp [pl] at h; done)
theorem mapR_pl : ∀ {l : List PV}, plL l = true → ∀ n, mapR (freezeR (n + 2)) l = .ret (l, [])
 | [], _, n => rfl
 | c :: cs, h, n => by
  simp only [plL, Bool.and_eq_true] at h
  rw [mapR, freezeR_pl h.1]
  show (mapR (freezeR (n + 2)) cs).bind _ = _
  rw [mapR_pl h.2]; rfl
theorem freezeC_cell {v : PV} (h : pl v = true) (hc : v.isCell = true) (n : Nat) : freezeC (n + 1) v = .ret v := by
 cases v with
 | fn f cs => simp only [pl, List.isEmpty_iff] at h; subst h; rfl
 | _ => first | rfl | (simp [pl] at h; done) | (simp [PV.isCell] at hc; done)
theorem mapM_cells : ∀ {cs : List PV}, okCells cs = true → plL cs = true → ∀ n, HM.mapM (freezeC (n + 1)) cs = .ret cs
 | [], _, _, n => rfl
 | c :: cs, h, hp, n => by
  simp only [okCells, plL, Bool.and_eq_true] at h hp
  rw [HM.mapM, freezeC_cell hp.1 h.1]
  show (HM.mapM (freezeC (n + 1)) cs).bind _ = _
  rw [mapM_cells h.2 hp.2]; rfl
theorem freezeC_pl2 {v : PV} (h : pl v = true) (n : Nat) : freezeC (n + 2) v = .ret v := by
 cases v with
 | agg cs =>
  simp only [pl, Bool.and_eq_true] at h
  show (HM.mapM (freezeC (n + 1)) cs).bind _ = _
  rw [mapM_cells h.1 h.2]; rfl
 | fn f cs => simp only [pl, List.isEmpty_iff] at h; subst h; rfl
 | _ => first | rfl | (simp [pl] at h; done)
theorem mapM_pl2 : ∀ {l : List PV}, plL l = true → ∀ n, HM.mapM (freezeC (n + 2)) l = .ret l
 | [], _, n => rfl
 | c :: cs, h, n => by
  simp only [plL, Bool.and_eq_true] at h
  rw [HM.mapM, freezeC_pl2 h.1]
  show (HM.mapM (freezeC (n + 2)) cs).bind _ = _
  rw [mapM_pl2 h.2]; rfl

def Imd (m : Option PV) (x : PV) : Prop := ∃ v, m = some v ∧ pl v = true ∧ nrm v = x
theorem nrm_int {v : PV} {k : IntKind} {n : Int} (h : nrm v = .int k n) : v = .int k n := by cases v <;> simp_all [nrm]
theorem nrm_bool {v : PV} {b : Bool} (h : nrm v = .bool b) : v = .bool b := by cases v <;> simp_all [nrm]
theorem nrm_str {v : PV} {s : List UInt8} (h : nrm v = .str s) : v = .str s := by cases v <;> simp_all [nrm]
theorem nrm_nilp {v : PV} (h : nrm v = .nilp) : v = .nilp := by cases v <;> simp_all [nrm]
theorem nrm_nilfn {v : PV} (h : nrm v = .nilfn) : v = .nilfn := by cases v <;> simp_all [nrm]
theorem nrm_agg {v : PV} {cs : List PV} (h : nrm v = .agg cs) : ∃ l, v = .agg l ∧ cs = nrmL l := by cases v <;> simp_all [nrm]
theorem nrm_tup {v : PV} {cs : List PV} (h : nrm v = .tup cs) : ∃ l, v = .tup l ∧ cs = nrmL l := by cases v <;> simp_all [nrm]
theorem nrm_lptr {v : PV} {cs : List PV} (h : nrm v = .lptr cs) : ∃ l, v = .lptr l ∧ cs = nrmL l := by cases v <;> simp_all [nrm]
theorem nrm_fn {v : PV} {f : Nat} {cs : List PV} (h : nrm v = .fn f cs) : ∃ l, v = .fn f l ∧ cs = nrmL l := by cases v <;> simp_all [nrm]
theorem nrm_lst {v : PV} {es : List PV} {c : Bool} (h : nrm v = .lst es c) : c = false ∧ ((v = .nils ∧ es = []) ∨ ∃ l c0, v = .lst l c0 ∧ es = nrmL l) := by cases v <;> simp_all [nrm]
theorem binI_scal {op : BinOp} {k k' : IntKind} {a b : Int} {x : PV} (h : binI op k a k' b = some x) : pl x = true ∧ nrm x = x := by
 unfold binI at h
 split at h
 ·split at h
  ·cases h
  ·cases h; exact ⟨rfl, rfl⟩
 ·split at h
  ·cases h
  ·cases h; exact ⟨rfl, rfl⟩
 ·split at h
  ·cases h
  ·split at h <;> first | (split at h <;> first | (cases h; exact ⟨rfl, rfl⟩) | (cases h; done)) | (cases h; exact ⟨rfl, rfl⟩) | (cases h; done)
theorem bin_im {op : BinOp} {v w x : PV} (h : bin op (nrm v) (nrm w) = some x) : Imd (bin op v w) x := by
 cases hv : nrm v <;> rw [hv] at h <;> try (simp [bin] at h; done)
 ·cases hw : nrm w <;> rw [hw] at h <;> try (simp [bin] at h; done)
  rw [nrm_int hv, nrm_int hw]
  have := binI_scal (by simpa [bin] using h)
  exact ⟨x, h, this.1, this.2⟩
 ·cases hw : nrm w <;> rw [hw] at h <;> try (simp [bin] at h; done)
  rw [nrm_str hv, nrm_str hw]
  refine ⟨x, h, ?_⟩
  simp only [bin] at h
  split at h <;> first | (cases h; exact ⟨rfl, rfl⟩) | (split at h <;> first | (cases h; exact ⟨rfl, rfl⟩) | (cases h; done)) | (cases h; done)
theorem un_im {op : UnOp} {v x : PV} (h : un op (nrm v) = some x) : Imd (un op v) x := by
 unfold un at h
 split at h
 ·rename_i k n he; rw [nrm_int he]; cases h; exact ⟨_, rfl, rfl, rfl⟩
 ·rename_i k n he; rw [nrm_int he]; have := binI_scal h; exact ⟨x, h, this.1, this.2⟩
 ·rename_i b he; rw [nrm_bool he]; cases h; exact ⟨_, rfl, rfl, rfl⟩
 ·cases h
theorem toInt_im {k : IntKind} {v x : PV} (h : toIntV k (nrm v) = some x) : toIntPV k v = .ret x ∧ pl x = true ∧ nrm x = x := by
 cases hv : nrm v <;> rw [hv] at h <;> try (simp [toIntV] at h; done)
 rw [nrm_int hv]; simp only [toIntV, Option.some.injEq] at h; subst h; exact ⟨rfl, rfl, rfl⟩
theorem eqCells_im : ∀ {ks : List Bool} {xs ys : List PV} {b : Bool}, eqCells ks (nrmL xs) (nrmL ys) = some b → eqCells ks xs ys = some b
 | [], [], [], b, h => h
 | [], x :: xs, ys, b, h => by simp [nrmL, eqCells] at h
 | [], [], y :: ys, b, h => by simp [nrmL, eqCells] at h
 | k :: ks, [], ys, b, h => by cases k <;> simp [nrmL, eqCells] at h
 | k :: ks, x :: xs, [], b, h => by cases k <;> simp [nrmL, eqCells] at h
 | false :: ks, x :: xs, y :: ys, b, h => by
  simp only [nrmL] at h
  cases hx : nrm x <;> rw [hx] at h <;> try (simp [eqCells] at h; done)
  cases hy : nrm y <;> rw [hy] at h <;> try (simp [eqCells] at h; done)
  rw [nrm_int hx, nrm_int hy]
  simp only [eqCells] at h ⊢
  split at h
  ·cases h
  ·rename_i hk
   rw [if_neg hk]
   cases he : eqCells ks (nrmL xs) (nrmL ys) with
   | none => rw [he] at h; cases h
   | some r => rw [he] at h; rw [eqCells_im he]; exact h
 | true :: ks, x :: xs, y :: ys, b, h => by
  simp only [nrmL] at h
  cases hx : nrm x <;> rw [hx] at h <;> try (simp [eqCells] at h; done)
  cases hy : nrm y <;> rw [hy] at h <;> try (simp [eqCells] at h; done)
  rw [nrm_bool hx, nrm_bool hy]
  simp only [eqCells] at h ⊢
  cases he : eqCells ks (nrmL xs) (nrmL ys) with
  | none => rw [he] at h; cases h
  | some r => rw [he] at h; rw [eqCells_im he]; exact h
theorem eqs_im {neg : Bool} {ks : List Bool} {v w x : PV} (h : eqsV neg ks (nrm v) (nrm w) = some x) : eqsPV neg ks v w = .ret x ∧ pl x = true ∧ nrm x = x := by
 cases hv : nrm v <;> rw [hv] at h <;> try (simp [eqsV] at h; done)
 cases hw : nrm w <;> rw [hw] at h <;> try (simp [eqsV] at h; done)
 obtain ⟨l, rfl, rfl⟩ := nrm_agg hv
 obtain ⟨m, rfl, rfl⟩ := nrm_agg hw
 simp only [eqsV] at h
 split at h
 ·rename_i b hb
  cases h
  refine ⟨?_, rfl, rfl⟩
  simp only [eqsPV, eqCells_im hb]
 ·cases h
theorem eqb_im {neg : Bool} {v w x : PV} (h : eqb neg (nrm v) (nrm w) = some x) : Imd (eqb neg v w) x := by
 cases hv : nrm v <;> rw [hv] at h <;> try (simp [eqb] at h; done)
 cases hw : nrm w <;> rw [hw] at h <;> try (simp [eqb] at h; done)
 rw [nrm_bool hv, nrm_bool hw]
 refine ⟨x, h, ?_⟩
 simp only [eqb, Option.some.injEq] at h; subst h; exact ⟨rfl, rfl⟩
theorem nilP_im {v : PV} (hp : pl v = true) : nilP (nrm v) = nilP v := by cases v <;> simp_all [nrm, nilP]
theorem nilF_im {v : PV} (hp : pl v = true) : nilF (nrm v) = nilF v := by cases v <;> simp_all [nrm, nilF]
theorem eqn_im {k : Nat} {neg : Bool} {v w x : PV} (hp : pl v = true) (hq : pl w = true) (hk : k ≠ 0) (h : eqn k neg (nrm v) (nrm w) = some x) : Imd (eqn k neg v w) x := by
 have hb : pl x = true ∧ nrm x = x := by
  unfold eqn at h
  split at h
  all_goals (split at h <;> first | (simp only [Option.map_eq_some_iff] at h; obtain ⟨b, _, rfl⟩ := h; exact ⟨rfl, rfl⟩) | (cases h; done))
 refine ⟨x, ?_, hb⟩
 match k, hk with
 | 1, _ =>
  simp only [eqn] at h ⊢
  split at h
  ·rename_i y he
   rw [nrm_nilp he]
   simp only
   rw [← nilP_im hq]; exact h
  ·rename_i y h0 he hn
   rw [nrm_nilp he]
   have : v ≠ .nilp := by rintro rfl; exact hn rfl
   rw [nilP_im hp] at h
   cases v <;> simp_all
  ·cases h
 | k + 2, _ =>
  simp only [eqn] at h ⊢
  split at h
  ·rename_i y he
   rw [nrm_nilfn he]
   simp only
   rw [← nilF_im hq]; exact h
  ·rename_i y h0 he hn
   rw [nrm_nilfn he]
   have : v ≠ .nilfn := by rintro rfl; exact hn rfl
   rw [nilF_im hp] at h
   cases v <;> simp_all
  ·cases h
theorem len_im {v x : PV} (h : lenV (nrm v) = some x) : Imd (lenPV v) x := by
 cases hv : nrm v <;> rw [hv] at h <;> try (simp [lenV] at h; done)
 simp only [lenV, Option.some.injEq] at h
 subst h
 obtain ⟨_, ⟨rfl, rfl⟩ | ⟨l, c0, rfl, rfl⟩⟩ := nrm_lst hv
 ·exact ⟨_, rfl, rfl, rfl⟩
 ·refine ⟨_, rfl, rfl, ?_⟩
  rw [nrmL_length]; rfl
theorem lenS_im {v x : PV} (h : lenSPV (nrm v) = some x) : Imd (lenSPV v) x := by
 cases hv : nrm v <;> rw [hv] at h <;> try (simp [lenSPV] at h; done)
 rw [nrm_str hv]
 refine ⟨x, h, ?_⟩
 simp only [lenSPV, Option.some.injEq] at h; subst h; exact ⟨rfl, rfl⟩
theorem loadC_im {cs : List PV} (hp : plL cs = true) (ho : okCells cs = true) {o : Nat} {sz : Option Nat} {x : PV} (h : loadC (nrmL cs) o sz = some x) : Imd (loadC cs o sz) x := by
 cases sz with
 | none =>
  simp only [loadC, nrmL_get, Option.map_eq_some_iff] at h ⊢
  obtain ⟨v, hv, rfl⟩ := h
  exact ⟨v, hv, plL_get hp hv, rfl⟩
 | some n =>
  simp only [loadC, nrmL_length] at h
  split at h
  ·rename_i hn
   cases h
   refine ⟨.agg ((cs.drop o).take n), by simp only [loadC, if_pos hn], ?_, ?_⟩
   ·simp only [pl, okCells_take (okCells_drop ho o) n, plL_take (plL_drop hp o) n, Bool.and_self]
   ·simp only [nrm, nrmL_take, nrmL_drop]
  ·cases h
theorem loadV_some {cs : List PV} {o : Nat} {sz : Option Nat} {x : PV} (h : loadV cs o sz = some x) : loadC cs o sz = some x ∧ x.fits sz = true := by
 unfold loadV at h
 split at h
 ·rename_i y hy
  split at h
  ·rename_i hf; cases h; exact ⟨hy, hf⟩
  ·cases h
 ·cases h
theorem fld_im {v x : PV} (hp : pl v = true) {o : Nat} {sz : Option Nat} (h : fldV sz o (nrm v) = some x) : ∃ w, fieldPV sz v o = .ret w ∧ pl w = true ∧ nrm w = x := by
 cases hv : nrm v <;> rw [hv] at h <;> try (simp [fldV] at h; done)
 obtain ⟨l, rfl, rfl⟩ := nrm_agg hv
 simp only [pl, Bool.and_eq_true] at hp
 obtain ⟨w, h1, h2, h3⟩ := loadC_im hp.2 hp.1 (loadV_some (by simpa [fldV] using h)).1
 exact ⟨w, by simp only [fieldPV, h1]; rfl, h2, h3⟩
theorem ld_im {v x : PV} (hp : pl v = true) {o : Nat} {sz : Option Nat} (h : ldV sz o (nrm v) = some x) : ∃ l w, v = .lptr l ∧ loadC l o sz = some w ∧ pl w = true ∧ nrm w = x := by
 cases hv : nrm v <;> rw [hv] at h <;> try (simp [ldV] at h; done)
 obtain ⟨l, rfl, rfl⟩ := nrm_lptr hv
 simp only [pl, Bool.and_eq_true] at hp
 obtain ⟨w, h1, h2, h3⟩ := loadC_im hp.2 hp.1 (loadV_some (by simpa [ldV] using h)).1
 exact ⟨l, w, rfl, h1, h2, h3⟩
theorem cells_ok {v : PV} (hp : pl v = true) : okCells v.cells = true := by
 cases v <;> simp_all [pl, PV.cells, okCells, PV.isCell]
theorem ia_im {sz : Nat} {v i x : PV} (hp : pl v = true) (h : indexAddrPV sz (nrm v) (nrm i) = some x) : Imd (indexAddrPV sz v i) x := by
 cases hi : nrm i <;> rw [hi] at h <;> try (simp [indexAddrPV] at h; done)
 rename_i k n
 rw [nrm_int hi]
 cases hv : nrm v <;> rw [hv] at h <;> try (simp [indexAddrPV] at h; done)
 ·obtain ⟨_, ⟨rfl, rfl⟩ | ⟨l, c0, rfl, rfl⟩⟩ := nrm_lst hv
  ·simp only [indexAddrPV, List.length_nil] at h
   split at h
   ·omega
   ·cases h
  ·simp only [indexAddrPV, nrmL_length] at h ⊢
   split at h
   ·rename_i hb
    rw [if_pos hb]
    rw [nrmL_get] at h
    cases he : l[n.toNat]? with
    | none => rw [he] at h; cases h
    | some e =>
     rw [he] at h
     simp only [Option.map_some] at h
     rw [nrm_cells_len] at h
     split at h
     ·rename_i hz
      cases h
      simp only [if_pos hz]
      have hpe := plL_get (by simpa [pl] using hp) he
      refine ⟨_, rfl, ?_, by simp only [nrm, nrm_cells]⟩
      simp only [pl, pl_cells hpe, cells_ok hpe, Bool.and_self]
     ·cases h
   ·cases h
 ·rename_i r ver sz' off len room c0
  cases v <;> simp_all [nrm, pl]
theorem fa_im {v x : PV} (hp : pl v = true) {o : Nat} (h : fieldAddrPV (nrm v) o = some x) : Imd (fieldAddrPV v o) x := by
 cases hv : nrm v <;> rw [hv] at h <;> try (simp [fieldAddrPV] at h; done)
 ·cases v <;> simp_all [nrm, pl]
 ·obtain ⟨l, rfl, rfl⟩ := nrm_lptr hv
  simp only [pl, Bool.and_eq_true] at hp
  simp only [fieldAddrPV, Option.some.injEq] at h
  subst h
  exact ⟨_, rfl, by simp only [pl, okCells_drop hp.1, plL_drop hp.2, Bool.and_self], by simp only [nrm, nrmL_drop]⟩
theorem iaa_im {n sz : Nat} {v i x : PV} (hp : pl v = true) (h : idxArrPV n sz (nrm v) (nrm i) = some x) : Imd (idxArrPV n sz v i) x := by
 cases hi : nrm i <;> rw [hi] at h <;> try (simp [idxArrPV] at h; done)
 rw [nrm_int hi]
 simp only [idxArrPV] at h ⊢
 split at h
 ·rename_i hb; rw [if_pos hb]; exact fa_im hp h
 ·cases h
theorem lstSz_im (es : List PV) (sz : Nat) : lstSz (nrmL es) sz = lstSz es sz := by
 cases es with
 | nil => rfl
 | cons e es => simp only [nrmL, lstSz, nrm_cells_len]
theorem optV_im {v : PV} {o : Option PV} (h : optV v = some o) : (v = .tup [] ∧ o = none) ∨ ∃ k n, v = .int k n ∧ o = some v := by
 unfold optV at h
 split at h <;> simp_all
theorem slice_im {sz : Nat} {v lo hi mx x : PV} {l h m : Option PV} (hp : pl v = true) (hl : optV lo = some l) (hh : optV hi = some h) (hm : optV mx = some m) (hv : sliceV sz (nrm v) lo hi mx = some x) : Imd (slice2PV sz v l h m) x := by
 unfold sliceV at hv
 rw [hl, hh, hm] at hv
 simp only at hv
 split at hv
 ·rename_i es c he
  split at hv
  ·cases hv
  ·rename_i hc
   simp only [not_or, Bool.not_eq_true] at hc
   obtain ⟨_, ⟨rfl, rfl⟩ | ⟨es', c0, rfl, rfl⟩⟩ := nrm_lst he
   ·simp only [sliceLst, Option.map_eq_some_iff] at hv
    obtain ⟨y, hy, rfl⟩ := hv
    have hb : optNat ([] : List PV).length h = optNat 0 h ∧ optNat ([] : List PV).length m = optNat 0 m := ⟨rfl, rfl⟩
    rw [hb.1, hb.2] at hy
    simp only [slice2PV, PV.isStr, slicePV, sliceNils, hc.2]
    have hz : (sz == 0) = false := by simpa using hc.1
    cases h1 : optNat 0 l <;> rw [h1] at hy <;> try (cases hy; done)
    cases h2 : optNat 0 h <;> rw [h2] at hy <;> try (cases hy; done)
    cases h3 : optNat 0 m <;> rw [h3] at hy <;> try (cases hy; done)
    simp only at hy
    split at hy
    ·rename_i hb
     cases hy
     simp only [List.length_nil] at hb
     have : ‹Nat› = 0 ∧ ‹Nat› = 0 := ⟨by omega, by omega⟩
     refine ⟨.nils, ?_, rfl, ?_⟩
     ·rw [hz]; simp
      omega
     ·simp [nrm, nrmL]
    ·cases hy
   ·simp only [sliceLst, nrmL_length, lstSz_im, Option.map_eq_some_iff] at hv
    obtain ⟨y, hy, rfl⟩ := hv
    have hz : (sz == 0) = false := by simpa using hc.1
    simp only [slice2PV, PV.isStr, slicePV, hc.2, hz, if_true]
    simp only [sliceLst]
    cases h1 : optNat 0 l <;> rw [h1] at hy <;> try (cases hy; done)
    cases h2 : optNat es'.length h <;> rw [h2] at hy <;> try (cases hy; done)
    cases h3 : optNat es'.length m <;> rw [h3] at hy <;> try (cases hy; done)
    simp only at hy ⊢
    split at hy
    ·rename_i hb
     cases hy
     rw [if_pos hb]
     refine ⟨_, rfl, ?_, ?_⟩
     ·simp only [pl] at hp ⊢
      exact plL_take (plL_drop hp _) _
     ·simp only [nrm, nrmL_take, nrmL_drop, nrmL_nrmL]
    ·cases hy
 ·rename_i s he
  rw [nrm_str he]
  split at hv
  ·rename_i hz
   subst hz
   split at hv
   ·cases hv
   ·rename_i hmx
    simp only [Bool.not_eq_true] at hmx
    refine ⟨x, ?_, ?_⟩
    ·simp only [slice2PV, PV.isStr, beq_self_eq_true, if_true, slicePV, hmx, Bool.false_and, Bool.false_eq_true, if_false]
     exact hv
    ·unfold sliceStr at hv
     split at hv
     ·split at hv
      ·cases hv; exact ⟨rfl, rfl⟩
      ·cases hv
     ·cases hv
  ·cases hv
 ·cases hv
theorem bytesOf_im : ∀ {es : List PV} {l : List UInt8}, bytesOf (nrmL es) = some l → bytesOf es = some l
 | [], l, h => h
 | e :: es, l, h => by
  simp only [nrmL] at h
  cases he : nrm e with
  | int k n =>
   rw [he] at h
   rw [nrm_int he]
   cases k <;> try (simp [bytesOf] at h; done)
   simp only [bytesOf] at h ⊢
   cases hb : bytesOf (nrmL es) with
   | none => rw [hb] at h; cases h
   | some r => rw [hb] at h; rw [bytesOf_im hb]; exact h
  | _ => rw [he] at h; simp [bytesOf] at h
theorem b2s_im {v x : PV} (h : b2sV (nrm v) = some x) : b2sHM v = .ret x ∧ pl x = true ∧ nrm x = x := by
 cases hv : nrm v <;> rw [hv] at h <;> try (simp [b2sV] at h; done)
 simp only [b2sV, Option.map_eq_some_iff] at h
 obtain ⟨l, hl, rfl⟩ := h
 obtain ⟨_, ⟨rfl, rfl⟩ | ⟨es, c0, rfl, rfl⟩⟩ := nrm_lst hv
 ·simp only [bytesOf, Option.some.injEq] at hl; subst hl; exact ⟨rfl, rfl, rfl⟩
 ·refine ⟨?_, rfl, rfl⟩
  simp only [b2sHM, PV.isStr, Bool.false_eq_true, if_false, elems, HM.bind, bytesOf_im hl]
theorem mm2_im {b : Bool} {v w x : PV} (h : mm2 b v (nrm w) = some x) : mm2 b v w = some x := by
 cases hw : nrm w <;> rw [hw] at h <;> try (cases v <;> simp [mm2] at h; done)
 rw [nrm_int hw]; exact h
theorem mmPV_im {b : Bool} : ∀ {vs : List PV} {v x : PV}, mmPV b v (nrmL vs) = some x → mmPV b v vs = some x
 | [], v, x, h => h
 | w :: vs, v, x, h => by
  simp only [nrmL, mmPV] at h ⊢
  cases h1 : mm2 b v (nrm w) with
  | none => rw [h1] at h; cases h
  | some z => rw [h1] at h; rw [mm2_im h1]; exact mmPV_im h
theorem mmPV_scal {b : Bool} : ∀ {vs : List PV} {v x : PV}, mmPV b v vs = some x → v = x ∨ ∃ k n, x = .int k n
 | [], v, x, h => by simp only [mmPV, Option.some.injEq] at h; exact .inl h
 | w :: vs, v, x, h => by
  simp only [mmPV] at h
  cases h1 : mm2 b v w with
  | none => rw [h1] at h; cases h
  | some z =>
   rw [h1] at h
   unfold mm2 at h1
   split at h1
   ·cases h1
    rcases mmPV_scal h with h2 | h2
    ·exact .inr ⟨_, _, h2.symm⟩
    ·exact .inr h2
   ·cases h1
theorem mm_im {b : Bool} {vs : List PV} {x : PV} (hp : plL vs = true) (h : mmV b (nrmL vs) = some x) : mmHM b vs = .ret x ∧ pl x = true ∧ nrm x = x ∨ (∃ v, vs = [v] ∧ x = nrm v ∧ mmHM b vs = .ret v) := by
 cases vs with
 | nil => simp [nrmL, mmV] at h
 | cons v vs =>
  cases vs with
  | nil =>
   right
   simp only [nrmL, mmV, mmPV, Option.some.injEq] at h
   exact ⟨v, rfl, h.symm, rfl⟩
  | cons w ws =>
   left
   simp only [nrmL, mmV, mmPV] at h
   cases h1 : mm2 b (nrm v) (nrm w) with
   | none => rw [h1] at h; cases h
   | some z =>
    rw [h1] at h
    have hz : ∃ k n, z = .int k n := by
     unfold mm2 at h1
     split at h1
     ·cases h1; exact ⟨_, _, rfl⟩
     ·cases h1
    have hv : mm2 b v w = some z := by
     have := mm2_im h1
     cases hq : nrm v <;> rw [hq] at this <;> try (simp [mm2] at this; done)
     rw [nrm_int hq]; exact this
    have hm : mmPV b z ws = some x := mmPV_im h
    obtain ⟨k, n, rfl⟩ := hz
    have hx : pl x = true ∧ nrm x = x := by
     rcases mmPV_scal hm with h2 | ⟨k, n, h2⟩
     ·subst h2; exact ⟨rfl, rfl⟩
     ·subst h2; exact ⟨rfl, rfl⟩
    refine ⟨?_, hx⟩
    simp only [mmHM, mmPV, hv, hm]; rfl
theorem nck_im {v x : PV} (hp : pl v = true) (h : nckV (nrm v) = some x) : nilchkPV v = .ret v ∧ nrm v = x := by
 cases hv : nrm v <;> rw [hv] at h <;> try (simp [nckV] at h; done)
 ·obtain ⟨l, rfl, rfl⟩ := nrm_lptr hv
  simp only [nckV, Option.some.injEq] at h; exact ⟨rfl, h⟩
 ·obtain ⟨l, rfl, rfl⟩ := nrm_fn hv
  simp only [nckV, Option.some.injEq] at h; exact ⟨rfl, h⟩
theorem chk_im {v x : PV} {sz : Option Nat} (h : chkV sz (nrm v) = some x) : v.fits sz = true ∧ okCells v.cells = true ∧ x = nrm v := by
 unfold chkV at h
 split at h
 ·rename_i hc
  rw [nrm_fits, nrm_cells, nrm_okCells] at hc
  cases h
  exact ⟨hc.1, hc.2, rfl⟩
 ·cases h
theorem s2b_im {v x : PV} (h : s2bV (nrm v) = some x) : ∃ l, v = .str l ∧ l.length < maxNew ∧ x = .lst (l.map fun b => PV.int .u8 b.toNat) false := by
 cases hv : nrm v <;> rw [hv] at h <;> try (simp [s2bV] at h; done)
 rename_i l
 simp only [s2bV] at h
 split at h
 ·rename_i hl
  cases h
  exact ⟨l, nrm_str hv, hl, rfl⟩
 ·cases h
end Gv

namespace Gv
open Go (IntKind BinOp UnOp)

theorem obind_eq {α β : Type} {x : Option α} {f : α → Option β} {b : β} : obind x f = some b ↔ ∃ a, x = some a ∧ f a = some b := by
 cases x <;> simp

inductive AV where
 | D
 | F (e : X)
 | N (e : X)
 | O (fs : List Nat) (w : Nat) (wr : Bool) (sz : Nat) (e : X)
 | Q (fs : List Nat) (e : X)
 | P (b o : Nat)
 | EP (fs : List Nat) (w : Nat) (wr : Bool) (sz : Nat) (e i : X) (o : Nat)
 | A (cs : List AV)
 | L (fs : List Nat) (sz : Nat) (cs : List AV)
 | C (f : Nat) (cs : List AV)
 | T (cs : List AV)
 | G (g : X) (p : Bool) (a : AV)
 deriving Inhabited

structure Cx where
 nm : Ref → Nat
 nu : Nat → PV
 be : Nat → Ref × Nat

def isNil (v : PV) : Prop := v = .nils ∨ v = .lst [] true
def TokAt (Pr : Ref → Prop) (h : Heap) (sz : Nat) (r : Ref) (ver off len room : Nat) (c0 : Bool) (b : Blk) (v x : PV) : Prop :=
 v = .tok r ver sz off len room c0 ∧ Pr r ∧ h.get r = some ⟨ver, some b⟩ ∧ b.sz = sz ∧ off + len ≤ b.es.length ∧ len ≤ room ∧ plL b.es = true ∧ (∀ e ∈ b.es, e.cells.length = sz) ∧
  x = .lst (nrmL ((b.es.drop off).take len)) false
def TokOk (Pr : Ref → Prop) (h : Heap) (sz : Nat) (v x : PV) : Prop :=
 (isNil v ∧ x = .lst [] false) ∨ ∃ r ver off len room c0 b, TokAt Pr h sz r ver off len room c0 b v x
def WrOk (h : Heap) (v : PV) : Prop :=
 isNil v ∨ ∃ r ver sz off len room b, v = .tok r ver sz off len room false ∧ h.get r = some ⟨ver, some b⟩ ∧ b.ro = false ∧ off + room ≤ b.es.length
def isLptr : PV → Bool
 | .lptr _ => true
 | _ => false
def QL (Pr : Ref → Prop) (h : Heap) : List PV → List PV → Prop
 | [], [] => True
 | v :: vs, x :: xs => ((pl v = true ∧ isLptr v = false ∧ x = nrm v) ∨ ∃ r ver n e ro, v = .ptr r ver 0 0 ∧ Pr r ∧ h.get r = some ⟨ver, some ⟨n, [e], ro⟩⟩ ∧ okCells e.cells = true ∧ plL e.cells = true ∧ x = .lptr (nrmL e.cells)) ∧ QL Pr h vs xs
 | _, _ => False
def qrefs : List PV → List Ref
 | [] => []
 | .ptr r _ _ _ :: vs => r :: qrefs vs
 | _ :: vs => qrefs vs
def EpAt (c : Cx) (h : Heap) (env : Env) (fs : List Nat) (w : Nat) (wr : Bool) (sz : Nat) (e i : X) (o : Nat) (v : PV) : Prop :=
 ∃ r ver off len room c0 b x k n, TokAt (fun r => c.nm r ∈ fs) h sz r ver off len room c0 b (c.nu w) x ∧ e.ev env = some x ∧ (wr = true → WrOk h (c.nu w)) ∧
  i.ev env = some (.int k n) ∧ 0 ≤ n ∧ n < len ∧ v = .ptr r ver (off + n.toNat) o
mutual
def Rel (c : Cx) (h : Heap) (env : Env) : AV → PV → Prop
 | .D, _ => True
 | .F e, v => pl v = true ∧ e.ev env = some (nrm v)
 | .N e, v => isNil v ∧ e.ev env = some (.lst [] false)
 | .O fs w wr sz e, v => v = c.nu w ∧ ∃ x, TokOk (fun r => c.nm r ∈ fs) h sz v x ∧ e.ev env = some x ∧ (wr = true → WrOk h v)
 | .Q fs e, v => ∃ f vs xs, v = .fn f vs ∧ QL (fun r => c.nm r ∈ fs) h vs xs ∧ e.ev env = some (.fn f xs) ∧ vs.length ≤ 9 ∧ (qrefs vs).Nodup
 | .P b o, v => v = .ptr (c.be b).1 (c.be b).2 0 o
 | .EP fs w wr sz e i o, v => EpAt c h env fs w wr sz e i o v
 | .A cs, v => ∃ vs, v = .agg vs ∧ okCells vs = true ∧ RelL c h env cs vs
 | .L fs sz cs, v => ∃ r ver vs, v = .tok r ver sz 0 vs.length vs.length false ∧ c.nm r ∈ fs ∧ h.get r = some ⟨ver, some ⟨sz, vs, false⟩⟩ ∧ sized sz vs = true ∧ RelL c h env cs vs
 | .C f cs, v => ∃ vs, v = .fn f vs ∧ RelL c h env cs vs
 | .T cs, v => ∃ vs, v = .tup vs ∧ RelL c h env cs vs
 | .G g p a, v => (g.ev env = some (.bool p) ∧ Rel c h env a v) ∨ ((g.ev env = some (.bool !p) ∨ g.ev env = some (.tup [])) ∧ v = .tup [])
def RelL (c : Cx) (h : Heap) (env : Env) : List AV → List PV → Prop
 | [], [] => True
 | a :: as, v :: vs => Rel c h env a v ∧ RelL c h env as vs
 | _, _ => False
end
structure BX where
 id : Nat
 ro : Bool
 fs : List Nat
 cs : List AV
structure Abs where
 t : List (Nat × AV)
 b : List BX
structure Inv where
 nt : Nat
 ns : Nat
 m : Nat
 st : Nat → Nat
 al : Nat → Nat
 kp : List Nat
 h0 : Heap
 fl : Nat → Bool
def SameRo (x y : Option Ent) : Prop := x = y ∨ ∃ ver sz es, (∃ r, x = some ⟨ver, some ⟨sz, es, r⟩⟩) ∧ ∃ r, y = some ⟨ver, some ⟨sz, es, r⟩⟩
def BoxOk (c : Cx) (h : Heap) (env : Env) (x : BX) : Prop :=
 ∃ n e ro, c.nm (c.be x.id).1 ∈ x.fs ∧ h.get (c.be x.id).1 = some ⟨(c.be x.id).2, some ⟨n, [e], ro⟩⟩ ∧ (x.ro = false → ro = false) ∧ okCells e.cells = true ∧ RelL c h env x.cs e.cells
structure Nm (I : Inv) (c : Cx) : Prop where
 l : ∀ s, ∃ j, c.nm (.l s) = 2 * j ∧ I.st j = I.st s
 a : ∀ i, c.nm (.a i) = 2 * I.al i + 1
structure Sim (I : Inv) (c : Cx) (a : Abs) (env : Env) (σ : St) : Prop where
 fr : σ.fr.length = I.nt
 tm : ∀ p ∈ a.t, Rel c σ.h env p.2 (nth σ.fr p.1)
 bx : ∀ x ∈ a.b, BoxOk c σ.h env x
 nm : Nm I c
 hl : σ.h.L.length = I.ns
 ha : σ.h.A.length = I.m
 kp : ∀ r, c.nm r ∈ I.kp → SameRo (σ.h.get r) (I.h0.get r)
 fl : ∀ i ver b, I.fl (I.al i) = true → σ.h.get (.a i) = some ⟨ver, some b⟩ → plL b.es = true

mutual
def AV.ok (nf idf vf : Nat → Bool) : AV → Bool
 | .D => true
 | .F e | .N e => !e.ment vf
 | .O fs w _ _ e => fs.all (fun n => !nf n) && !idf w && !e.ment vf
 | .Q fs e => fs.all (fun n => !nf n) && !e.ment vf
 | .P b _ => !idf b
 | .EP fs w _ _ e i _ => fs.all (fun n => !nf n) && !idf w && !e.ment vf && !i.ment vf
 | .A cs | .C _ cs | .T cs => AV.okL nf idf vf cs
 | .L fs _ cs => fs.all (fun n => !nf n) && AV.okL nf idf vf cs
 | .G g _ a => !g.ment vf && a.ok nf idf vf
def AV.okL (nf idf vf : Nat → Bool) : List AV → Bool
 | [] => true
 | a :: as => a.ok nf idf vf && AV.okL nf idf vf as
end
structure Frm (nf idf vf : Nat → Bool) (c c' : Cx) (h h' : Heap) (env env' : Env) : Prop where
 n : ∀ r, nf (c.nm r) = false → h'.get r = h.get r ∧ c'.nm r = c.nm r
 i : ∀ w, idf w = false → c'.nu w = c.nu w ∧ c'.be w = c.be w
 v : ∀ n, vf n = false → env' n = env n
section
variable {nf idf vf : Nat → Bool} {c c' : Cx} {h h' : Heap} {env env' : Env}
theorem not_nf {fs : List Nat} {n : Nat} (hf : fs.all (fun n => !nf n) = true) (hn : n ∈ fs) : nf n = false := by
 have := List.all_eq_true.1 hf n hn; simpa using this
theorem TokAt.frame (M : Frm nf idf vf c c' h h' env env') {fs : List Nat} (hf : fs.all (fun n => !nf n) = true) {sz : Nat} {r : Ref} {ver off len room : Nat} {c0 : Bool} {b : Blk} {v x : PV}
  (T : TokAt (fun r => c.nm r ∈ fs) h sz r ver off len room c0 b v x) : TokAt (fun r => c'.nm r ∈ fs) h' sz r ver off len room c0 b v x := by
 obtain ⟨h1, h2, h3, h4⟩ := T
 have := M.n r (not_nf hf h2)
 exact ⟨h1, by simp only [this.2]; exact h2, by rw [this.1]; exact h3, h4⟩
theorem TokOk.frame (M : Frm nf idf vf c c' h h' env env') {fs : List Nat} (hf : fs.all (fun n => !nf n) = true) {sz : Nat} {v x : PV} (T : TokOk (fun r => c.nm r ∈ fs) h sz v x) : TokOk (fun r => c'.nm r ∈ fs) h' sz v x := by
 rcases T with T | ⟨r, ver, off, len, room, c0, b, T⟩
 ·exact .inl T
 ·exact .inr ⟨r, ver, off, len, room, c0, b, T.frame M hf⟩
theorem WrOk.frame (M : Frm nf idf vf c c' h h' env env') {fs : List Nat} (hf : fs.all (fun n => !nf n) = true) {sz : Nat} {v x : PV} (T : TokOk (fun r => c.nm r ∈ fs) h sz v x) (W : WrOk h v) : WrOk h' v := by
 rcases W with W | ⟨r, ver, sz', off, len, room, b, rfl, h1, h2⟩
 ·exact .inl W
 ·rcases T with ⟨T, _⟩ | ⟨r', ver', off', len', room', c0', b', hv, T2, T⟩
  ·exact .inl T
  ·cases hv
   exact .inr ⟨r, ver, _, off, len, room, b, rfl, by rw [(M.n r (not_nf hf T2)).1]; exact h1, h2⟩
theorem QL.frame (M : Frm nf idf vf c c' h h' env env') {fs : List Nat} (hf : fs.all (fun n => !nf n) = true) : ∀ {vs xs : List PV}, QL (fun r => c.nm r ∈ fs) h vs xs → QL (fun r => c'.nm r ∈ fs) h' vs xs
 | [], [], _ => trivial
 | v :: vs, x :: xs, H => by
  obtain ⟨H1, H2⟩ := H
  refine ⟨?_, QL.frame M hf H2⟩
  rcases H1 with H1 | ⟨r, ver, n, e, ro, h1, h2, h3, h4⟩
  ·exact .inl H1
  ·have := M.n r (not_nf hf h2)
   exact .inr ⟨r, ver, n, e, ro, h1, by simp only [this.2]; exact h2, by rw [this.1]; exact h3, h4⟩
 | [], _ :: _, H => by cases H
 | _ :: _, [], H => by cases H
theorem ev_frame (M : Frm nf idf vf c c' h h' env env') {e : X} (hm : (!e.ment vf) = true) : e.ev env' = e.ev env := X.ev_ment M.v (by simpa using hm)
mutual
theorem Rel.frame (M : Frm nf idf vf c c' h h' env env') : ∀ {a : AV} {v : PV}, a.ok nf idf vf = true → Rel c h env a v → Rel c' h' env' a v
 | .D, v, _, _ => trivial
 | .F e, v, ho, R => by
  simp only [AV.ok] at ho
  simp only [Rel] at R ⊢
  rw [ev_frame M ho]; exact R
 | .N e, v, ho, R => by
  simp only [AV.ok] at ho
  simp only [Rel] at R ⊢
  rw [ev_frame M ho]; exact R
 | .O fs w wr sz e, v, ho, R => by
  simp only [AV.ok, Bool.and_eq_true, Bool.not_eq_true'] at ho
  simp only [Rel] at R ⊢
  obtain ⟨h1, x, h2, h3, h4⟩ := R
  exact ⟨by rw [(M.i w ho.1.2).1]; exact h1, x, h2.frame M ho.1.1, by rw [ev_frame M (by simpa using ho.2)]; exact h3, fun hw => (h4 hw).frame M ho.1.1 h2⟩
 | .Q fs e, v, ho, R => by
  simp only [AV.ok, Bool.and_eq_true, Bool.not_eq_true'] at ho
  simp only [Rel] at R ⊢
  obtain ⟨f, vs, xs, h1, h2, h3, h4⟩ := R
  exact ⟨f, vs, xs, h1, h2.frame M ho.1, by rw [ev_frame M (by simpa using ho.2)]; exact h3, h4⟩
 | .P b o, v, ho, R => by
  simp only [AV.ok, Bool.not_eq_true'] at ho
  simp only [Rel] at R ⊢
  rw [(M.i b ho).2]; exact R
 | .EP fs w wr sz e i o, v, ho, R => by
  simp only [AV.ok, Bool.and_eq_true, Bool.not_eq_true'] at ho
  simp only [Rel, EpAt] at R ⊢
  obtain ⟨r, ver, off, len, room, c0, b, x, k, n, h1, h2, h3, h4, h5⟩ := R
  refine ⟨r, ver, off, len, room, c0, b, x, k, n, ?_, by rw [ev_frame M (by simpa using ho.1.2)]; exact h2, fun hw => ?_, by rw [ev_frame M (by simpa using ho.2)]; exact h4, h5⟩
  ·rw [(M.i w ho.1.1.2).1]; exact h1.frame M ho.1.1.1
  ·rw [(M.i w ho.1.1.2).1]; exact (h3 hw).frame M ho.1.1.1 (.inr ⟨_, _, _, _, _, _, _, h1⟩)
 | .A cs, v, ho, R => by
  simp only [AV.ok] at ho
  simp only [Rel] at R ⊢
  obtain ⟨vs, h1, h2, h3⟩ := R
  exact ⟨vs, h1, h2, RelL.frame M ho h3⟩
 | .L fs sz cs, v, ho, R => by
  simp only [AV.ok, Bool.and_eq_true] at ho
  simp only [Rel] at R ⊢
  obtain ⟨r, ver, vs, h1, h2, h3, h4, h5⟩ := R
  have := M.n r (not_nf ho.1 h2)
  exact ⟨r, ver, vs, h1, by rw [this.2]; exact h2, by rw [this.1]; exact h3, h4, RelL.frame M ho.2 h5⟩
 | .C f cs, v, ho, R => by
  simp only [AV.ok] at ho
  simp only [Rel] at R ⊢
  obtain ⟨vs, h1, h3⟩ := R
  exact ⟨vs, h1, RelL.frame M ho h3⟩
 | .T cs, v, ho, R => by
  simp only [AV.ok] at ho
  simp only [Rel] at R ⊢
  obtain ⟨vs, h1, h3⟩ := R
  exact ⟨vs, h1, RelL.frame M ho h3⟩
 | .G g p a, v, ho, R => by
  simp only [AV.ok, Bool.and_eq_true] at ho
  simp only [Rel] at R ⊢
  rw [ev_frame M ho.1]
  rcases R with R | R
  ·exact .inl ⟨R.1, Rel.frame M ho.2 R.2⟩
  ·exact .inr R
theorem RelL.frame (M : Frm nf idf vf c c' h h' env env') : ∀ {as : List AV} {vs : List PV}, AV.okL nf idf vf as = true → RelL c h env as vs → RelL c' h' env' as vs
 | [], [], _, _ => trivial
 | a :: as, v :: vs, ho, R => by
  simp only [AV.okL, Bool.and_eq_true] at ho
  exact ⟨Rel.frame M ho.1 R.1, RelL.frame M ho.2 R.2⟩
 | [], _ :: _, _, R => by cases R
 | _ :: _, [], _, R => by cases R
end
def AV.keep (nf idf vf : Nat → Bool) (a : AV) : AV := if a.ok nf idf vf then a else .D
def Abs.keep (nf idf vf : Nat → Bool) (a : Abs) : Abs :=
 ⟨a.t.filter fun p => p.2.ok nf idf vf, (a.b.filter fun x => !idf x.id && x.fs.all fun n => !nf n).map fun x => ⟨x.id, x.ro, x.fs, x.cs.map (AV.keep nf idf vf)⟩⟩
theorem RelL.keep (M : Frm nf idf vf c c' h h' env env') : ∀ {as : List AV} {vs : List PV}, RelL c h env as vs → RelL c' h' env' (as.map (AV.keep nf idf vf)) vs
 | [], [], _ => trivial
 | a :: as, v :: vs, R => by
  refine ⟨?_, RelL.keep M R.2⟩
  simp only [AV.keep]
  split
  ·rename_i ho; exact Rel.frame M ho R.1
  ·trivial
 | [], _ :: _, R => by cases R
 | _ :: _, [], R => by cases R
theorem BoxOk.keep (M : Frm nf idf vf c c' h h' env env') {x : BX} (hx : (!idf x.id && x.fs.all fun n => !nf n) = true) (B : BoxOk c h env x) : BoxOk c' h' env' ⟨x.id, x.ro, x.fs, x.cs.map (AV.keep nf idf vf)⟩ := by
 simp only [Bool.and_eq_true, Bool.not_eq_true'] at hx
 obtain ⟨n, e, ro, h1, h2, h3, h4, h5⟩ := B
 have hb := (M.i x.id hx.1).2
 have hr := M.n (c.be x.id).1 (not_nf hx.2 h1)
 refine ⟨n, e, ro, ?_, ?_, h3, h4, h5.keep M⟩
 ·simp only [hb, hr.2]; exact h1
 ·simp only [hb, hr.1]; exact h2
theorem Sim.keep {I : Inv} {a : Abs} {fr : List PV} (M : Frm nf idf vf c c' h h' env env') (S : Sim I c a env ⟨fr, h⟩) (hn : Nm I c') (hL : h'.L.length = I.ns) (hA : h'.A.length = I.m)
  (hk : ∀ r, c'.nm r ∈ I.kp → SameRo (h'.get r) (I.h0.get r)) (hf : ∀ i ver b, I.fl (I.al i) = true → h'.get (.a i) = some ⟨ver, some b⟩ → plL b.es = true) : Sim I c' (a.keep nf idf vf) env' ⟨fr, h'⟩ where
 fr := S.fr
 tm p hp := by
  obtain ⟨h1, h2⟩ := List.mem_filter.1 hp
  exact Rel.frame M h2 (S.tm p h1)
 bx x hx := by
  obtain ⟨y, hy, rfl⟩ := List.mem_map.1 hx
  obtain ⟨h1, h2⟩ := List.mem_filter.1 hy
  exact (S.bx y h1).keep M h2
 nm := hn
 hl := hL
 ha := hA
 kp := hk
 fl := hf
end

def Abs.get (a : Abs) (t : Nat) : Option AV := match a.t.find? (fun p => p.1 == t) with | some p => (match p.2 with | .D => none | v => some v) | none => none
def Abs.set (a : Abs) (t : Nat) (v : AV) : Abs := ⟨(t, v) :: a.t.filter (fun p => p.1 != t), a.b⟩
def Abs.box (a : Abs) (b : Nat) : Option BX := a.b.find? fun x => x.id == b
theorem Abs.get_rel {I : Inv} {c : Cx} {a : Abs} {env : Env} {σ : St} (S : Sim I c a env σ) {t : Nat} {v : AV} (h : a.get t = some v) : Rel c σ.h env v (nth σ.fr t) := by
 unfold Abs.get at h
 split at h
 ·rename_i p hp
  have h1 := List.find?_some hp
  have h2 := S.tm p (List.mem_of_find?_eq_some hp)
  simp only [beq_iff_eq] at h1
  subst h1
  split at h
  ·cases h
  ·rename_i v' hd he
   cases h
   exact h2
 ·cases h
theorem Abs.box_ok {I : Inv} {c : Cx} {a : Abs} {env : Env} {σ : St} (S : Sim I c a env σ) {b : Nat} {x : BX} (h : a.box b = some x) : x.id = b ∧ BoxOk c σ.h env x := by
 have h1 := List.find?_some h
 exact ⟨by simpa using h1, S.bx x (List.mem_of_find?_eq_some h)⟩
theorem Sim.set {I : Inv} {c : Cx} {a : Abs} {env : Env} {fr : List PV} {h : Heap} (S : Sim I c a env ⟨fr, h⟩) {t : Nat} (ht : t < I.nt) {av : AV} {v : PV} (R : Rel c h env av v) : Sim I c (a.set t av) env ⟨upd fr t v, h⟩ where
 fr := by rw [upd_length]; exact S.fr
 tm p hp := by
  rcases List.mem_cons.1 hp with rfl | hp
  ·simp only
   rw [nth_upd]
   have : t < fr.length := by have := S.fr; simp only at this; omega
   simp [this, R]
  ·obtain ⟨h1, h2⟩ := List.mem_filter.1 hp
   have hne : p.1 ≠ t := by simpa using h2
   rw [nth_upd]
   simp only [show ¬ (p.1 = t) from hne, false_and, if_false]
   have := S.tm p h1
   first | exact this | (split <;> first | exact this | (exfalso; omega))
 bx := S.bx
 nm := S.nm
 hl := S.hl
 ha := S.ha
 kp := S.kp
 fl := S.fl
end Gv

namespace Gv
open Go (IntKind BinOp UnOp)

theorem HM.runT_bind {α β : Type} (m : HM α) (f : α → HM β) (h : Heap) :
  (m.bind f).runT h = match m.runT h with
   | some (a, h1, R, W) => (match (f a).runT h1 with | some (b, h2, R2, W2) => some (b, h2, R ++ R2, W ++ W2) | none => none)
   | none => none := by
 induction m generalizing h with
 | ret a =>
  simp only [HM.bind, HM.runT]
  cases (f a).runT h with
  | none => rfl
  | some p => rfl
 | fail => rfl
 | get r k ih =>
  simp only [HM.bind, HM.runT]
  cases hg : h.get r with
  | none => rfl
  | some e =>
   simp only [ih]
   cases (k e).runT h with
   | none => rfl
   | some p =>
    obtain ⟨a, h1, R, W⟩ := p
    simp only
    cases (f a).runT h1 with
    | none => rfl
    | some q => rfl
 | set r e k ih =>
  simp only [HM.bind, HM.runT]
  cases hg : h.get r with
  | none => rfl
  | some e0 =>
   simp only [ih]
   cases k.runT (h.put r e) with
   | none => rfl
   | some p =>
    obtain ⟨a, h1, R, W⟩ := p
    simp only
    cases (f a).runT h1 with
    | none => rfl
    | some q => rfl
theorem HM.runT_bind_of {α β : Type} {m : HM α} {f : α → HM β} {h h1 h2 : Heap} {a : α} {b : β} {R W R2 W2 : List Ref} (x : m.runT h = some (a, h1, R, W)) (y : (f a).runT h1 = some (b, h2, R2, W2)) :
  (m.bind f).runT h = some (b, h2, R ++ R2, W ++ W2) := by
 rw [HM.runT_bind, x]; simp only; rw [y]
theorem liveBlk_runT {r : Ref} {ver : Nat} {b : Blk} {h : Heap} (hg : h.get r = some ⟨ver, some b⟩) : (liveBlk r ver).runT h = some (b, h, [r], []) := by
 simp [liveBlk, HM.runT, hg, HM.ofO]

mutual
def ofPV : PV → Option X
 | .int k n => some (.int k n)
 | .bool b => some (.boo b)
 | .str s => some (.str s)
 | .nilp => some .nilp
 | .nilfn => some .nilfn
 | .nils => some (.lst .nl)
 | .lst es _ => (ofPVL es).map X.lst
 | .agg cs => if okCells cs then (ofPVL cs).map X.agg else none
 | .fn f [] => some (.fn f .nl)
 | _ => none
def ofPVL : List PV → Option X
 | [] => some .nl
 | v :: vs => obind (ofPV v) fun x => obind (ofPVL vs) fun l => some (.cn x l)
end
mutual
theorem ofPV_ok (env : Env) : ∀ {v : PV} {e : X}, ofPV v = some e → pl v = true ∧ e.ev env = some (nrm v)
 | .int k n, e, h => by cases h; exact ⟨rfl, rfl⟩
 | .bool _, e, h => by cases h; exact ⟨rfl, rfl⟩
 | .str _, e, h => by cases h; exact ⟨rfl, rfl⟩
 | .nilp, e, h => by cases h; exact ⟨rfl, rfl⟩
 | .nilfn, e, h => by cases h; exact ⟨rfl, rfl⟩
 | .nils, e, h => by cases h; exact ⟨rfl, rfl⟩
 | .lst es c, e, h => by
  simp only [ofPV, Option.map_eq_some_iff] at h
  obtain ⟨l, hl, rfl⟩ := h
  have := ofPVL_ok env hl
  exact ⟨by simp only [pl, this.1], by simp only [X.ev, this.2, obind_some, listOf, nrm]⟩
 | .agg cs, e, h => by
  simp only [ofPV] at h
  split at h
  ·rename_i hc
   simp only [Option.map_eq_some_iff] at h
   obtain ⟨l, hl, rfl⟩ := h
   have := ofPVL_ok env hl
   refine ⟨by simp only [pl, this.1, hc, Bool.and_self], by simp only [X.ev, this.2, obind_some, listOf, nrm, nrm_okCells, hc, if_true]⟩
  ·cases h
 | .fn f [], e, h => by cases h; exact ⟨rfl, rfl⟩
 | .fn f (_ :: _), e, h => by simp [ofPV] at h
 | .lptr _, e, h => by simp [ofPV] at h
 | .tup _, e, h => by simp [ofPV] at h
 | .tok .., e, h => by simp [ofPV] at h
 | .ptr .., e, h => by simp [ofPV] at h
 | .junk, e, h => by simp [ofPV] at h
theorem ofPVL_ok (env : Env) : ∀ {l : List PV} {e : X}, ofPVL l = some e → plL l = true ∧ e.ev env = some (.tup (nrmL l))
 | [], e, h => by cases h; exact ⟨rfl, rfl⟩
 | v :: vs, e, h => by
  simp only [ofPVL, obind_eq] at h
  obtain ⟨x, hx, l, hl, he⟩ := h
  cases he
  have h1 := ofPV_ok env hx
  have h2 := ofPVL_ok env hl
  exact ⟨by simp only [plL, h1.1, h2.1, Bool.and_self], by simp only [X.ev, h1.2, h2.2, obind_some, nrmL]⟩
end
def const1 : PV → Option AV
 | .nils => some (.N (.lst .nl))
 | v => (ofPV v).map AV.F
def constL : List PV → Option (List AV)
 | [] => some []
 | v :: vs => obind (const1 v) fun a => obind (constL vs) fun as => some (a :: as)
theorem const1_ok (c : Cx) (h : Heap) (env : Env) {v : PV} {a : AV} (H : const1 v = some a) : Rel c h env a v := by
 unfold const1 at H
 split at H
 ·cases H; exact ⟨.inl rfl, rfl⟩
 ·rename_i hn
  simp only [Option.map_eq_some_iff] at H
  obtain ⟨e, he, rfl⟩ := H
  exact ofPV_ok env he
theorem constL_ok (c : Cx) (h : Heap) (env : Env) : ∀ {l : List PV} {as : List AV}, constL l = some as → RelL c h env as l
 | [], as, H => by cases H; trivial
 | v :: vs, as, H => by
  simp only [constL, obind_eq] at H
  obtain ⟨a, ha, l, hl, he⟩ := H
  cases he
  exact ⟨const1_ok c h env ha, constL_ok c h env hl⟩
def Abs.po (a : Abs) : PO → Option AV
 | .t n => a.get n
 | .c v => match v with
  | .agg cs => if okCells cs then (constL cs).map AV.A else none
  | v => const1 v
theorem Abs.po_ok {I : Inv} {c : Cx} {a : Abs} {env : Env} {σ : St} (S : Sim I c a env σ) : ∀ {x : PO} {av : AV}, a.po x = some av → Rel c σ.h env av (x.ev σ.fr)
 | .t n, av, H => Abs.get_rel S H
 | .c v, av, H => by
  simp only [Abs.po] at H
  split at H
  ·split at H
   ·rename_i hc
    simp only [Option.map_eq_some_iff] at H
    obtain ⟨l, hl, rfl⟩ := H
    exact ⟨_, rfl, hc, constL_ok _ _ _ hl⟩
   ·cases H
  ·exact const1_ok _ _ _ H
mutual
def fx : AV → Option X
 | .F e => some e
 | .N e => some e
 | .A cs => (fxL cs).map X.agg
 | _ => none
def fxL : List AV → Option X
 | [] => some .nl
 | a :: as => obind (fx a) fun x => obind (fxL as) fun l => some (.cn x l)
end
theorem isNil_pl {v : PV} (h : isNil v) : pl v = true ∧ nrm v = .lst [] false := by rcases h with rfl | rfl <;> exact ⟨rfl, rfl⟩
section
variable {c : Cx} {h : Heap} {env : Env}
mutual
theorem fx_ok : ∀ {a : AV} {v : PV} {e : X}, Rel c h env a v → fx a = some e → pl v = true ∧ e.ev env = some (nrm v)
 | .F e, v, e', R, H => by cases H; exact R
 | .N e, v, e', R, H => by
  cases H
  have := isNil_pl R.1
  exact ⟨this.1, by rw [this.2]; exact R.2⟩
 | .A cs, v, e', R, H => by
  simp only [fx, Option.map_eq_some_iff] at H
  obtain ⟨l, hl, rfl⟩ := H
  obtain ⟨vs, rfl, hc, hR⟩ := R
  have := fxL_ok hR hl
  exact ⟨by simp only [pl, hc, this.1, Bool.and_self], by simp only [X.ev, this.2, obind_some, listOf, nrm_okCells, hc, if_true, nrm]⟩
 | .D, v, e', R, H => by simp [fx] at H
 | .O .., v, e', R, H => by simp [fx] at H
 | .Q .., v, e', R, H => by simp [fx] at H
 | .P .., v, e', R, H => by simp [fx] at H
 | .EP .., v, e', R, H => by simp [fx] at H
 | .C .., v, e', R, H => by simp [fx] at H
 | .L .., v, e', R, H => by simp [fx] at H
 | .T .., v, e', R, H => by simp [fx] at H
 | .G .., v, e', R, H => by simp [fx] at H
theorem fxL_ok : ∀ {as : List AV} {vs : List PV} {e : X}, RelL c h env as vs → fxL as = some e → plL vs = true ∧ e.ev env = some (.tup (nrmL vs))
 | [], [], e, R, H => by cases H; exact ⟨rfl, rfl⟩
 | a :: as, v :: vs, e, R, H => by
  simp only [fxL, obind_eq] at H
  obtain ⟨x, hx, l, hl, he⟩ := H
  cases he
  have h1 := fx_ok R.1 hx
  have h2 := fxL_ok R.2 hl
  exact ⟨by simp only [plL, h1.1, h2.1, Bool.and_self], by simp only [X.ev, h1.2, h2.2, obind_some, nrmL]⟩
 | [], _ :: _, _, R, _ => by cases R
 | _ :: _, [], _, R, _ => by cases R
end
def fxg (g : X) (p : Bool) (a : AV) : Option X := match a with
 | .G g' p' a => if g' = g ∧ p' = p then fx a else none
 | a => fx a
theorem fxg_ok {g : X} {p : Bool} {a : AV} {v : PV} {e : X} (hg : g.ev env = some (.bool p)) (R : Rel c h env a v) (H : fxg g p a = some e) : pl v = true ∧ e.ev env = some (nrm v) := by
 unfold fxg at H
 split at H
 ·split at H
  ·rename_i he
   obtain ⟨rfl, rfl⟩ := he
   rcases R with R | R
   ·exact fx_ok R.2 H
   ·rw [hg] at R
    rcases R.1 with h1 | h1
    ·simp at h1
    ·simp at h1
  ·cases H
 ·exact fx_ok R H
def Abs.fo (a : Abs) (x : PO) : Option X := obind (a.po x) fx
theorem Abs.fo_ok {I : Inv} {a : Abs} {σ : St} (S : Sim I c a env σ) {x : PO} {e : X} (H : a.fo x = some e) : pl (x.ev σ.fr) = true ∧ e.ev env = some (nrm (x.ev σ.fr)) := by
 simp only [Abs.fo, obind_eq] at H
 obtain ⟨av, h1, h2⟩ := H
 exact fx_ok (Abs.po_ok S h1) h2
def Abs.fos (a : Abs) : List PO → Option X
 | [] => some .nl
 | x :: xs => obind (a.fo x) fun e => obind (a.fos xs) fun l => some (.cn e l)
theorem Abs.fos_ok {I : Inv} {a : Abs} {σ : St} (S : Sim I c a env σ) : ∀ {xs : List PO} {e : X}, a.fos xs = some e → plL (evL (PO.ev σ.fr) xs) = true ∧ e.ev env = some (.tup (nrmL (evL (PO.ev σ.fr) xs)))
 | [], e, H => by cases H; exact ⟨rfl, rfl⟩
 | x :: xs, e, H => by
  simp only [Abs.fos, obind_eq] at H
  obtain ⟨y, hy, l, hl, he⟩ := H
  cases he
  have h1 := Abs.fo_ok S hy
  have h2 := Abs.fos_ok S hl
  exact ⟨by simp only [evL, plL, h1.1, h2.1, Bool.and_self], by simp only [X.ev, h1.2, h2.2, obind_some, evL, nrmL]⟩
def Abs.pos (a : Abs) : List PO → Option (List AV)
 | [] => some []
 | x :: xs => obind (a.po x) fun e => obind (a.pos xs) fun l => some (e :: l)
theorem Abs.pos_ok {I : Inv} {a : Abs} {σ : St} (S : Sim I c a env σ) : ∀ {xs : List PO} {as : List AV}, a.pos xs = some as → RelL c σ.h env as (evL (PO.ev σ.fr) xs)
 | [], as, H => by cases H; trivial
 | x :: xs, as, H => by
  simp only [Abs.pos, obind_eq] at H
  obtain ⟨y, hy, l, hl, he⟩ := H
  cases he
  exact ⟨Abs.po_ok S hy, Abs.pos_ok S hl⟩
end
def fitsX : Option Nat → X → Bool
 | none, .int .. | none, .boo _ | none, .str _ | none, .lst _ | none, .bin .. | none, .toInt .. | none, .eqs .. | none, .eqb .. | none, .len _ | none, .lenS _ | none, .app .. | none, .ia .. | none, .fa .. | none, .b2s _ => true
 | sz, .fld sz' _ _ => sz == sz'
 | sz, .ld sz' _ _ => sz == sz'
 | sz, .ite _ a b => fitsX sz a && fitsX sz b
 | sz, .chk sz' _ => sz == sz'
 | _, _ => false
theorem binI_fits {op : BinOp} {k k' : IntKind} {a b : Int} {x : PV} (h : binI op k a k' b = some x) : x.fits none = true := by
 unfold binI at h
 split at h
 ·split at h
  ·cases h
  ·cases h; rfl
 ·split at h
  ·cases h
  ·cases h; rfl
 ·split at h
  ·cases h
  ·split at h <;> first | (split at h <;> first | (cases h; rfl) | (cases h; done)) | (cases h; rfl) | (cases h; done)
theorem bin_fits {op : BinOp} {v w x : PV} (h : bin op v w = some x) : x.fits none = true := by
 unfold bin at h
 split at h
 ·exact binI_fits h
 ·split at h <;> first | (cases h; rfl) | (split at h <;> first | (cases h; rfl) | (cases h; done)) | (cases h; done)
 ·cases h
theorem indexAddr_fits {sz : Nat} {v i x : PV} (h : indexAddrPV sz v i = some x) : x.fits none = true := by
 unfold indexAddrPV at h
 split at h
 ·split at h
  ·split at h
   ·cases h; rfl
   ·cases h
  ·split at h
   ·split at h
    ·split at h
     ·cases h; rfl
     ·cases h
    ·cases h
   ·cases h
  ·cases h
 ·cases h
theorem eqsV_fits {neg : Bool} {ks : List Bool} {v w x : PV} (h : eqsV neg ks v w = some x) : x.fits none = true := by
 unfold eqsV at h
 split at h
 ·split at h
  ·cases h; rfl
  ·cases h
 ·cases h
theorem fitsX_ok {env : Env} : ∀ {e : X} {sz : Option Nat} {x : PV}, fitsX sz e = true → e.ev env = some x → x.fits sz = true := by
 intro e
 induction e <;> intro sz x hf hx
 case ite c a b ihc iha ihb =>
  have hf' : fitsX sz a = true ∧ fitsX sz b = true := by cases sz <;> simpa [fitsX] using hf
  simp only [X.ev, obind_eq] at hx
  obtain ⟨y, _, hx⟩ := hx
  split at hx
  ·exact iha hf'.1 hx
  ·exact ihb hf'.2 hx
  ·cases hx
 case fld sz' a o iha =>
  have hf' : sz = sz' := by cases sz <;> simpa [fitsX] using hf
  subst hf'
  simp only [X.ev, obind_eq] at hx
  obtain ⟨y, _, hx⟩ := hx
  unfold fldV at hx
  split at hx
  ·exact (loadV_some hx).2
  ·cases hx
 case ld sz' a o iha =>
  have hf' : sz = sz' := by cases sz <;> simpa [fitsX] using hf
  subst hf'
  simp only [X.ev, obind_eq] at hx
  obtain ⟨y, _, hx⟩ := hx
  unfold ldV at hx
  split at hx
  ·exact (loadV_some hx).2
  ·cases hx
 case chk sz' a iha =>
  have hf' : sz = sz' := by cases sz <;> simpa [fitsX] using hf
  subst hf'
  simp only [X.ev, obind_eq] at hx
  obtain ⟨y, _, hx⟩ := hx
  unfold chkV at hx
  split at hx
  ·rename_i hc; cases hx; exact hc.1
  ·cases hx
 all_goals cases sz <;> simp only [fitsX, Bool.false_eq_true] at hf
 all_goals simp only [X.ev, obind_eq, Option.some.injEq] at hx
 all_goals first
  | (subst hx; rfl)
  | (obtain ⟨y, _, z, _, hx⟩ := hx; first | exact bin_fits hx | skip)
  | (obtain ⟨y, _, hx⟩ := hx)
 case lst => subst hx; rfl
 case toInt => unfold toIntV at hx; split at hx <;> cases hx; rfl
 case eqs => exact eqsV_fits hx
 case eqb => unfold eqb at hx; split at hx <;> cases hx; rfl
 case len => unfold lenV at hx; split at hx <;> cases hx; rfl
 case lenS => unfold lenSPV at hx; split at hx <;> cases hx; rfl
 case ia => exact indexAddr_fits hx
 case fa =>
  unfold fieldAddrPV at hx
  split at hx <;> cases hx <;> rfl
 case app =>
  unfold appV at hx
  split at hx <;> try (cases hx; done)
  all_goals (split at hx <;> cases hx; rfl)
 case b2s =>
  unfold b2sV at hx
  split at hx
  ·simp only [Option.map_eq_some_iff] at hx; obtain ⟨l, _, rfl⟩ := hx; rfl
  ·cases hx
def needChk (sz : Option Nat) (e : X) : List X := if fitsX sz e then [] else [.chk sz e]
def cellsOf (sz : Option Nat) (a : AV) : Option (List AV × List X) :=
 match sz, a with
 | none, .F e => some ([.F e], e :: needChk none e)
 | none, .N e => some ([.N e], [])
 | none, .O fs w wr s e => some ([.O fs w wr s e], [])
 | none, .P b o => some ([.P b o], [])
 | none, .C f cs => some ([.C f cs], [])
 | none, .L fs sz cs => some ([.L fs sz cs], [])
 | some n, .F e => some ((List.range n).map fun j => .F (.fld none e j), e :: needChk (some n) e)
 | some n, .A cs => if cs.length = n then some (cs, []) else none
 | _, _ => none
theorem allGood_app {env : Env} : ∀ {l m : List X}, allGood env (l ++ m) = (allGood env l && allGood env m)
 | [], m => by simp [allGood]
 | x :: l, m => by simp [allGood, allGood_app (l := l), Bool.and_assoc]
theorem allGood_iff {env : Env} : ∀ {l : List X}, allGood env l = true ↔ ∀ x ∈ l, (x.ev env).isSome = true
 | [] => by simp [allGood]
 | x :: l => by simp [allGood, allGood_iff (l := l)]
theorem needChk_ok {env : Env} {sz : Option Nat} {e : X} {v : PV} (hv : e.ev env = some (nrm v)) (hg : allGood env (needChk sz e) = true) (hp : pl v = true) : v.fits sz = true ∧ okCells v.cells = true := by
 unfold needChk at hg
 split at hg
 ·rename_i hf
  have := fitsX_ok hf hv
  rw [nrm_fits] at this
  exact ⟨this, cells_ok hp⟩
 ·simp only [allGood, Bool.and_true, X.ev, hv, obind_some, Option.isSome_iff_exists] at hg
  obtain ⟨x, hx⟩ := hg
  have := chk_im hx
  exact ⟨this.1, this.2.1⟩
theorem RelL.len {c : Cx} {h : Heap} {env : Env} : ∀ {as : List AV} {vs : List PV}, RelL c h env as vs → as.length = vs.length
 | [], [], _ => rfl
 | a :: as, v :: vs, R => by simp [RelL.len R.2]
 | [], _ :: _, R => by cases R
 | _ :: _, [], R => by cases R
theorem RelL.get {c : Cx} {h : Heap} {env : Env} : ∀ {as : List AV} {vs : List PV}, RelL c h env as vs → ∀ {i : Nat} {a : AV}, as[i]? = some a → ∃ v, vs[i]? = some v ∧ Rel c h env a v
 | a :: as, v :: vs, R, 0, b, H => by simp only [List.getElem?_cons_zero, Option.some.injEq] at H ⊢; subst H; exact ⟨v, rfl, R.1⟩
 | a :: as, v :: vs, R, i + 1, b, H => by simp only [List.getElem?_cons_succ] at H ⊢; exact RelL.get R.2 H
 | [], vs, _, i, b, H => by simp at H
 | _ :: _, [], R, _, _, _ => by cases R
theorem RelL.of {c : Cx} {h : Heap} {env : Env} : ∀ {as : List AV} {vs : List PV}, as.length = vs.length → (∀ (i : Nat) (a : AV) (v : PV), as[i]? = some a → vs[i]? = some v → Rel c h env a v) → RelL c h env as vs
 | [], [], _, _ => trivial
 | a :: as, v :: vs, hl, H => ⟨H 0 a v rfl rfl, RelL.of (by simpa using hl) fun i a' v' h1 h2 => H (i + 1) a' v' (by simpa using h1) (by simpa using h2)⟩
 | [], _ :: _, hl, _ => by simp at hl
 | _ :: _, [], hl, _ => by simp at hl
theorem RelL.app {c : Cx} {h : Heap} {env : Env} : ∀ {as bs : List AV} {vs ws : List PV}, RelL c h env as vs → RelL c h env bs ws → RelL c h env (as ++ bs) (vs ++ ws)
 | [], bs, [], ws, _, H => H
 | a :: as, bs, v :: vs, ws, R, H => ⟨R.1, RelL.app R.2 H⟩
 | [], _, _ :: _, _, R, _ => by cases R
 | _ :: _, _, [], _, R, _ => by cases R
theorem RelL.drop {c : Cx} {h : Heap} {env : Env} : ∀ {as : List AV} {vs : List PV} (n : Nat), RelL c h env as vs → RelL c h env (as.drop n) (vs.drop n)
 | as, vs, 0, R => R
 | [], [], n + 1, R => trivial
 | a :: as, v :: vs, n + 1, R => RelL.drop n R.2
 | [], _ :: _, _ + 1, R => by cases R
 | _ :: _, [], _ + 1, R => by cases R
theorem RelL.take {c : Cx} {h : Heap} {env : Env} : ∀ {as : List AV} {vs : List PV} (n : Nat), RelL c h env as vs → RelL c h env (as.take n) (vs.take n)
 | as, vs, 0, R => trivial
 | [], [], n + 1, R => trivial
 | a :: as, v :: vs, n + 1, R => ⟨R.1, RelL.take n R.2⟩
 | [], _ :: _, _ + 1, R => by cases R
 | _ :: _, [], _ + 1, R => by cases R
theorem cellsOf_ok {c : Cx} {h : Heap} {env : Env} {sz : Option Nat} {a : AV} {v : PV} {cs : List AV} {ns : List X} (R : Rel c h env a v) (H : cellsOf sz a = some (cs, ns)) (hg : allGood env ns = true) :
  v.fits sz = true ∧ okCells v.cells = true ∧ RelL c h env cs v.cells := by
 have one : ∀ {w : PV}, w.isCell = true → w.cells = [w] ∧ w.fits none = true ∧ okCells w.cells = true := by
  intro w hw; cases w <;> first | (simp [PV.isCell] at hw; done) | exact ⟨rfl, rfl, rfl⟩
 unfold cellsOf at H
 split at H <;> try (cases H; done)
 ·rename_i e
  cases H
  simp only [allGood, Bool.and_eq_true] at hg
  obtain ⟨h1, h2⟩ := needChk_ok R.2 hg.2 R.1
  refine ⟨h1, h2, ?_⟩
  have : v.cells = [v] := by cases v <;> simp_all [PV.fits, PV.cells]
  rw [this]; exact ⟨R, trivial⟩
 ·cases H
  have : v.isCell = true := by rcases R.1 with rfl | rfl <;> rfl
  obtain ⟨h1, h2, h3⟩ := one this
  exact ⟨h2, h3, by rw [h1]; exact ⟨R, trivial⟩⟩
 ·cases H
  have : v.isCell = true := by
   obtain ⟨_, x, T, _⟩ := R
   rcases T with ⟨rfl | rfl, _⟩ | ⟨r, ver, off, len, room, c0, b, rfl, _⟩ <;> rfl
  obtain ⟨h1, h2, h3⟩ := one this
  exact ⟨h2, h3, by rw [h1]; exact ⟨R, trivial⟩⟩
 ·cases H
  have : v.isCell = true := by simp only [Rel] at R; subst R; rfl
  obtain ⟨h1, h2, h3⟩ := one this
  exact ⟨h2, h3, by rw [h1]; exact ⟨R, trivial⟩⟩
 ·cases H
  have : v.isCell = true := by obtain ⟨vs, rfl, _⟩ := R; rfl
  obtain ⟨h1, h2, h3⟩ := one this
  exact ⟨h2, h3, by rw [h1]; exact ⟨R, trivial⟩⟩
 ·cases H
  have : v.isCell = true := by obtain ⟨r, ver, vs, rfl, _⟩ := R; rfl
  obtain ⟨h1, h2, h3⟩ := one this
  exact ⟨h2, h3, by rw [h1]; exact ⟨R, trivial⟩⟩
 ·rename_i n e
  cases H
  simp only [allGood, Bool.and_eq_true] at hg
  obtain ⟨h1, h2⟩ := needChk_ok R.2 hg.2 R.1
  refine ⟨h1, h2, ?_⟩
  obtain ⟨vs, rfl, hl⟩ : ∃ vs, v = .agg vs ∧ vs.length = n := by
   cases v <;> simp_all [PV.fits]
  have hp := R.1
  simp only [pl, Bool.and_eq_true] at hp
  refine RelL.of (by simp [PV.cells, hl]) fun i a' v' ha hv => ?_
  simp only [List.getElem?_map, Option.map_eq_some_iff] at ha
  obtain ⟨j, hj, rfl⟩ := ha
  have hlt := getElem?_lt hj
  rw [List.getElem?_eq_getElem hlt] at hj
  simp only [List.getElem_range, Option.some.injEq] at hj
  subst hj
  simp only [PV.cells] at hv h2
  refine ⟨plL_get hp.2 hv, ?_⟩
  have hcell := okCells_get h2 hv
  have : (nrm v').fits none = true := by
   rw [nrm_fits]; cases v' <;> simp_all [PV.isCell, PV.fits]
  simp only [X.ev, R.2, obind_some, nrm, fldV, loadV, loadC, nrmL_get, hv, Option.map_some, this, if_true]
 ·split at H
  ·rename_i n cs' hl
   cases H
   obtain ⟨vs, rfl, h2, h3⟩ := R
   exact ⟨by simp [PV.fits, ← hl, h3.len], h2, h3⟩
  ·cases H
end Gv

namespace Gv
open Go (IntKind BinOp UnOp)

abbrev PR := Option (AV × List X × List Nat)
def pure1 (e : X) : PR := some (.F e, [e], [])
def Abs.bnd (a : Abs) : Option PO → Option X
 | none => some .nl
 | some p => a.fo p
def Abs.parts (a : Abs) : List AV → List (Nat × Option Nat × PO) → Option (List AV × List X)
 | cs, [] => some (cs, [])
 | cs, (off, sz, x) :: ps => obind (a.po x) fun av => obind (cellsOf sz av) fun ln =>
   if off + ln.1.length ≤ cs.length then obind (a.parts (cs.take off ++ ln.1 ++ cs.drop (off + ln.1.length)) ps) fun r => some (r.1, ln.2 ++ r.2) else none
def sxPure (a : Abs) : IOp → PR
 | .mov x => obind (a.po x) fun av => some (av, [], [])
 | .pick c x y => obind (a.fo c) fun c' => obind (a.po x) fun xv => obind (fxg c' true xv) fun x' => obind (a.po y) fun yv => obind (fxg c' false yv) fun y' => pure1 (.ite c' x' y')
 | .build zero parts => if okCells zero then obind (constL zero) fun z => obind (a.parts z parts) fun r => some (.A r.1, r.2, []) else none
 | .load sz x => obind (a.po x) fun xv => match xv with
   | .P b o => obind (a.box b) fun bx => match sz with
     | none => obind bx.cs[o]? fun av => match av with | .D => none | av => some (av, [], bx.fs)
     | some n => if o + n ≤ bx.cs.length then some (.A ((bx.cs.drop o).take n), [], bx.fs) else none
   | .F e => pure1 (.ld sz e 0)
   | .EP fs _ _ s e i o => some (.F (.ld sz (.ia s e i) o), [.ld sz (.ia s e i) o], fs)
   | _ => none
 | .nilchk x => obind (a.po x) fun xv => match xv with
   | .P b o => some (.P b o, [], [])
   | .F e => some (.F e, [.nck e], [])
   | .EP fs w wr s e i o => some (.EP fs w wr s e i o, [], [])
   | .C f cs => some (.C f cs, [], [])
   | .Q fs e => some (.Q fs e, [], [])
   | _ => none
 | .bin op x y => obind (a.fo x) fun x' => obind (a.fo y) fun y' => pure1 (.bin op x' y')
 | .eqs neg ks x y => obind (a.fo x) fun x' => obind (a.fo y) fun y' => pure1 (.eqs neg ks x' y')
 | .eqb neg x y => obind (a.fo x) fun x' => obind (a.fo y) fun y' => pure1 (.eqb neg x' y')
 | .eqn k neg x y => obind (a.fo x) fun x' => obind (a.fo y) fun y' => pure1 (.eqn k neg x' y')
 | .un op x => obind (a.fo x) fun x' => pure1 (.un op x')
 | .toInt k x => obind (a.fo x) fun x' => pure1 (.toInt k x')
 | .b2s x => obind (a.po x) fun xv => match xv with
   | .O fs _ _ _ e => some (.F (.b2s e), [.b2s e], fs)
   | xv => obind (fx xv) fun e => pure1 (.b2s e)
 | .slice sz x lo hi mx => obind (a.bnd lo) fun l => obind (a.bnd hi) fun h => obind (a.bnd mx) fun m => obind (a.po x) fun xv => match xv with
   | .N e => some (.N (.slice sz e l h m), [.slice sz e l h m], [])
   | xv => obind (fx xv) fun e => if (l = .nl ∨ l = .int .i64 0) ∧ h = .int .i64 0 ∧ m = .int .i64 0 ∧ sz ≠ 0 then some (.N (.slice sz e l h m), [.slice sz e l h m], []) else pure1 (.slice sz e l h m)
 | .fieldAddr x off => obind (a.po x) fun xv => match xv with
   | .P b o => some (.P b (o + off), [], [])
   | .F e => pure1 (.fa e off)
   | .EP fs w wr s e i o => some (.EP fs w wr s e i (o + off), [], [])
   | _ => none
 | .field sz x off => obind (a.po x) fun xv => match xv with
   | .A cs => (match sz with
     | none => obind cs[off]? fun av => match av with | .D => none | av => some (av, [], [])
     | some n => if off + n ≤ cs.length then some (.A ((cs.drop off).take n), [], []) else none)
   | xv => obind (fx xv) fun e => pure1 (.fld sz e off)
 | .indexAddr sz x i => obind (a.fo i) fun i' => obind (a.po x) fun xv => match xv with
   | .O fs w wr s e => if s = sz then some (.EP fs w wr s e i' 0, [.ia sz e i'], []) else none
   | xv => obind (fx xv) fun e => pure1 (.ia sz e i')
 | .idxArr n sz x i => obind (a.fo x) fun x' => obind (a.fo i) fun i' => pure1 (.iaa n sz x' i')
 | .extract x i => obind (a.po x) fun xv => match xv with
   | .T cs => obind cs[i]? fun av => match av with | .D => none | av => some (av, [], [])
   | _ => none
 | .mkfn f caps => if caps.isEmpty then pure1 (.fn f .nl) else obind (a.pos caps) fun cs => some (.C f cs, [], [])
 | .len x => obind (a.po x) fun xv => match xv with
   | .O _ _ _ _ e => pure1 (.len e)
   | xv => obind (fx xv) fun e => pure1 (.len e)
 | .lenS x => obind (a.fo x) fun e => pure1 (.lenS e)
 | .mm b xs => obind (a.fos xs) fun l => pure1 (.mm b l)
 | .same x => obind (a.po x) fun xv => match xv with
   | .O fs w true s e => if s = 1 then some (.O fs w true s e, [.pos e], fs) else none
   | _ => none
 | _ => none

def rdOk (c : Cx) (fs : List Nat) (R : List Ref) : Prop := ∀ r ∈ R, r ≠ .dead ∧ c.nm r ∈ fs
theorem rdOk_nil (c : Cx) (fs : List Nat) : rdOk c fs [] := fun _ h => by cases h
theorem get_not_dead {h : Heap} {r : Ref} {e : Ent} (hg : h.get r = some e) : r ≠ .dead := by rintro rfl; simp [Heap.get] at hg
section
variable {I : Inv} {c : Cx} {a : Abs} {env : Env} {σ : St}
theorem Abs.bnd_ok (S : Sim I c a env σ) {x : Option PO} {e : X} {y : PV} {o : Option PV} (H : a.bnd x = some e) (hy : e.ev env = some y) (ho : optV y = some o) : evO (PO.ev σ.fr) x = o := by
 cases x with
 | none =>
  cases H
  simp only [X.ev, Option.some.injEq] at hy
  subst hy
  simp only [optV, Option.some.injEq] at ho
  exact ho
 | some p =>
  have := Abs.fo_ok S H
  rw [this.2] at hy
  cases hy
  simp only [evO]
  rcases optV_im ho with ⟨h1, _⟩ | ⟨k, n, h1, h2⟩
  ·obtain ⟨l, h3, _⟩ := nrm_tup h1
   rw [h3] at this
   simp [pl] at this
  ·rw [h2, nrm_int h1]; simp [nrm]
theorem Abs.parts_ok (S : Sim I c a env σ) : ∀ {ps : List (Nat × Option Nat × PO)} {cs : List AV} {vs : List PV} {r : List AV × List X}, a.parts cs ps = some r → RelL c σ.h env cs vs → okCells vs = true → allGood env r.2 = true →
  ∃ ws, fillPV vs (evParts (PO.ev σ.fr) ps) = some ws ∧ RelL c σ.h env r.1 ws ∧ okCells ws = true
 | [], cs, vs, r, H, R, ho, hg => by cases H; exact ⟨vs, rfl, R, ho⟩
 | (off, sz, x) :: ps, cs, vs, r, H, R, ho, hg => by
  simp only [Abs.parts, obind_eq] at H
  obtain ⟨av, h1, ln, h2, H⟩ := H
  split at H
  ·rename_i hle
   simp only [obind_eq] at H
   obtain ⟨r', h3, h4⟩ := H
   cases h4
   simp only [allGood_app, Bool.and_eq_true] at hg
   obtain ⟨k1, k2, k3⟩ := cellsOf_ok (Abs.po_ok S h1) h2 hg.1
   have hl := k3.len
   obtain ⟨ws, q1, q2, q3⟩ := Abs.parts_ok S (vs := vs.take off ++ (x.ev σ.fr).cells ++ vs.drop (off + (x.ev σ.fr).cells.length)) h3 (((R.take off).app k3).app (by rw [← hl]; exact R.drop _))
    (by simp only [okCells_app, okCells_take ho, k2, okCells_drop ho, Bool.and_self]) hg.2
   refine ⟨ws, ?_, q2, q3⟩
   simp only [evParts, fillPV]
   rw [if_pos ⟨k1, by rw [← hl, ← R.len]; exact hle⟩]
   exact q1
  ·cases H
def PureOk (c : Cx) (h : Heap) (env : Env) (m : HM PV) (r : AV × List X × List Nat) : Prop :=
 ∃ v R, m.runT h = some (v, h, R, []) ∧ Rel c h env r.1 v ∧ rdOk c r.2.2 R
theorem PureOk.ret {m : HM PV} {e : X} {v : PV} {r : AV × List X × List Nat} (H : pure1 e = some r) (hm : m = .ret v) (hp : pl v = true) (he : e.ev env = some (nrm v)) {h : Heap} : PureOk c h env m r := by
 cases H
 subst hm
 exact ⟨v, [], rfl, ⟨hp, he⟩, rdOk_nil _ _⟩
theorem PureOk.im {o : Option PV} {m : HM PV} {e : X} {x : PV} {r : AV × List X × List Nat} (H : pure1 e = some r) (hm : m = HM.ofO o) (he : e.ev env = some x) (hi : Imd o x) {h : Heap} : PureOk c h env m r := by
 obtain ⟨v, hv, hp, hn⟩ := hi
 exact PureOk.ret H (by rw [hm, hv]; rfl) hp (by rw [he, hn])
theorem good1 {e : X} {r : AV × List X × List Nat} (H : pure1 e = some r) (hg : allGood env r.2.1 = true) : ∃ x, e.ev env = some x := by
 cases H
 simp only [allGood, Bool.and_true] at hg
 exact Option.isSome_iff_exists.1 hg
theorem TokAt.b2s {Pr : Ref → Prop} {h : Heap} {sz : Nat} {r : Ref} {ver off len room : Nat} {c0 : Bool} {b : Blk} {v x : PV} (T : TokAt Pr h sz r ver off len room c0 b v x) :
  ∃ R, (elems v).runT h = some ((b.es.drop off).take len, h, R, []) ∧ ∀ r' ∈ R, r' = r := by
 obtain ⟨rfl, _, hg, hs, ho, _, _, _, _⟩ := T
 simp only [elems]
 split
 ·rename_i h0; subst h0; exact ⟨[], by simp [HM.runT], fun _ h => by cases h⟩
 ·refine ⟨[r], ?_, fun r' h => by simpa using h⟩
  have h2 : (if off + len ≤ b.es.length ∧ b.sz = sz then HM.ret (List.take len (List.drop off b.es)) else HM.fail).runT h = some ((b.es.drop off).take len, h, [], []) := by
   rw [if_pos ⟨ho, hs⟩]; rfl
  exact HM.runT_bind_of (liveBlk_runT hg) h2
theorem isNil_elems {v : PV} (h : isNil v) : elems v = .ret [] := by rcases h with rfl | rfl <;> rfl
theorem TokOk.elems {Pr : Ref → Prop} {h : Heap} {sz : Nat} {v x : PV} (T : TokOk Pr h sz v x) : ∃ es R, (elems v).runT h = some (es, h, R, []) ∧ plL es = true ∧ x = .lst (nrmL es) false ∧ (∀ e ∈ es, e.cells.length = sz) ∧ ∀ r ∈ R, r ≠ .dead ∧ Pr r := by
 rcases T with ⟨h1, h2⟩ | ⟨r, ver, off, len, room, c0, b, T⟩
 ·exact ⟨[], [], by rw [isNil_elems h1]; rfl, rfl, h2, (fun _ h => by cases h), (fun _ h => by cases h)⟩
 ·obtain ⟨R, h1, h2⟩ := T.b2s
  obtain ⟨rfl, hp, hg, hs, ho, _, hpl, hc, hx⟩ := T
  refine ⟨_, R, h1, plL_take (plL_drop hpl _) _, hx, fun e he => hc e (List.mem_of_mem_drop (List.mem_of_mem_take he)), fun r' hr => ?_⟩
  rw [h2 r' hr]; exact ⟨get_not_dead hg, hp⟩
theorem pure_ok (RO : Nat → List Bool) (C : CallF) (S : Sim I c a env σ) {op : IOp} {r : AV × List X × List Nat} (H : sxPure a op = some r) (hg : allGood env r.2.1 = true) : PureOk c σ.h env (sem RO C (PO.ev σ.fr) op) r := by
 cases op with
 | mov x =>
  simp only [sxPure, obind_eq] at H
  obtain ⟨av, h1, h2⟩ := H
  cases h2
  exact ⟨_, [], rfl, Abs.po_ok S h1, rdOk_nil _ _⟩
 | pick cc x y =>
  simp only [sxPure, obind_eq] at H
  obtain ⟨c', h1, xv, h2, x', h3, yv, h4, y', h5, H⟩ := H
  obtain ⟨z, hz⟩ := good1 H hg
  have hc := Abs.fo_ok S h1
  simp only [X.ev, obind_eq] at hz
  obtain ⟨w, hw, hz⟩ := hz
  have hw' := hw
  rw [hc.2] at hw
  simp only [Option.some.injEq] at hw
  split at hz
  ·have := nrm_bool hw
   have hx := fxg_ok hw' (Abs.po_ok S h2) h3
   refine PureOk.ret H (v := x.ev σ.fr) ?_ hx.1 ?_
   ·simp only [sem, this, pickPV]
   ·simp only [X.ev, hw', obind_some]; exact hx.2
  ·have := nrm_bool hw
   have hx := fxg_ok hw' (Abs.po_ok S h4) h5
   refine PureOk.ret H (v := y.ev σ.fr) ?_ hx.1 ?_
   ·simp only [sem, this, pickPV]
   ·simp only [X.ev, hw', obind_some]; exact hx.2
  ·cases hz
 | build zero parts =>
  simp only [sxPure] at H
  split at H
  ·rename_i hz
   simp only [obind_eq] at H
   obtain ⟨z, h1, q, h2, h3⟩ := H
   cases h3
   obtain ⟨ws, k1, k2, k3⟩ := Abs.parts_ok S h2 (constL_ok c σ.h env h1) hz hg
   exact ⟨.agg ws, [], by simp only [sem, buildHM, k1]; rfl, ⟨ws, rfl, k3, k2⟩, rdOk_nil _ _⟩
  ·cases H
 | load sz x =>
  simp only [sxPure, obind_eq] at H
  obtain ⟨xv, h1, H⟩ := H
  have R := Abs.po_ok S h1
  split at H
  ·rename_i b o
   simp only [obind_eq] at H
   obtain ⟨bx, hb, H⟩ := H
   obtain ⟨hid, n, e, ro, hn, hget, hro, hok, hR⟩ := Abs.box_ok S hb
   simp only [Rel] at R
   rw [hid] at hn hget
   have hl : ∀ {v : PV}, loadC e.cells o sz = some v → (sem RO C (PO.ev σ.fr) (.load sz x)).runT σ.h = some (v, σ.h, [(c.be b).1], []) := by
    intro v hv
    simp only [sem, R, loadHM]
    refine HM.runT_bind_of (R := [(c.be b).1]) (R2 := []) (W := []) (W2 := []) (liveBlk_runT hget) ?_
    simp [hv, HM.ofO, HM.runT]
   have hrd : rdOk c bx.fs [(c.be b).1] := fun r hr => by
    simp only [List.mem_singleton] at hr
    subst hr
    exact ⟨get_not_dead hget, hn⟩
   split at H
   ·simp only [obind_eq] at H
    obtain ⟨av, hav, H⟩ := H
    obtain ⟨v, hv, hR'⟩ := hR.get hav
    split at H
    ·cases H
    ·cases H
     exact ⟨v, _, hl hv, hR', hrd⟩
   ·split at H
    ·rename_i m hm
     cases H
     rw [hR.len] at hm
     refine ⟨.agg ((e.cells.drop o).take m), _, hl (by simp only [loadC, if_pos hm]), ⟨_, rfl, okCells_take (okCells_drop hok _) _, (hR.drop o).take m⟩, hrd⟩
    ·cases H
  ·rename_i e
   obtain ⟨z, hz⟩ := good1 H hg
   have hz' := hz
   simp only [X.ev, obind_eq] at hz
   obtain ⟨y, hy, hz⟩ := hz
   rw [R.2] at hy
   cases hy
   obtain ⟨l, w, k1, k2, k3, k4⟩ := ld_im R.1 hz
   refine PureOk.ret H (v := w) ?_ k3 (by rw [hz', k4])
   simp only [sem, k1, loadHM, k2]; rfl
  ·rename_i fs w wr s e i o
   cases H
   simp only [allGood, Bool.and_true] at hg
   obtain ⟨z, hz⟩ := Option.isSome_iff_exists.1 hg
   have hz' := hz
   simp only [Rel, EpAt] at R
   obtain ⟨r, ver, off, len, room, c0, b, x', k, n, T, he, hw, hi, hn0, hn1, hv⟩ := R
   obtain ⟨hT, hnm, hget, hs, ho, hr, hpl, hc, hx'⟩ := T
   simp only [X.ev, he, hi, obind_some, hx', obind_eq] at hz
   obtain ⟨y, hy, hz⟩ := hz
   have hlen : (nrmL (List.take len (List.drop off b.es))).length = len := by
    rw [nrmL_length, List.length_take, List.length_drop]; omega
   simp only [indexAddrPV, hlen] at hy
   rw [if_pos ⟨hn0, hn1⟩] at hy
   have hnn : n.toNat < len := by omega
   have hidx : (List.take len (List.drop off b.es))[n.toNat]? = b.es[off + n.toNat]? := by
    rw [List.getElem?_take, if_pos hnn, List.getElem?_drop]
   rw [nrmL_get, hidx] at hy
   cases hel : b.es[off + n.toNat]? with
   | none => rw [hel] at hy; cases hy
   | some el =>
    rw [hel] at hy
    simp only [Option.map_some] at hy
    split at hy
    ·cases hy
     have hpe := plL_get hpl hel
     simp only [ldV, nrm_cells] at hz
     obtain ⟨w', k1, k2, k3⟩ := loadC_im (pl_cells hpe) (cells_ok hpe) (loadV_some hz).1
     refine ⟨w', [r], ?_, ⟨k2, by rw [hz', k3]⟩, fun r' hr' => ?_⟩
     ·simp only [sem, hv, loadHM]
      refine HM.runT_bind_of (R := [r]) (R2 := []) (W := []) (W2 := []) (liveBlk_runT hget) ?_
      simp [hel, k1, HM.ofO, HM.runT]
     ·simp only [List.mem_singleton] at hr'
      subst hr'
      exact ⟨get_not_dead hget, hnm⟩
    ·cases hy
  ·cases H
 | nilchk x =>
  simp only [sxPure, obind_eq] at H
  obtain ⟨xv, h1, H⟩ := H
  have R := Abs.po_ok S h1
  split at H
  ·cases H
   refine ⟨x.ev σ.fr, [], ?_, R, rdOk_nil _ _⟩
   simp only [Rel] at R
   simp only [sem, R, nilchkPV]; rfl
  ·rename_i e
   cases H
   simp only [allGood, Bool.and_true] at hg
   obtain ⟨z, hz⟩ := Option.isSome_iff_exists.1 hg
   simp only [X.ev, R.2, obind_some] at hz
   have := nck_im R.1 hz
   exact ⟨x.ev σ.fr, [], by simp only [sem, this.1]; rfl, R, rdOk_nil _ _⟩
  ·cases H
   refine ⟨x.ev σ.fr, [], ?_, R, rdOk_nil _ _⟩
   simp only [Rel, EpAt] at R
   obtain ⟨r, ver, off, len, room, c0, b, x', k, n, T, he, hw, hi, hn0, hn1, hv⟩ := R
   simp only [sem, hv, nilchkPV]; rfl
  ·cases H
   refine ⟨x.ev σ.fr, [], ?_, R, rdOk_nil _ _⟩
   obtain ⟨vs, hv, _⟩ := R
   simp only [sem, hv, nilchkPV]; rfl
  ·cases H
   refine ⟨x.ev σ.fr, [], ?_, R, rdOk_nil _ _⟩
   obtain ⟨f, vs, xs, hv, _⟩ := R
   simp only [sem, hv, nilchkPV]; rfl
  ·cases H
 | bin op x y =>
  simp only [sxPure, obind_eq] at H
  obtain ⟨x', h1, y', h2, H⟩ := H
  obtain ⟨z, hz⟩ := good1 H hg
  have hx := Abs.fo_ok S h1
  have hy := Abs.fo_ok S h2
  refine PureOk.im H rfl hz (bin_im ?_)
  simpa only [X.ev, hx.2, hy.2, obind_some] using hz
 | eqs neg ks x y =>
  simp only [sxPure, obind_eq] at H
  obtain ⟨x', h1, y', h2, H⟩ := H
  obtain ⟨z, hz⟩ := good1 H hg
  have hx := Abs.fo_ok S h1
  have hy := Abs.fo_ok S h2
  have := eqs_im (v := x.ev σ.fr) (w := y.ev σ.fr) (by simpa only [X.ev, hx.2, hy.2, obind_some] using hz)
  exact PureOk.ret H this.1 this.2.1 (by rw [hz, this.2.2])
 | eqb neg x y =>
  simp only [sxPure, obind_eq] at H
  obtain ⟨x', h1, y', h2, H⟩ := H
  obtain ⟨z, hz⟩ := good1 H hg
  have hx := Abs.fo_ok S h1
  have hy := Abs.fo_ok S h2
  refine PureOk.im H rfl hz (eqb_im ?_)
  simpa only [X.ev, hx.2, hy.2, obind_some] using hz
 | eqn k neg x y =>
  simp only [sxPure, obind_eq] at H
  obtain ⟨x', h1, y', h2, H⟩ := H
  obtain ⟨z, hz⟩ := good1 H hg
  have hx := Abs.fo_ok S h1
  have hy := Abs.fo_ok S h2
  have hz' := hz
  simp only [X.ev, hx.2, hy.2, obind_some] at hz
  split at hz
  ·cases hz
  ·rename_i hk
   exact PureOk.im H rfl hz' (eqn_im hx.1 hy.1 hk hz)
 | un op x =>
  simp only [sxPure, obind_eq] at H
  obtain ⟨x', h1, H⟩ := H
  obtain ⟨z, hz⟩ := good1 H hg
  have hx := Abs.fo_ok S h1
  refine PureOk.im H rfl hz (un_im ?_)
  simpa only [X.ev, hx.2, obind_some] using hz
 | toInt k x =>
  simp only [sxPure, obind_eq] at H
  obtain ⟨x', h1, H⟩ := H
  obtain ⟨z, hz⟩ := good1 H hg
  have hx := Abs.fo_ok S h1
  have := toInt_im (v := x.ev σ.fr) (by simpa only [X.ev, hx.2, obind_some] using hz)
  exact PureOk.ret H this.1 this.2.1 (by rw [hz, this.2.2])
 | b2s x =>
  simp only [sxPure, obind_eq] at H
  obtain ⟨xv, h1, H⟩ := H
  have R := Abs.po_ok S h1
  split at H
  ·rename_i fs w wr s e
   cases H
   simp only [allGood, Bool.and_true] at hg
   obtain ⟨z, hz⟩ := Option.isSome_iff_exists.1 hg
   have hz' := hz
   obtain ⟨hv, x', T, he, _⟩ := R
   obtain ⟨es, Rr, k1, k2, k3, _, k4⟩ := T.elems
   simp only [X.ev, he, obind_some, k3, b2sV, Option.map_eq_some_iff] at hz
   obtain ⟨l, hl, rfl⟩ := hz
   refine ⟨.str l, Rr ++ [], ?_, ⟨rfl, by rw [hz']; rfl⟩, by rw [List.append_nil]; exact k4⟩
   have hns : (x.ev σ.fr).isStr = false := by
    rcases T with ⟨hq | hq, _⟩ | ⟨r, ver, off, len, room, c0, b, hq, _⟩ <;> rw [hq] <;> rfl
   simp only [sem, b2sHM, hns, Bool.false_eq_true, if_false]
   refine HM.runT_bind_of (R2 := []) (W := []) (W2 := []) k1 ?_
   rw [bytesOf_im hl]; rfl
  ·simp only [obind_eq] at H
   obtain ⟨e, h2, H⟩ := H
   obtain ⟨z, hz⟩ := good1 H hg
   have hx := fx_ok R h2
   have := b2s_im (v := x.ev σ.fr) (by simpa only [X.ev, hx.2, obind_some] using hz)
   exact PureOk.ret H this.1 this.2.1 (by rw [hz, this.2.2])
 | slice sz x lo hi mx =>
  simp only [sxPure, obind_eq] at H
  obtain ⟨l, hl, h', hh, m, hm, xv, h1, H⟩ := H
  have R := Abs.po_ok S h1
  have key : ∀ {e : X} {z : PV}, pl (x.ev σ.fr) = true → e.ev env = some (nrm (x.ev σ.fr)) → (X.slice sz e l h' m).ev env = some z → Imd (slice2PV sz (x.ev σ.fr) (evO (PO.ev σ.fr) lo) (evO (PO.ev σ.fr) hi) (evO (PO.ev σ.fr) mx)) z := by
   intro e z hp he hz
   simp only [X.ev, he, obind_some, obind_eq] at hz
   obtain ⟨lv, hlv, hv, hhv, mv, hmv, hz⟩ := hz
   have hz' := hz
   unfold sliceV at hz
   cases e1 : optV lv <;> rw [e1] at hz <;> try (cases hz; done)
   cases e2 : optV hv <;> rw [e2] at hz <;> try (cases hz; done)
   cases e3 : optV mv <;> rw [e3] at hz <;> try (cases hz; done)
   rw [Abs.bnd_ok S hl hlv e1, Abs.bnd_ok S hh hhv e2, Abs.bnd_ok S hm hmv e3]
   exact slice_im hp e1 e2 e3 hz'
  split at H
  ·rename_i e
   cases H
   simp only [allGood, Bool.and_true] at hg
   obtain ⟨z, hz⟩ := Option.isSome_iff_exists.1 hg
   have hp := isNil_pl R.1
   obtain ⟨v, k1, k2, k3⟩ := key hp.1 (by rw [hp.2]; exact R.2) hz
   have hnil : isNil v ∧ nrm v = .lst [] false := by
    rcases R.1 with hq | hq
    ·rw [hq] at k1
     simp only [slice2PV] at k1
     split at k1
     ·simp only [slicePV] at k1
      split at k1
      ·cases k1
      ·unfold sliceNils at k1
       split at k1
       ·split at k1
        ·cases k1; exact ⟨.inl rfl, rfl⟩
        ·cases k1
       ·cases k1
     ·cases k1
    ·rw [hq] at k1
     simp only [slice2PV] at k1
     split at k1
     ·simp only [slicePV] at k1
      split at k1
      ·cases k1
      ·rename_i hmx
       unfold sliceLst at k1
       split at k1
       ·rename_i q1 q2 q3
        split at k1
        ·rename_i hb
         simp only [List.length_nil] at hb
         cases k1
         refine ⟨.inr ?_, by simp [nrm, nrmL]⟩
         split
         ·simp; omega
         ·simp
        ·cases k1
       ·cases k1
     ·cases k1
   refine ⟨v, [], ?_, ⟨hnil.1, ?_⟩, rdOk_nil _ _⟩
   ·simp only [sem, k1]; rfl
   ·rw [hz, ← k3, hnil.2]
  ·simp only [obind_eq] at H
   obtain ⟨e, h2, H⟩ := H
   have hx := fx_ok R h2
   split at H
   ·rename_i hzero
    cases H
    simp only [allGood, Bool.and_true] at hg
    obtain ⟨z, hz⟩ := Option.isSome_iff_exists.1 hg
    obtain ⟨v, k1, k2, k3⟩ := key hx.1 hx.2 hz
    obtain ⟨z1, z2, z3, z4⟩ := hzero
    have e1 : evO (PO.ev σ.fr) lo = none ∨ evO (PO.ev σ.fr) lo = some (.int .i64 0) := by
     rcases z1 with rfl | rfl
     ·exact .inl (Abs.bnd_ok S hl rfl rfl)
     ·exact .inr (Abs.bnd_ok S hl rfl rfl)
    have e2 : evO (PO.ev σ.fr) hi = some (.int .i64 0) := by subst z2; exact Abs.bnd_ok S hh rfl rfl
    have e3 : evO (PO.ev σ.fr) mx = some (.int .i64 0) := by subst z3; exact Abs.bnd_ok S hm rfl rfl
    rw [e2, e3] at k1
    have hlo : optNat 0 (evO (PO.ev σ.fr) lo) = some 0 := by rcases e1 with e1 | e1 <;> rw [e1] <;> rfl
    have hnil : isNil v ∧ nrm v = .lst [] false := by
     simp only [slice2PV] at k1
     split at k1
     ·rename_i hs
      have hns : (x.ev σ.fr).isStr = false := by
       cases hq : (x.ev σ.fr).isStr with
       | false => rfl
       | true => rw [hq] at hs; exact absurd (by simpa using hs.symm) z4
      unfold slicePV at k1
      simp only [Option.isSome_some, Option.isNone_some, Bool.and_false, Bool.false_eq_true, if_false] at k1
      split at k1
      ·unfold sliceNils at k1
       split at k1
       ·split at k1
        ·cases k1; exact ⟨.inl rfl, rfl⟩
        ·cases k1
       ·cases k1
      ·rename_i hq; rw [hq] at hns; simp [PV.isStr] at hns
      ·rename_i es c0 hq
       unfold sliceLst at k1
       have e4 : optNat es.length (some (PV.int .i64 0)) = some 0 := rfl
       rw [hlo, e4] at k1
       simp only at k1
       split at k1
       ·cases k1
        exact ⟨.inr (by simp), by simp [nrm, nrmL]⟩
       ·cases k1
      ·rename_i hq; rw [hq] at hx; simp [pl] at hx
      ·cases k1
     ·cases k1
    refine ⟨v, [], ?_, ⟨hnil.1, ?_⟩, rdOk_nil _ _⟩
    ·simp only [sem, e2, e3, k1]; rfl
    ·rw [hz, ← k3, hnil.2]
   ·obtain ⟨z, hz⟩ := good1 H hg
    exact PureOk.im H rfl hz (key hx.1 hx.2 hz)
 | fieldAddr x off =>
  simp only [sxPure, obind_eq] at H
  obtain ⟨xv, h1, H⟩ := H
  have R := Abs.po_ok S h1
  split at H
  ·cases H
   simp only [Rel] at R
   exact ⟨_, [], by simp only [sem, R, fieldAddrPV, HM.ofO]; rfl, rfl, rdOk_nil _ _⟩
  ·rename_i e
   obtain ⟨z, hz⟩ := good1 H hg
   exact PureOk.im H rfl hz (fa_im R.1 (by simpa only [X.ev, R.2, obind_some] using hz))
  ·cases H
   simp only [Rel, EpAt] at R
   obtain ⟨r, ver, o, len, room, c0, b, x', k, n, T, he, hw, hi, hn0, hn1, hv⟩ := R
   exact ⟨_, [], by simp only [sem, hv, fieldAddrPV, HM.ofO]; rfl, ⟨r, ver, o, len, room, c0, b, x', k, n, T, he, hw, hi, hn0, hn1, rfl⟩, rdOk_nil _ _⟩
  ·cases H
 | field sz x off =>
  simp only [sxPure, obind_eq] at H
  obtain ⟨xv, h1, H⟩ := H
  have R := Abs.po_ok S h1
  split at H
  ·obtain ⟨vs, hv, hok, hR⟩ := R
   split at H
   ·simp only [obind_eq] at H
    obtain ⟨av, hav, H⟩ := H
    obtain ⟨v, hv', hR'⟩ := hR.get hav
    split at H
    ·cases H
    ·cases H
     exact ⟨v, [], by simp only [sem, hv, fieldPV, loadC, hv']; rfl, hR', rdOk_nil _ _⟩
   ·split at H
    ·rename_i m hm
     cases H
     rw [hR.len] at hm
     exact ⟨.agg ((vs.drop off).take m), [], by simp only [sem, hv, fieldPV, loadC, if_pos hm]; rfl, ⟨_, rfl, okCells_take (okCells_drop hok _) _, (hR.drop off).take m⟩, rdOk_nil _ _⟩
    ·cases H
  ·simp only [obind_eq] at H
   obtain ⟨e, h2, H⟩ := H
   have hx := fx_ok R h2
   obtain ⟨z, hz⟩ := good1 H hg
   obtain ⟨w, k1, k2, k3⟩ := fld_im hx.1 (by simpa only [X.ev, hx.2, obind_some] using hz)
   exact PureOk.ret H k1 k2 (by rw [hz, k3])
 | indexAddr sz x i =>
  simp only [sxPure, obind_eq] at H
  obtain ⟨i', hi, xv, h1, H⟩ := H
  have R := Abs.po_ok S h1
  have hi' := Abs.fo_ok S hi
  split at H
  ·rename_i fs w wr s e
   split at H
   ·rename_i hs
    subst hs
    cases H
    simp only [allGood, Bool.and_true] at hg
    obtain ⟨z, hz⟩ := Option.isSome_iff_exists.1 hg
    obtain ⟨hv, x', T, he, hwr⟩ := R
    simp only [X.ev, he, hi'.2, obind_some] at hz
    rcases T with ⟨_, hx'⟩ | ⟨r, ver, off, len, room, c0, b, T⟩
    ·subst hx'
     cases hq : nrm (i.ev σ.fr) <;> rw [hq] at hz <;> simp [indexAddrPV] at hz
    ·have T' := T
     obtain ⟨hT, hnm, hget, hs', ho, hr, hpl, hc, hx'⟩ := T
     cases hq : nrm (i.ev σ.fr) <;> rw [hq] at hz <;> try (simp [indexAddrPV] at hz; done)
     rename_i k n
     have hi2 := nrm_int hq
     have hlen : (nrmL (List.take len (List.drop off b.es))).length = len := by
      rw [nrmL_length, List.length_take, List.length_drop]; omega
     rw [hx'] at hz
     simp only [indexAddrPV, hlen] at hz
     split at hz
     ·rename_i hb
      refine ⟨.ptr r ver (off + n.toNat) 0, [], ?_, ⟨r, ver, off, len, room, c0, b, x', k, n, by rw [← hv]; exact T', he, fun h => by rw [← hv]; exact hwr h, by rw [hi'.2, hq], hb.1, hb.2, rfl⟩, rdOk_nil _ _⟩
      simp only [sem, hT, hi2, indexAddrPV]
      rw [if_pos ⟨trivial, hb.1, hb.2⟩]; rfl
     ·cases hz
   ·cases H
  ·simp only [obind_eq] at H
   obtain ⟨e, h2, H⟩ := H
   have hx := fx_ok R h2
   obtain ⟨z, hz⟩ := good1 H hg
   exact PureOk.im H rfl hz (ia_im hx.1 (by simpa only [X.ev, hx.2, hi'.2, obind_some] using hz))
 | idxArr n sz x i =>
  simp only [sxPure, obind_eq] at H
  obtain ⟨x', h1, y', h2, H⟩ := H
  obtain ⟨z, hz⟩ := good1 H hg
  have hx := Abs.fo_ok S h1
  have hy := Abs.fo_ok S h2
  refine PureOk.im H rfl hz (iaa_im hx.1 ?_)
  simpa only [X.ev, hx.2, hy.2, obind_some] using hz
 | extract x i =>
  simp only [sxPure, obind_eq] at H
  obtain ⟨xv, h1, H⟩ := H
  have R := Abs.po_ok S h1
  split at H
  ·simp only [obind_eq] at H
   obtain ⟨av, hav, H⟩ := H
   obtain ⟨vs, hv, hR⟩ := R
   obtain ⟨v, hv', hR'⟩ := hR.get hav
   split at H
   ·cases H
   ·cases H
    exact ⟨v, [], by simp only [sem, hv, extractPV, hv']; rfl, hR', rdOk_nil _ _⟩
  ·cases H
 | mkfn f caps =>
  simp only [sxPure] at H
  split at H
  ·rename_i hc
   simp only [List.isEmpty_iff] at hc
   subst hc
   exact PureOk.ret H (v := .fn f []) rfl rfl rfl
  ·simp only [obind_eq] at H
   obtain ⟨cs, h1, h2⟩ := H
   cases h2
   exact ⟨_, [], rfl, ⟨_, rfl, Abs.pos_ok S h1⟩, rdOk_nil _ _⟩
 | len x =>
  simp only [sxPure, obind_eq] at H
  obtain ⟨xv, h1, H⟩ := H
  have R := Abs.po_ok S h1
  split at H
  ·rename_i fs w wr s e
   obtain ⟨z, hz⟩ := good1 H hg
   obtain ⟨hv, x', T, he, _⟩ := R
   have hz' := hz
   simp only [X.ev, he, obind_some] at hz
   rcases T with ⟨hn, hx'⟩ | ⟨r, ver, off, len, room, c0, b, hT, hnm, hget, hs', ho, hr, hpl, hc, hx'⟩
   ·subst hx'
    simp only [lenV, Option.some.injEq] at hz
    subst hz
    refine PureOk.ret H (v := .int .i64 0) ?_ rfl (by rw [hz']; rfl)
    rcases hn with hq | hq <;> simp only [sem, hq, lenPV, HM.ofO, List.length_nil] <;> rfl
   ·subst hx'
    have hlen : (nrmL (List.take len (List.drop off b.es))).length = len := by
     rw [nrmL_length, List.length_take, List.length_drop]; omega
    simp only [lenV, Option.some.injEq, hlen] at hz
    subst hz
    refine PureOk.ret H (v := .int .i64 len) ?_ rfl (by rw [hz']; rfl)
    simp only [sem, hT, lenPV, HM.ofO]
  ·simp only [obind_eq] at H
   obtain ⟨e, h2, H⟩ := H
   have hx := fx_ok R h2
   obtain ⟨z, hz⟩ := good1 H hg
   exact PureOk.im H rfl hz (len_im (by simpa only [X.ev, hx.2, obind_some] using hz))
 | lenS x =>
  simp only [sxPure, obind_eq] at H
  obtain ⟨x', h1, H⟩ := H
  obtain ⟨z, hz⟩ := good1 H hg
  have hx := Abs.fo_ok S h1
  refine PureOk.im H rfl hz (lenS_im ?_)
  simpa only [X.ev, hx.2, obind_some] using hz
 | mm b xs =>
  simp only [sxPure, obind_eq] at H
  obtain ⟨l, h1, H⟩ := H
  obtain ⟨z, hz⟩ := good1 H hg
  have hx := Abs.fos_ok S h1
  have hz' := hz
  simp only [X.ev, hx.2, obind_some, listOf] at hz
  rcases mm_im hx.1 hz with ⟨k1, k2, k3⟩ | ⟨v, k1, k2, k3⟩
  ·exact PureOk.ret H k1 k2 (by rw [hz', k3])
  ·have hpv : pl v = true := by have := hx.1; rw [k1] at this; simp only [plL, Bool.and_true] at this; exact this
   exact PureOk.ret H (v := v) k3 hpv (by rw [hz', k2])
 | same x =>
  simp only [sxPure, obind_eq] at H
  obtain ⟨xv, h1, H⟩ := H
  have R := Abs.po_ok S h1
  split at H
  ·rename_i fs w s e
   split at H
   case isFalse => cases H
   rename_i hs1
   cases H
   simp only [allGood, Bool.and_true] at hg
   obtain ⟨z, hz⟩ := Option.isSome_iff_exists.1 hg
   have R' := R
   obtain ⟨hv, x', T, he, hwr⟩ := R
   simp only [X.ev, he, obind_some] at hz
   rcases T with ⟨hn, hx'⟩ | ⟨r, ver, off, len, room, c0, b, hT, hnm, hget, hs', ho, hr, hpl, hc, hx'⟩
   ·subst hx'; simp [posV] at hz
   ·have hlen : (nrmL (List.take len (List.drop off b.es))).length = len := by
     rw [nrmL_length, List.length_take, List.length_drop]; omega
    have hpos : 0 < len := by
     rw [hx'] at hz
     cases hq : nrmL (List.take len (List.drop off b.es)) with
     | nil => rw [hq] at hz; simp [posV] at hz
     | cons y ys => rw [hq] at hlen; simp at hlen; omega
    have hro : b.ro = false := by
     rcases hwr rfl with hn | ⟨r', ver', sz', off', len', room', b', hq, hq2, hq3, _⟩
     ·rcases hn with hn | hn <;> rw [hn] at hT <;> cases hT
     ·rw [hq] at hT; cases hT; rw [hget] at hq2; cases hq2; exact hq3
    refine ⟨x.ev σ.fr, [r], ?_, R', fun r' hr' => ?_⟩
    ·simp only [sem, hT, samePV, if_pos (And.intro hpos hs1)]
     refine HM.runT_bind_of (R := [r]) (R2 := []) (W := []) (W2 := []) (liveBlk_runT hget) ?_
     rw [if_pos hro]; rfl
    ·simp only [List.mem_singleton] at hr'; subst hr'; exact ⟨get_not_dead hget, hnm⟩
  ·cases H
 | _ => simp [sxPure] at H
end
end Gv

namespace Gv
open Go (IntKind BinOp UnOp)

def sn (st : Nat → Nat) (n : Nat) : Nat := if n % 2 = 0 then 2 * st (n / 2) else n
def Inv.sr (I : Inv) : Ref → Nat
 | .l s => 2 * I.st s
 | .a i => 2 * I.al i + 1
 | .dead => 0
theorem sr_nm {I : Inv} {c : Cx} (N : Nm I c) {r : Ref} (hr : r ≠ .dead) : sn I.st (c.nm r) = I.sr r := by
 cases r with
 | a i =>
  rw [N.a i]
  unfold sn
  rw [if_neg (by omega)]; rfl
 | l s =>
  obtain ⟨j, h1, h2⟩ := N.l s
  rw [h1]
  unfold sn
  rw [if_pos (by omega), show 2 * j / 2 = j by omega, h2]; rfl
 | dead => exact absurd rfl hr
def kpOk (kp S : List Nat) : Bool := kp.all fun k => !S.contains k
def inK (st : Nat → Nat) (S N : List Nat) (n : Nat) : Bool := S.contains (sn st n) || N.contains n
def isId (d : Option Nat) (w : Nat) : Bool := d == some w
def Abs.kill (st : Nat → Nat) (S N : List Nat) (d : Option Nat) (a : Abs) : Abs := a.keep (inK st S N) (isId d) (fun _ => false)
def AV.kill (st : Nat → Nat) (S N : List Nat) (d : Option Nat) (a : AV) : AV := a.keep (inK st S N) (isId d) (fun _ => false)
abbrev Mut (st : Nat → Nat) (S N : List Nat) (d : Option Nat) (c c' : Cx) (h h' : Heap) (env : Env) : Prop := Frm (inK st S N) (isId d) (fun _ => false) c c' h h' env env
theorem inK_false {st : Nat → Nat} {S N : List Nat} {n : Nat} : inK st S N n = false ↔ sn st n ∉ S ∧ n ∉ N := by simp [inK]
theorem Mut.of {st : Nat → Nat} {S N : List Nat} {d : Option Nat} {c c' : Cx} {h h' : Heap} {env : Env} (h1 : ∀ r, sn st (c.nm r) ∉ S → c.nm r ∉ N → h'.get r = h.get r ∧ c'.nm r = c.nm r)
  (h2 : ∀ w, d ≠ some w → c'.nu w = c.nu w ∧ c'.be w = c.be w) : Mut st S N d c c' h h' env where
 n r hr := h1 r (inK_false.1 hr).1 (inK_false.1 hr).2
 i w hw := h2 w (by intro he; subst he; simp [isId] at hw)
 v _ _ := rfl
def FlOk (I : Inv) (h h' : Heap) : Prop := ∀ i ver b, h'.get (.a i) = some ⟨ver, some b⟩ → (∃ ver' b', h.get (.a i) = some ⟨ver', some b'⟩ ∧ b'.es = b.es) ∨ plL b.es = true ∨ I.fl (I.al i) = false
theorem FlOk.put_l (I : Inv) (h : Heap) (s : Nat) (e : Ent) : FlOk I h (h.put (.l s) e) := fun i ver b hg => .inl ⟨ver, b, by rw [← hg]; exact (Heap.get_put_other (by intro h; cases h)).symm, rfl⟩
theorem FlOk.refl (I : Inv) (h : Heap) : FlOk I h h := fun _i ver b hg => .inl ⟨ver, b, hg, rfl⟩
theorem FlOk.trans {I : Inv} {h h1 h2 : Heap} (A : FlOk I h h1) (B : FlOk I h1 h2) : FlOk I h h2 := fun i ver b hg => by
 rcases B i ver b hg with ⟨v, b', k, e⟩ | k
 ·rcases A i v b' k with ⟨v2, b2, k2, e2⟩ | k2 | k2
  ·exact .inl ⟨v2, b2, k2, e2.trans e⟩
  ·exact .inr (.inl (by rw [← e]; exact k2))
  ·exact .inr (.inr k2)
 ·exact .inr k
theorem Sim.mutate {I : Inv} {c c' : Cx} {a : Abs} {env : Env} {fr : List PV} {h h' : Heap} {S N : List Nat} {d : Option Nat} (Sm : Sim I c a env ⟨fr, h⟩) (M : Mut I.st S N d c c' h h' env) (hn : Nm I c')
  (hL : h'.L.length = h.L.length) (hA : h'.A.length = h.A.length) (hodd : ∀ k ∈ I.kp, k % 2 = 1) (hk : kpOk I.kp (S ++ N) = true) (hf : FlOk I h h') : Sim I c' (a.kill I.st S N d) env ⟨fr, h'⟩ := by
 refine Sim.keep M Sm hn (by rw [hL]; exact Sm.hl) (by rw [hA]; exact Sm.ha) (fun r hr => ?_) fun i ver b hfl hg => ?_
 rotate_left
 ·rcases hf i ver b hg with ⟨ver', b', h1, h2⟩ | h1 | h1
  ·rw [← h2]; exact Sm.fl i ver' b' hfl h1
  ·exact h1
  ·rw [hfl] at h1; cases h1
 have hod := hodd _ hr
 cases r with
 | l s => obtain ⟨j, h1, _⟩ := hn.l s; omega
 | dead => exact .inl rfl
 | a i =>
  have e : c'.nm (.a i) = c.nm (.a i) := by rw [hn.a i, Sm.nm.a i]
  have hnot : inK I.st S N (c.nm (.a i)) = false := by
   rw [← e]
   have h0 := List.all_eq_true.1 hk _ hr
   simp only [List.contains_eq_mem, List.mem_append, Bool.not_eq_true', decide_eq_false_iff_not, not_or] at h0
   have h1 : sn I.st (c'.nm (.a i)) = c'.nm (.a i) := by unfold sn; rw [if_neg (by omega)]
   exact inK_false.2 ⟨by rw [h1]; exact h0.1, h0.2⟩
  have := M.n (.a i) hnot
  rw [this.1]
  exact Sm.kp (.a i) (by rw [← e]; exact hr)
theorem put_len (h : Heap) (r : Ref) (e : Ent) : (h.put r e).L.length = h.L.length ∧ (h.put r e).A.length = h.A.length := by
 have := Heap.put_lens h r e; exact ⟨this.2, this.1⟩
def Cx.new (c : Cx) (s d : Nat) (ver : Nat) (v : PV) : Cx where
 nm r := if r = .l s then 2 * s else c.nm r
 nu w := if w = d then v else c.nu w
 be w := if w = d then (.l s, ver) else c.be w
theorem Nm.new {I : Inv} {c : Cx} (N : Nm I c) (s d ver : Nat) (v : PV) : Nm I (c.new s d ver v) where
 l t := by
  by_cases ht : t = s
  ·subst ht; exact ⟨t, by simp [Cx.new], rfl⟩
  ·simpa [Cx.new, ht] using N.l t
 a i := by simpa [Cx.new] using N.a i
theorem new_mut {I : Inv} {c : Cx} {a : Abs} {env : Env} {fr : List PV} {h : Heap} (Sm : Sim I c a env ⟨fr, h⟩) {s d : Nat} (b : Ent) (v : PV) : Mut I.st [2 * I.st s] [] (some d) c (c.new s d b.ver v) h (h.put (.l s) b) env := by
 refine Mut.of (fun r hr _ => ?_) fun w hw => ?_
 ·have hne : r ≠ .l s := by
   rintro rfl
   apply hr
   rw [sr_nm Sm.nm (by intro h; cases h)]
   simp [Inv.sr]
  exact ⟨Heap.get_put_other hne, by simp [Cx.new, hne]⟩
 ·have : w ≠ d := fun e => hw (by rw [e])
  simp [Cx.new, this]
theorem newBlk_runT {s : Nat} {b : Blk} {h : Heap} {e : Ent} (hg : h.get (.l s) = some e) : (newBlk s b).runT h = some (e.ver + 1, h.put (.l s) ⟨e.ver + 1, some b⟩, [.l s], [.l s]) := by
 simp [newBlk, HM.runT, hg]
theorem slot_get {h : Heap} {s n : Nat} (hL : h.L.length = n) (hs : s < n) : ∃ e, h.get (.l s) = some e := by
 simp only [Heap.get]
 exact ⟨_, List.getElem?_eq_getElem (by omega)⟩
structure Res where
 av : AV
 a : Abs
 ns : List X
 rd : List Nat
 wr : List Nat
def trOk (I : Inv) (S : List Nat) (l : List Ref) : Prop := ∀ r ∈ l, r ≠ .dead ∧ I.sr r ∈ S
def HeapOk (I : Inv) (c : Cx) (_a : Abs) (env : Env) (σ : St) (d : Option Nat) (m : HM PV) (r : Res) : Prop :=
 ∃ v h' R W c', m.runT σ.h = some (v, h', R, W) ∧ Sim I c' r.a env ⟨σ.fr, h'⟩ ∧ Rel c' h' env r.av v ∧ trOk I r.rd R ∧ trOk I r.wr W ∧ (∀ i, c'.nm (.a i) = c.nm (.a i)) ∧ (∀ w, d ≠ some w → c'.be w = c.be w) ∧ FlOk I σ.h h'
theorem new_be {c : Cx} {s d ver : Nat} {v : PV} : ∀ w, some d ≠ some w → (c.new s d ver v).be w = c.be w := fun w hw => by
 have : w ≠ d := fun e => hw (by rw [e])
 simp [Cx.new, this]
theorem newSlice_ok {I : Inv} {c : Cx} {a : Abs} {env : Env} {σ : St} (S : Sim I c a env σ) (hodd : ∀ k ∈ I.kp, k % 2 = 1) {s d : Nat} (hs : s < I.ns) (hk : kpOk I.kp [2 * I.st s] = true) {sz : Nat} {es : List PV} {e : X}
  (hp : plL es = true) (hc : ∀ x ∈ es, x.cells.length = sz) (he : e.ev env = some (.lst (nrmL es) false)) {m : HM PV}
  (hm : m = (newBlk s ⟨sz, es, false⟩).bind fun v => .ret (.tok (.l s) v sz 0 es.length es.length false)) {ns : List X} :
  HeapOk I c a env σ (some d) m ⟨.O [2 * s] d true sz e, a.kill I.st [2 * I.st s] [] (some d), ns, [2 * I.st s], [2 * I.st s]⟩ := by
 obtain ⟨e0, hg⟩ := slot_get S.hl hs
 have hg' : (σ.h.put (.l s) ⟨e0.ver + 1, some ⟨sz, es, false⟩⟩).get (.l s) = some ⟨e0.ver + 1, some ⟨sz, es, false⟩⟩ := Heap.get_put_same hg (by intro i h; cases h)
 have S' : Sim I c a env ⟨σ.fr, σ.h⟩ := S
 have hT : trOk I [2 * I.st s] [.l s] := fun r hr => by
  simp only [List.mem_singleton] at hr; subst hr; exact ⟨(by intro h; cases h), by simp [Inv.sr]⟩
 refine ⟨.tok (.l s) (e0.ver + 1) sz 0 es.length es.length false, σ.h.put (.l s) ⟨e0.ver + 1, some ⟨sz, es, false⟩⟩, [.l s], [.l s], c.new s d (e0.ver + 1) (.tok (.l s) (e0.ver + 1) sz 0 es.length es.length false), ?_, ?_, ?_, hT, hT, ?_, new_be, .put_l _ _ _ _⟩
 ·subst hm
  have := HM.runT_bind_of (f := fun v => HM.ret (PV.tok (.l s) v sz 0 es.length es.length false)) (R2 := []) (W2 := []) (newBlk_runT (b := ⟨sz, es, false⟩) hg) rfl
  simpa using this
 ·exact S'.mutate (new_mut S' ⟨e0.ver + 1, some ⟨sz, es, false⟩⟩ (PV.tok (.l s) (e0.ver + 1) sz 0 es.length es.length false)) (S.nm.new _ _ _ _) (put_len _ _ _).1 (put_len _ _ _).2 hodd hk (.put_l _ _ _ _)
 ·refine ⟨by simp [Cx.new], .lst (nrmL es) false, .inr ⟨.l s, e0.ver + 1, 0, es.length, es.length, false, ⟨sz, es, false⟩, rfl, by simp [Cx.new], hg', rfl, by simp, by simp, hp, hc, by simp⟩, he, fun _ => ?_⟩
  exact .inr ⟨.l s, e0.ver + 1, sz, 0, es.length, es.length, ⟨sz, es, false⟩, rfl, hg', rfl, by simp⟩
 ·intro i; simp [Cx.new]

def Abs.fits (a : Abs) (sz : Option Nat) : List PO → Option (X × List X)
 | [] => some (.nl, [])
 | x :: xs => obind (a.fo x) fun e => obind (a.fits sz xs) fun l => some (.cn e l.1, needChk sz e ++ l.2)
theorem fits_len {v : PV} {sz : Option Nat} (h : v.fits sz = true) : v.cells.length = sz.getD 1 := by
 cases sz <;> cases v <;> simp_all [PV.fits, PV.cells]
theorem Abs.fits_ok {I : Inv} {c : Cx} {a : Abs} {env : Env} {σ : St} (S : Sim I c a env σ) {sz : Option Nat} : ∀ {xs : List PO} {l : X × List X}, a.fits sz xs = some l → allGood env l.2 = true →
  plL (evL (PO.ev σ.fr) xs) = true ∧ l.1.ev env = some (.tup (nrmL (evL (PO.ev σ.fr) xs))) ∧ okElems sz (evL (PO.ev σ.fr) xs) = true ∧ ∀ x ∈ evL (PO.ev σ.fr) xs, x.cells.length = sz.getD 1
 | [], l, H, _ => by cases H; exact ⟨rfl, rfl, rfl, fun _ h => by cases h⟩
 | x :: xs, l, H, hg => by
  simp only [Abs.fits, obind_eq] at H
  obtain ⟨e, h1, l', h2, h3⟩ := H
  cases h3
  simp only [allGood_app, Bool.and_eq_true] at hg
  have q1 := Abs.fo_ok S h1
  obtain ⟨k1, k2, k3, k4⟩ := Abs.fits_ok S h2 hg.2
  have q2 := needChk_ok q1.2 hg.1 q1.1
  refine ⟨by simp only [evL, plL, q1.1, k1, Bool.and_self], by simp only [X.ev, q1.2, k2, obind_some, evL, nrmL], by simp only [evL, okElems, q2.1, q2.2, k3, Bool.and_self], fun y hy => ?_⟩
  simp only [evL, List.mem_cons] at hy
  rcases hy with rfl | hy
  ·exact fits_len q2.1
  ·exact k4 y hy
def sxSlice (st : Nat → Nat) (kp : List Nat) (ns : Nat) (a : Abs) (d : Nat) (s sz : Nat) (e : X) (needs : List X) : Option Res :=
 if s < ns ∧ kpOk kp [2 * st s] then some ⟨.O [2 * s] d true sz e, a.kill st [2 * st s] [] (some d), needs, [2 * st s], [2 * st s]⟩ else none
def sxBuildSlice (st : Nat → Nat) (kp : List Nat) (ns : Nat) (a : Abs) (d : Nat) (sz : Option Nat) (parts : List PO) (s : Nat) : Option Res :=
 obind (a.fits sz parts) fun l => sxSlice st kp ns a d s (sz.getD 1) (.lst l.1) l.2
theorem buildSlice_okV {I : Inv} {c : Cx} {a : Abs} {env : Env} {σ : St} (S : Sim I c a env σ) (hodd : ∀ k ∈ I.kp, k % 2 = 1) {d : Nat} {sz : Option Nat} {parts : List PO} {s : Nat} {r : Res}
  (H : sxBuildSlice I.st I.kp I.ns a d sz parts s = some r) (hg : allGood env r.ns = true) : HeapOk I c a env σ (some d) (buildSliceHM sz (evL (PO.ev σ.fr) parts) s) r := by
 simp only [sxBuildSlice, obind_eq, sxSlice] at H
 obtain ⟨l, h1, H⟩ := H
 split at H
 ·rename_i hc
  cases H
  obtain ⟨k1, k2, k3, k4⟩ := Abs.fits_ok S h1 hg
  refine newSlice_ok S hodd hc.1 hc.2 k1 k4 (by simp only [X.ev, k2, obind_some, listOf]) ?_
  simp only [buildSliceHM, k3, if_true]
 ·cases H
def sxS2b (st : Nat → Nat) (kp : List Nat) (ns : Nat) (a : Abs) (d : Nat) (x : PO) (s : Nat) : Option Res :=
 obind (a.fo x) fun e => sxSlice st kp ns a d s 1 (.s2b e) [.s2b e]
theorem s2b_okV {I : Inv} {c : Cx} {a : Abs} {env : Env} {σ : St} (S : Sim I c a env σ) (hodd : ∀ k ∈ I.kp, k % 2 = 1) {d : Nat} {x : PO} {s : Nat} {r : Res}
  (H : sxS2b I.st I.kp I.ns a d x s = some r) (hg : allGood env r.ns = true) : HeapOk I c a env σ (some d) (s2bHM (x.ev σ.fr) s) r := by
 simp only [sxS2b, obind_eq, sxSlice] at H
 obtain ⟨e, h1, H⟩ := H
 split at H
 ·rename_i hc
  cases H
  have hx := Abs.fo_ok S h1
  simp only [allGood, Bool.and_true] at hg
  obtain ⟨z, hz⟩ := Option.isSome_iff_exists.1 hg
  have hz' := hz
  simp only [X.ev, hx.2, obind_some] at hz
  obtain ⟨l, k1, k2, k3⟩ := s2b_im hz
  have hpl : plL (l.map fun b => PV.int .u8 b.toNat) = true := plL_iff.2 fun y hy => by obtain ⟨b, _, rfl⟩ := List.mem_map.1 hy; rfl
  have hnr : nrmL (l.map fun b => PV.int .u8 b.toNat) = l.map fun b => PV.int .u8 b.toNat := by rw [nrmL_map, List.map_map]; rfl
  refine newSlice_ok S hodd hc.1 hc.2 hpl (fun y hy => by obtain ⟨b, _, rfl⟩ := List.mem_map.1 hy; rfl) (by rw [hz', k3, hnr]) ?_
  simp only [k1, s2bHM, k2, if_true, List.length_map]
 ·cases H
def sxMkslice (st : Nat → Nat) (kp : List Nat) (ns : Nat) (a : Abs) (d : Nat) (sz : Nat) (z : PV) (n : PO) (s : Nat) : Option Res :=
 obind (ofPV z) fun ze => obind (a.fo n) fun e => sxSlice st kp ns a d s sz (.mks sz ze e) [.mks sz ze e]
theorem mkslice_okV {I : Inv} {c : Cx} {a : Abs} {env : Env} {σ : St} (S : Sim I c a env σ) (hodd : ∀ k ∈ I.kp, k % 2 = 1) {d sz : Nat} {z : PV} {n : PO} {s : Nat} {r : Res}
  (H : sxMkslice I.st I.kp I.ns a d sz z n s = some r) (hg : allGood env r.ns = true) : HeapOk I c a env σ (some d) (mksliceHM sz z (n.ev σ.fr) s) r := by
 simp only [sxMkslice, obind_eq, sxSlice] at H
 obtain ⟨ze, h0, e, h1, H⟩ := H
 split at H
 ·rename_i hc
  cases H
  have hx := Abs.fo_ok S h1
  have hz0 := ofPV_ok env h0
  simp only [allGood, Bool.and_true] at hg
  obtain ⟨y, hy⟩ := Option.isSome_iff_exists.1 hg
  have hy' := hy
  simp only [X.ev, hx.2, hz0.2, obind_some, mksV] at hy
  split at hy
  ·rename_i k m hm
   have hn := nrm_int hm
   split at hy
   ·rename_i hb
    cases hy
    have hrep : ∀ y ∈ List.replicate m.toNat z, y = z := fun y hy => (List.mem_replicate.1 hy).2
    rw [nrm_cells_len, nrm_cells, nrm_okCells] at hb
    refine newSlice_ok S hodd hc.1 hc.2 (es := List.replicate m.toNat z) (plL_iff.2 fun y hy => by rw [hrep y hy]; exact hz0.1) (fun y hy => by rw [hrep y hy]; exact hb.2.2.1) (by rw [hy', nrmL_map, List.map_replicate]) ?_
    simp only [hn, mksliceHM, List.length_replicate]
    rw [if_pos hb]
   ·cases hy
  ·cases hy
 ·cases H

def sxBox (st : Nat → Nat) (kp : List Nat) (ns : Nat) (a : Abs) (d : Nat) (sz : Option Nat) (x : PO) (s : Nat) : Option Res :=
 obind (a.po x) fun xv => obind (cellsOf sz xv) fun cn =>
  if s < ns ∧ kpOk kp [2 * st s] then
   some ⟨.P d 0, ⟨(a.kill st [2 * st s] [] (some d)).t, ⟨d, false, [2 * s], cn.1.map (AV.kill st [2 * st s] [] (some d))⟩ :: (a.kill st [2 * st s] [] (some d)).b⟩, cn.2, [2 * st s], [2 * st s]⟩ else none
theorem box_okV {I : Inv} {c : Cx} {a : Abs} {env : Env} {σ : St} (S : Sim I c a env σ) (hodd : ∀ k ∈ I.kp, k % 2 = 1) {d : Nat} {sz : Option Nat} {x : PO} {s : Nat} {r : Res}
  (H : sxBox I.st I.kp I.ns a d sz x s = some r) (hg : allGood env r.ns = true) : HeapOk I c a env σ (some d) (boxHM sz (x.ev σ.fr) s) r := by
 simp only [sxBox, obind_eq] at H
 obtain ⟨xv, h1, cn, h2, H⟩ := H
 split at H
 ·rename_i hc
  cases H
  obtain ⟨k1, k2, k3⟩ := cellsOf_ok (Abs.po_ok S h1) h2 hg
  obtain ⟨e0, hge⟩ := slot_get S.hl hc.1
  generalize hx : x.ev σ.fr = v at *
  have hg' : (σ.h.put (.l s) ⟨e0.ver + 1, some ⟨v.cells.length, [v], false⟩⟩).get (.l s) = some ⟨e0.ver + 1, some ⟨v.cells.length, [v], false⟩⟩ := Heap.get_put_same hge (by intro i h; cases h)
  have S' : Sim I c a env ⟨σ.fr, σ.h⟩ := S
  have hT : trOk I [2 * I.st s] [.l s] := fun r hr => by
   simp only [List.mem_singleton] at hr; subst hr; exact ⟨(by intro h; cases h), by simp [Inv.sr]⟩
  have M := new_mut S' (s := s) (d := d) ⟨e0.ver + 1, some ⟨v.cells.length, [v], false⟩⟩ .junk
  have S1 := S'.mutate M (S.nm.new _ _ _ _) (put_len _ _ _).1 (put_len _ _ _).2 hodd hc.2 (.put_l _ _ _ _)
  refine ⟨.ptr (.l s) (e0.ver + 1) 0 0, σ.h.put (.l s) ⟨e0.ver + 1, some ⟨v.cells.length, [v], false⟩⟩, [.l s], [.l s], c.new s d (e0.ver + 1) .junk, ?_, ⟨S1.fr, S1.tm, fun y hy => ?_, S1.nm, S1.hl, S1.ha, S1.kp, S1.fl⟩, ?_, hT, hT, ?_, new_be, .put_l _ _ _ _⟩
  ·simp only [boxHM]
   rw [if_pos ⟨k1, k2⟩]
   have := HM.runT_bind_of (f := fun v => HM.ret (PV.ptr (.l s) v 0 0)) (R2 := []) (W2 := []) (newBlk_runT (b := ⟨v.cells.length, [v], false⟩) hge) rfl
   simpa using this
  ·rcases List.mem_cons.1 hy with rfl | hy
   ·refine ⟨v.cells.length, v, false, by simp [Cx.new], ?_, fun _ => rfl, k2, k3.keep M⟩
    simp only [Cx.new, if_true]
    exact hg'
   ·exact S1.bx y hy
  ·simp [Rel, Cx.new]
  ·intro i; simp [Cx.new]
 ·cases H

def flBox (fl : Nat → Bool) (fs : List Nat) : Bool := fs.all fun n => n % 2 == 0 || !fl (n / 2)
def sxStoreP (st : Nat → Nat) (fl : Nat → Bool) (kp : List Nat) (a : Abs) (sz : Option Nat) (b o : Nat) (y : PO) : Option Res :=
 obind (a.box b) fun bx => obind (a.po y) fun yv => obind (cellsOf sz yv) fun ln =>
  if bx.ro = false ∧ o + ln.1.length ≤ bx.cs.length ∧ kpOk kp bx.fs ∧ flBox fl bx.fs then
   some ⟨.D, ⟨(a.kill st [] bx.fs none).t, ⟨b, false, bx.fs, (bx.cs.take o ++ ln.1 ++ bx.cs.drop (o + ln.1.length)).map (AV.kill st [] bx.fs none)⟩ :: (a.kill st [] bx.fs none).b⟩, ln.2, bx.fs.map (sn st), bx.fs.map (sn st)⟩ else none
theorem withCells_ok {e : PV} {cs : List PV} (ho : okCells e.cells = true) (hl : cs.length = e.cells.length) (hc : okCells cs = true) : (e.withCells cs).cells = cs := by
 cases e with
 | agg es => rfl
 | _ =>
  simp only [PV.cells, List.length_cons, List.length_nil] at hl
  obtain ⟨x, rfl⟩ := List.length_eq_one_iff.1 hl
  simp only [PV.withCells, List.headD_cons]
  simp only [okCells, Bool.and_true] at hc
  cases x <;> first | rfl | (simp [PV.isCell] at hc; done)
theorem storeP_core {I : Inv} {c : Cx} {a : Abs} {env : Env} {fr : List PV} {h : Heap} (S : Sim I c a env ⟨fr, h⟩) (hodd : ∀ k ∈ I.kp, k % 2 = 1) {sz : Option Nat} {b o : Nat} {bx : BX} {ln : List AV} {v : PV} (h1 : a.box b = some bx)
  (k1 : v.fits sz = true) (k2 : okCells v.cells = true) (k3 : RelL c h env ln v.cells) (hc1 : bx.ro = false) (hc2 : o + ln.length ≤ bx.cs.length) (hc3 : kpOk I.kp bx.fs = true) (hc4 : flBox I.fl bx.fs = true) :
  ∃ h', (storeHM sz (.ptr (c.be b).1 (c.be b).2 0 o) v).runT h = some (.junk, h', [(c.be b).1], [(c.be b).1]) ∧ Sim I c ⟨(a.kill I.st [] bx.fs none).t, ⟨b, false, bx.fs, (bx.cs.take o ++ ln ++ bx.cs.drop (o + ln.length)).map (AV.kill I.st [] bx.fs none)⟩ :: (a.kill I.st [] bx.fs none).b⟩ env ⟨fr, h'⟩ ∧
   trOk I (bx.fs.map (sn I.st)) [(c.be b).1] ∧ FlOk I h h' := by
 obtain ⟨hid, n, e, ro, hn, hget, hro, hok, hR⟩ := Abs.box_ok S h1
 rw [hid] at hn hget
 have hro' := hro hc1
 subst hro'
 have hlen := k3.len
 have hle : o + v.cells.length ≤ e.cells.length := by rw [← hlen, ← hR.len]; exact hc2
 have hcl : (e.cells.take o ++ v.cells ++ e.cells.drop (o + v.cells.length)).length = e.cells.length := by
  simp only [List.length_append, List.length_take, List.length_drop]; omega
 have hoc : okCells (e.cells.take o ++ v.cells ++ e.cells.drop (o + v.cells.length)) = true := by
  simp only [okCells_app, okCells_take hok, k2, okCells_drop hok, Bool.and_self]
 have hwc := withCells_ok hok hcl hoc
 generalize hnb : e.withCells (e.cells.take o ++ v.cells ++ e.cells.drop (o + v.cells.length)) = e' at *
 have hver : ∀ i, (c.be b).1 = .a i → (⟨(c.be b).2, some ⟨n, [e'], false⟩⟩ : Ent).ver = 0 := fun i hi => by
  rw [hi] at hget; have h0 := Heap.ver_a hget; exact h0
 have hg' := Heap.get_put_same (e' := ⟨(c.be b).2, some ⟨n, [e'], false⟩⟩) hget hver
 have hnd := get_not_dead hget
 have hsr : I.sr (c.be b).1 ∈ bx.fs.map (sn I.st) := by
  rw [← sr_nm S.nm hnd]; exact List.mem_map_of_mem hn
 have hT : trOk I (bx.fs.map (sn I.st)) [(c.be b).1] := fun r hr => by
  simp only [List.mem_singleton] at hr; subst hr; exact ⟨hnd, hsr⟩
 have M : Mut I.st [] bx.fs none c c h (h.put (c.be b).1 ⟨(c.be b).2, some ⟨n, [e'], false⟩⟩) env := by
  refine Mut.of (fun r _ hr => ⟨Heap.get_put_other ?_, rfl⟩) fun w _ => ⟨rfl, rfl⟩
  rintro rfl
  exact hr hn
 have hfl : FlOk I h (h.put (c.be b).1 ⟨(c.be b).2, some ⟨n, [e'], false⟩⟩) := fun i ver b' hgi => by
  by_cases hi : Ref.a i = (c.be b).1
  ·right; right
   rw [← hi, S.nm.a i] at hn
   have := List.all_eq_true.1 hc4 _ hn
   rw [show (2 * I.al i + 1) / 2 = I.al i by omega] at this
   have h2 : ((2 * I.al i + 1) % 2 == 0) = false := by simp
   rw [h2] at this
   simpa using this
  ·exact .inl ⟨ver, b', by rw [← hgi]; exact (Heap.get_put_other hi).symm, rfl⟩
 have S1 := S.mutate M S.nm (put_len _ _ _).1 (put_len _ _ _).2 hodd hc3 hfl
 refine ⟨h.put (c.be b).1 ⟨(c.be b).2, some ⟨n, [e'], false⟩⟩, ?_, ⟨S1.fr, S1.tm, fun z hz => ?_, S1.nm, S1.hl, S1.ha, S1.kp, S1.fl⟩, hT, hfl⟩
 ·simp only [storeHM]
  refine HM.runT_bind_of (R := [(c.be b).1]) (R2 := []) (W := []) (W2 := [(c.be b).1]) (liveBlk_runT hget) ?_
  simp only [List.getElem?_cons_zero]
  rw [if_pos ⟨k1, k2, hle, trivial⟩]
  simp only [HM.runT, hget, List.set_cons_zero, hnb]
 ·rcases List.mem_cons.1 hz with rfl | hz
  ·refine ⟨n, e', false, hn, hg', fun _ => rfl, by rw [hwc]; exact hoc, ?_⟩
   rw [hwc]
   refine RelL.keep M (((hR.take o).app k3).app ?_)
   rw [hlen]; exact hR.drop _
  ·exact S1.bx z hz
theorem storeP_okV {I : Inv} {c : Cx} {a : Abs} {env : Env} {σ : St} (S : Sim I c a env σ) (hodd : ∀ k ∈ I.kp, k % 2 = 1) {d : Option Nat} {sz : Option Nat} {b o : Nat} {y : PO} {r : Res} {xv : PV} (hx : Rel c σ.h env (.P b o) xv)
  (H : sxStoreP I.st I.fl I.kp a sz b o y = some r) (hg : allGood env r.ns = true) : HeapOk I c a env σ d (storeHM sz xv (y.ev σ.fr)) r := by
 simp only [sxStoreP, obind_eq] at H
 obtain ⟨bx, h1, yv, h2, ln, h3, H⟩ := H
 split at H
 ·rename_i hc
  cases H
  obtain ⟨k1, k2, k3⟩ := cellsOf_ok (Abs.po_ok S h2) h3 hg
  simp only [Rel] at hx
  obtain ⟨h', g1, g2, g3, g4⟩ := storeP_core (S : Sim I c a env ⟨σ.fr, σ.h⟩) hodd h1 k1 k2 k3 hc.1 hc.2.1 hc.2.2.1 hc.2.2.2
  exact ⟨.junk, h', _, _, c, by rw [hx]; exact g1, g2, trivial, g3, g3, fun _ => rfl, fun _ _ => rfl, g4⟩
 ·cases H
end Gv

namespace Gv
open Go (IntKind BinOp UnOp)

mutual
def reupA (st : Nat → Nat) (S N : List Nat) (w : Nat) (new : AV) : AV → AV
 | .O fs w' wr sz e => if w' = w then new else AV.kill st S N none (.O fs w' wr sz e)
 | .A cs => .A (reupL st S N w new cs)
 | a => AV.kill st S N none a
def reupL (st : Nat → Nat) (S N : List Nat) (w : Nat) (new : AV) : List AV → List AV
 | [] => []
 | a :: as => reupA st S N w new a :: reupL st S N w new as
end
theorem Rel.keep1 {nf idf vf : Nat → Bool} {c c' : Cx} {h h' : Heap} {env env' : Env} (M : Frm nf idf vf c c' h h' env env') {a : AV} {v : PV} (R : Rel c h env a v) : Rel c' h' env' (a.keep nf idf vf) v := by
 simp only [AV.keep]
 split
 ·rename_i ho; exact Rel.frame M ho R
 ·trivial
section
variable {st : Nat → Nat} {S N : List Nat} {c c' : Cx} {h h' : Heap} {env : Env} {w : Nat} {new : AV}
mutual
theorem Rel.reup (M : Mut st S N none c c' h h' env) (hn : Rel c' h' env new (c.nu w)) : ∀ {a : AV} {v : PV}, Rel c h env a v → Rel c' h' env (reupA st S N w new a) v
 | .O fs w' wr sz e, v, R => by
  simp only [reupA]
  split
  ·rename_i hw; subst hw; rw [R.1]; exact hn
  ·exact Rel.keep1 M R
 | .A cs, v, R => by
  obtain ⟨vs, h1, h2, h3⟩ := R
  exact ⟨vs, h1, h2, RelL.reup M hn h3⟩
 | .D, v, R => Rel.keep1 M R
 | .F e, v, R => Rel.keep1 M R
 | .N e, v, R => Rel.keep1 M R
 | .Q .., v, R => Rel.keep1 M R
 | .P .., v, R => Rel.keep1 M R
 | .EP .., v, R => Rel.keep1 M R
 | .C .., v, R => Rel.keep1 M R
 | .L .., v, R => Rel.keep1 M R
 | .T .., v, R => Rel.keep1 M R
 | .G .., v, R => Rel.keep1 M R
theorem RelL.reup (M : Mut st S N none c c' h h' env) (hn : Rel c' h' env new (c.nu w)) : ∀ {as : List AV} {vs : List PV}, RelL c h env as vs → RelL c' h' env (reupL st S N w new as) vs
 | [], [], _ => trivial
 | a :: as, v :: vs, R => ⟨Rel.reup M hn R.1, RelL.reup M hn R.2⟩
 | [], _ :: _, R => by cases R
 | _ :: _, [], R => by cases R
end
end
def Abs.reup (st : Nat → Nat) (S N : List Nat) (w : Nat) (new : AV) (a : Abs) : Abs :=
 ⟨a.t.map fun p => (p.1, reupA st S N w new p.2), (a.b.filter fun x => x.fs.all fun n => !inK st S N n).map fun x => ⟨x.id, x.ro, x.fs, reupL st S N w new x.cs⟩⟩
theorem Sim.reup {I : Inv} {c c' : Cx} {a : Abs} {env : Env} {fr : List PV} {h h' : Heap} {S N : List Nat} {w : Nat} {new : AV} (Sm : Sim I c a env ⟨fr, h⟩) (M : Mut I.st S N none c c' h h' env) (hn : Nm I c')
  (hL : h'.L.length = h.L.length) (hA : h'.A.length = h.A.length) (hodd : ∀ k ∈ I.kp, k % 2 = 1) (hk : kpOk I.kp (S ++ N) = true) (hf : FlOk I h h') (hnew : Rel c' h' env new (c.nu w)) : Sim I c' (a.reup I.st S N w new) env ⟨fr, h'⟩ := by
 have S1 := Sm.mutate M hn hL hA hodd hk hf
 refine ⟨S1.fr, fun p hp => ?_, fun x hx => ?_, S1.nm, S1.hl, S1.ha, S1.kp, S1.fl⟩
 ·obtain ⟨q, hq, rfl⟩ := List.mem_map.1 hp
  exact Rel.reup M hnew (Sm.tm q hq)
 ·obtain ⟨y, hy, rfl⟩ := List.mem_map.1 hx
  obtain ⟨h1, h2⟩ := List.mem_filter.1 hy
  obtain ⟨n, e, ro, k1, k2, k3, k4, k5⟩ := Sm.bx y h1
  have hb := (M.i y.id (by simp [isId])).2
  have hr := M.n (c.be y.id).1 (not_nf (nf := inK I.st S N) h2 k1)
  refine ⟨n, e, ro, ?_, ?_, k3, k4, RelL.reup M hnew k5⟩
  ·simp only [hb, hr.2]; exact k1
  ·simp only [hb, hr.1]; exact k2
theorem nrm_withCells (e : PV) (cs : List PV) : nrm (e.withCells cs) = (nrm e).withCells (nrmL cs) := by
 cases e <;> cases cs <;> simp [PV.withCells, nrm, nrmL]
theorem nrmL_set (l : List PV) (i : Nat) (v : PV) : nrmL (l.set i v) = (nrmL l).set i (nrm v) := by simp only [nrmL_map, List.map_set]
def sxStoreE (st : Nat → Nat) (kp : List Nat) (a : Abs) (szo : Option Nat) (fs : List Nat) (w sz : Nat) (e i : X) (o : Nat) (y : PO) : Option Res :=
 obind (a.fo y) fun y' =>
  if kpOk kp fs then
   some ⟨.D, a.reup st [] fs w (.O fs w true sz (.upd szo e i o y')), [.upd szo e i o y'], fs.map (sn st), fs.map (sn st)⟩ else none
theorem storeE_okV {I : Inv} {c : Cx} {a : Abs} {env : Env} {σ : St} (S : Sim I c a env σ) (hodd : ∀ k ∈ I.kp, k % 2 = 1) {d : Option Nat} {szo : Option Nat} {fs : List Nat} {w sz : Nat} {e i : X} {o : Nat} {y : PO} {r : Res} {xv : PV}
  (hx : Rel c σ.h env (.EP fs w true sz e i o) xv)
  (H : sxStoreE I.st I.kp a szo fs w sz e i o y = some r) (hg : allGood env r.ns = true) : HeapOk I c a env σ d (storeHM szo xv (y.ev σ.fr)) r := by
 simp only [sxStoreE, obind_eq] at H
 obtain ⟨y', h1, H⟩ := H
 split at H
 ·rename_i hk
  cases H
  have hy := Abs.fo_ok S h1
  simp only [Rel, EpAt] at hx
  obtain ⟨q, ver, off, len, room, c0, b, x', k, n, T, he, hw, hi, hn0, hn1, hv⟩ := hx
  obtain ⟨hT, hnm, hget, hs, ho, hr, hpl, hc, hx'⟩ := T
  have hwr : b.ro = false ∧ off + room ≤ b.es.length ∧ c0 = false := by
   rcases hw trivial with hn | ⟨r', ver', sz', off', len', room', b', hq, hq2, hq3, hq4⟩
   ·rcases hn with hn | hn <;> rw [hn] at hT <;> cases hT
   ·rw [hq] at hT; cases hT; rw [hget] at hq2; cases hq2; exact ⟨hq3, hq4, rfl⟩
  obtain ⟨w1, w2, w3⟩ := hwr
  subst w3
  generalize y.ev σ.fr = yv at *
  simp only [allGood, Bool.and_true] at hg
  obtain ⟨z, hz⟩ := Option.isSome_iff_exists.1 hg
  have hz' := hz
  have hlen : (nrmL (List.take len (List.drop off b.es))).length = len := by
   rw [nrmL_length, List.length_take, List.length_drop]; omega
  simp only [X.ev, he, hi, hy.2, obind_some, hx', updV, hlen] at hz
  rw [if_pos ⟨hn0, hn1⟩] at hz
  have hnn : n.toNat < len := by omega
  have hidx : (List.take len (List.drop off b.es))[n.toNat]? = b.es[off + n.toNat]? := by
   rw [List.getElem?_take, if_pos hnn, List.getElem?_drop]
  rw [nrmL_get, hidx] at hz
  cases hel : b.es[off + n.toNat]? with
  | none => rw [hel] at hz; cases hz
  | some el =>
   rw [hel] at hz
   simp only [Option.map_some] at hz
   split at hz
   ·rename_i hcond
    rw [nrm_fits, nrm_cells, nrm_okCells, nrmL_length, nrm_cells_len] at hcond
    obtain ⟨f1, f2, f3⟩ := hcond
    have hpe := plL_get hpl hel
    have hoe := cells_ok hpe
    generalize hcs : el.cells.take o ++ yv.cells ++ el.cells.drop (o + yv.cells.length) = cs at *
    have hcl : cs.length = el.cells.length := by
     rw [← hcs]; simp only [List.length_append, List.length_take, List.length_drop]; omega
    have hoc : okCells cs = true := by
     rw [← hcs]; simp only [okCells_app, okCells_take hoe, f2, okCells_drop hoe, Bool.and_self]
    have hpc : plL cs = true := by
     rw [← hcs]; simp only [plL_app, plL_take (pl_cells hpe), pl_cells hy.1, plL_drop (pl_cells hpe), Bool.and_self]
    have hwc := withCells_ok hoe hcl hoc
    have hpw : pl (el.withCells cs) = true := by
     cases el with
     | agg es => simp only [PV.withCells, pl, hoc, hpc, Bool.and_self]
     | _ =>
      simp only [PV.withCells]
      simp only [PV.cells, List.length_cons, List.length_nil] at hcl
      obtain ⟨x, rfl⟩ := List.length_eq_one_iff.1 hcl
      simp only [plL, Bool.and_true] at hpc
      exact hpc
    have hlt := getElem?_lt hel
    have hver : ∀ j, q = .a j → (⟨ver, some ⟨b.sz, b.es.set (off + n.toNat) (el.withCells cs), false⟩⟩ : Ent).ver = 0 := fun j hj => by
     rw [hj] at hget; have h0 := Heap.ver_a hget; exact h0
    have hg' := Heap.get_put_same (e' := ⟨ver, some ⟨b.sz, b.es.set (off + n.toNat) (el.withCells cs), false⟩⟩) hget hver
    have S' : Sim I c a env ⟨σ.fr, σ.h⟩ := S
    have hnd := get_not_dead hget
    have hTr : trOk I (fs.map (sn I.st)) [q] := fun r hr => by
     simp only [List.mem_singleton] at hr; subst hr
     exact ⟨hnd, by rw [← sr_nm S.nm hnd]; exact List.mem_map_of_mem hnm⟩
    have M : Mut I.st [] fs none c c σ.h (σ.h.put q ⟨ver, some ⟨b.sz, b.es.set (off + n.toNat) (el.withCells cs), false⟩⟩) env := by
     refine Mut.of (fun r _ hr => ⟨Heap.get_put_other ?_, rfl⟩) fun w _ => ⟨rfl, rfl⟩
     rintro rfl
     exact hr hnm
    have hpl' : plL (b.es.set (off + n.toNat) (el.withCells cs)) = true := plL_iff.2 fun x hx => by
     rcases List.mem_or_eq_of_mem_set hx with h | h
     ·exact plL_iff.1 hpl x h
     ·rw [h]; exact hpw
    have hc' : ∀ x ∈ b.es.set (off + n.toNat) (el.withCells cs), x.cells.length = sz := fun x hx => by
     rcases List.mem_or_eq_of_mem_set hx with h | h
     ·exact hc x h
     ·rw [h, hwc, hcl]; exact hc el (List.mem_of_getElem? hel)
    have hview : ((b.es.set (off + n.toNat) (el.withCells cs)).drop off).take len = ((b.es.drop off).take len).set n.toNat (el.withCells cs) := by
     apply List.ext_getElem?
     intro j
     simp only [List.getElem?_take, List.getElem?_drop, List.getElem?_set, List.length_take, List.length_drop]
     by_cases hj : j < len
     ·by_cases hjn : n.toNat = j
      ·subst hjn
       rw [if_pos hj, if_pos rfl, if_pos rfl, if_pos hlt, if_pos (by omega)]
      ·rw [if_pos hj, if_neg (by omega), if_neg hjn, if_pos hj]
     ·rw [if_neg hj]
      by_cases hjn : n.toNat = j
      ·omega
      ·rw [if_neg hjn, if_neg hj]
    have hnew : Rel c (σ.h.put q ⟨ver, some ⟨b.sz, b.es.set (off + n.toNat) (el.withCells cs), false⟩⟩) env (.O fs w true sz (.upd szo e i o y')) (c.nu w) := by
     refine ⟨rfl, z, .inr ⟨q, ver, off, len, room, false, _, hT, hnm, hg', hs, by rw [List.length_set]; exact ho, hr, hpl', hc', ?_⟩, hz', fun _ => .inr ⟨q, ver, sz, off, len, room, _, hT, hg', rfl, by simp only [List.length_set]; exact w2⟩⟩
     cases hz
     rw [hview, nrmL_set, nrm_withCells]
     congr 4
     rw [← hcs]
     simp only [nrmL_app, nrmL_take, nrmL_drop, nrm_cells, nrmL_length]
    have hfl : FlOk I σ.h (σ.h.put q ⟨ver, some ⟨b.sz, b.es.set (off + n.toNat) (el.withCells cs), false⟩⟩) := fun i ver' b' hgi => by
     by_cases hi : Ref.a i = q
     ·right; left
      rw [hi, hg'] at hgi
      simp only [Option.some.injEq, Ent.mk.injEq] at hgi
      rw [← hgi.2]
      exact hpl'
     ·exact .inl ⟨ver', b', by rw [← hgi]; exact (Heap.get_put_other hi).symm, rfl⟩
    refine ⟨.junk, _, [q], [q], c, ?_, S'.reup M S.nm (put_len _ _ _).1 (put_len _ _ _).2 hodd hk hfl hnew, trivial, hTr, hTr, fun _ => rfl, fun _ _ => rfl, hfl⟩
    simp only [hv, storeHM]
    refine HM.runT_bind_of (R := [q]) (R2 := []) (W := []) (W2 := [q]) (liveBlk_runT hget) ?_
    simp only [hel]
    rw [if_pos ⟨f1, f2, f3, w1⟩]
    simp only [HM.runT, hget, hcs]
   ·cases hz
 ·cases H

theorem slice_nil {sz : Nat} {v v' : PV} {lo hi mx : Option PV} (hv : isNil v) (h : slice2PV sz v lo hi mx = some v') : isNil v' := by
 rcases hv with rfl | rfl
 ·simp only [slice2PV] at h
  split at h
  ·simp only [slicePV] at h
   split at h
   ·cases h
   ·unfold sliceNils at h
    split at h
    ·split at h
     ·cases h; exact .inl rfl
     ·cases h
    ·cases h
  ·cases h
 ·simp only [slice2PV] at h
  split at h
  ·simp only [slicePV] at h
   split at h
   ·cases h
   ·unfold sliceLst at h
    split at h
    ·split at h
     ·rename_i hb
      simp only [List.length_nil] at hb
      cases h
      refine .inr ?_
      split
      ·simp; omega
      ·simp
     ·cases h
    ·cases h
  ·cases h
def sxSliceO (st : Nat → Nat) (a : Abs) (d : Nat) (sz : Nat) (fs : List Nat) (wr : Bool) (s : Nat) (e : X) (lo hi mx : Option PO) : Option Res :=
 obind (a.bnd lo) fun l => obind (a.bnd hi) fun h => obind (a.bnd mx) fun m =>
  if s = sz ∧ sz ≠ 0 then some ⟨.O fs d (wr && mx.isNone) sz (.slice sz e l h m), a.kill st [] [] (some d), [.slice sz e l h m], [], []⟩ else none
def Cx.view (c : Cx) (d : Nat) (v : PV) : Cx := ⟨c.nm, fun w => if w = d then v else c.nu w, c.be⟩
theorem view_mut {st : Nat → Nat} {S N : List Nat} {c : Cx} {h : Heap} {env : Env} (d : Nat) (v : PV) : Mut st S N (some d) c (c.view d v) h h env :=
 Mut.of (fun r _ _ => ⟨rfl, rfl⟩) fun w hw => by
  have : w ≠ d := fun e => hw (by rw [e])
  simp [Cx.view, this]
theorem evO_isNone {ρ : PO → PV} {x : Option PO} : (evO ρ x).isNone = x.isNone := by cases x <;> rfl
theorem sliceO_okV {I : Inv} {c : Cx} {a : Abs} {env : Env} {σ : St} (S : Sim I c a env σ) (hodd : ∀ k ∈ I.kp, k % 2 = 1) {d sz : Nat} {fs : List Nat} {w : Nat} {wr : Bool} {s : Nat} {e : X} {lo hi mx : Option PO} {r : Res} {xv : PV}
  (hx : Rel c σ.h env (.O fs w wr s e) xv) (H : sxSliceO I.st a d sz fs wr s e lo hi mx = some r) (hg : allGood env r.ns = true) :
  HeapOk I c a env σ (some d) (HM.ofO (slice2PV sz xv (evO (PO.ev σ.fr) lo) (evO (PO.ev σ.fr) hi) (evO (PO.ev σ.fr) mx))) r := by
 simp only [sxSliceO, obind_eq] at H
 obtain ⟨l, hl, h', hh, m, hm, H⟩ := H
 split at H
 ·rename_i hs
  obtain ⟨rfl, hs0⟩ := hs
  cases H
  simp only [allGood, Bool.and_true] at hg
  obtain ⟨z, hz⟩ := Option.isSome_iff_exists.1 hg
  have hz' := hz
  obtain ⟨hxv, x', T, he, hw⟩ := hx
  simp only [X.ev, he, obind_some, obind_eq] at hz
  obtain ⟨lv, hlv, hv, hhv, mv, hmv, hz⟩ := hz
  have hz2 := hz
  unfold sliceV at hz
  cases e1 : optV lv <;> rw [e1] at hz <;> try (cases hz; done)
  cases e2 : optV hv <;> rw [e2] at hz <;> try (cases hz; done)
  cases e3 : optV mv <;> rw [e3] at hz <;> try (cases hz; done)
  rename_i lo' hi' mx'
  have b1 := Abs.bnd_ok S hl hlv e1
  have b2 := Abs.bnd_ok S hh hhv e2
  have b3 := Abs.bnd_ok S hm hmv e3
  rw [b1, b2, b3]
  have hmn : mx.isNone = mx'.isNone := by rw [← b3, evO_isNone]
  have S' : Sim I c a env ⟨σ.fr, σ.h⟩ := S
  have fin : ∀ {v : PV}, slice2PV s xv lo' hi' mx' = some v → TokOk (fun r => c.nm r ∈ fs) σ.h s v z → ((wr && mx.isNone) = true → WrOk σ.h v) →
    HeapOk I c a env σ (some d) (HM.ofO (slice2PV s xv lo' hi' mx')) ⟨.O fs d (wr && mx.isNone) s (.slice s e l h' m), a.kill I.st [] [] (some d), [.slice s e l h' m], [], []⟩ := by
   intro v q1 q2 q3
   refine ⟨v, σ.h, [], [], c.view d v, by rw [q1]; rfl, S'.mutate (view_mut d v) ⟨S.nm.l, S.nm.a⟩ rfl rfl hodd (by simp [kpOk]) (.refl _ _), ⟨by simp [Cx.view], z, q2, hz', q3⟩, (fun _ h => by cases h), (fun _ h => by cases h), fun _ => rfl, fun _ _ => rfl, .refl _ _⟩
  rcases T with ⟨hn, hx'⟩ | ⟨q, ver, off, len, room, c0, b, hT, hnm, hget, hsz, ho, hr, hpl, hc, hx'⟩
  ·have hp := isNil_pl hn
   rw [hx', ← hp.2] at hz2
   obtain ⟨v, k1, k2, k3⟩ := slice_im hp.1 e1 e2 e3 hz2
   have hv := slice_nil hn k1
   exact fin k1 (.inl ⟨hv, by rw [← k3, (isNil_pl hv).2]⟩) fun _ => .inl hv
  ·rw [hx'] at hz
   simp only at hz
   split at hz
   ·cases hz
   ·rename_i hcc
    simp only [not_or, Bool.not_eq_true] at hcc
    have hlen : (nrmL (List.take len (List.drop off b.es))).length = len := by
     rw [nrmL_length, List.length_take, List.length_drop]; omega
    simp only [sliceLst, hlen, Option.map_eq_some_iff] at hz
    obtain ⟨y, hy, hyz⟩ := hz
    cases f1 : optNat 0 lo' <;> rw [f1] at hy <;> try (cases hy; done)
    cases f2 : optNat len hi' <;> rw [f2] at hy <;> try (cases hy; done)
    cases f3 : optNat len mx' <;> rw [f3] at hy <;> try (cases hy; done)
    rename_i ln hn2 mn
    simp only at hy
    split at hy
    ·rename_i hb
     cases hy
     obtain ⟨g1, g2, g3, _⟩ := hb
     have hsl : (s == 0) = false := by simpa using hs0
     have hrm : ∃ m', optNat room mx' = some m' ∧ hn2 ≤ m' ∧ m' ≤ room ∧ (mx' = none → m' = room) := by
      cases mx' with
      | none => exact ⟨room, rfl, by simp only [optNat, Option.some.injEq] at f3; omega, Nat.le_refl _, fun _ => rfl⟩
      | some mv' => exact ⟨mn, by simpa [optNat] using f3, g2, by omega, fun h => by cases h⟩
     obtain ⟨m', r1, r2, r3, r4⟩ := hrm
     refine fin (v := .tok q ver s (off + ln) (hn2 - ln) (m' - ln) (if mx'.isSome then m' == ln else c0)) ?_ (.inr ⟨q, ver, off + ln, hn2 - ln, m' - ln, _, b, rfl, hnm, hget, hsz, by omega, by omega, hpl, hc, ?_⟩) fun hww => ?_
     ·simp only [slice2PV, hT, PV.isStr, hsl, if_true, slicePV, hcc.2, Bool.false_eq_true, if_false, sliceTok, f1, f2, r1]
      rw [if_pos ⟨g1, r2, r3⟩]
     ·rw [← hyz]
      simp only [nrm, nrmL_take, nrmL_drop, nrmL_nrmL]
      congr 1
      rw [List.drop_take, List.take_take, List.drop_drop]
      congr 1
      omega
     ·simp only [Bool.and_eq_true] at hww
      rw [hmn] at hww
      have hmx : mx' = none := by simpa using hww.2
      subst hmx
      have := r4 rfl
      subst this
      rcases hw hww.1 with hn | ⟨r', ver', sz', off', len', room', b', hq, hq2, hq3, hq4⟩
      ·rcases hn with hn | hn <;> rw [hn] at hT <;> cases hT
      ·rw [hq] at hT; cases hT; rw [hget] at hq2; cases hq2
       exact .inr ⟨q, ver, s, _, _, _, b, rfl, hget, hq3, by omega⟩
    ·cases hy
 ·cases H
end Gv

namespace Gv
open Go (IntKind BinOp UnOp)

def nfS (st : Nat → Nat) (S : List Nat) : Nat → Bool := fun n => S.contains (sn st n)
def okS (st : Nat → Nat) (N : List Nat) (as : List AV) : Bool := AV.okL (inK st [] N) (isId none) (fun _ => false) as
def evenAll (fs : List Nat) : Bool := fs.all fun n => n % 2 == 0
def fzc (st : Nat → Nat) : AV → Option (X × List Nat)
 | .F e => some (e, [])
 | .N e => some (e, [])
 | .O fs _ _ _ e => if evenAll fs then some (e, fs) else none
 | _ => none
def fzcL (st : Nat → Nat) : List AV → Option (X × List Nat)
 | [] => some (.nl, [])
 | a :: as => obind (fzc st a) fun p => if okS st p.2 as then obind (fzcL st as) fun q => some (.cn p.1 q.1, p.2 ++ q.2) else none
def fz2 (st : Nat → Nat) : AV → Option (X × List Nat)
 | .A cs => obind (fzcL st cs) fun p => some (.agg p.1, p.2)
 | a => fzc st a
def fz2L (st : Nat → Nat) : List AV → Option (X × List Nat)
 | [] => some (.nl, [])
 | a :: as => obind (fz2 st a) fun p => if okS st p.2 as then obind (fz2L st as) fun q => some (.cn p.1 q.1, p.2 ++ q.2) else none
structure Took (I : Inv) (c : Cx) (N : List Nat) (h h' : Heap) (R W : List Ref) : Prop where
 same : ∀ r, c.nm r ∉ N → h'.get r = h.get r
 ll : h'.L.length = h.L.length
 la : h'.A.length = h.A.length
 rd : trOk I (N.map (sn I.st)) R
 wr : trOk I (N.map (sn I.st)) W
 fl : FlOk I h h'
theorem trOk_mono {I : Inv} {S T : List Nat} {l : List Ref} (h : trOk I S l) (hs : ∀ x ∈ S, x ∈ T) : trOk I T l := fun r hr => ⟨(h r hr).1, hs _ (h r hr).2⟩
theorem trOk_app {I : Inv} {S : List Nat} {l m : List Ref} (h : trOk I S l) (k : trOk I S m) : trOk I S (l ++ m) := fun r hr => by
 rcases List.mem_append.1 hr with hr | hr
 ·exact h r hr
 ·exact k r hr
theorem Took.refl (I : Inv) (c : Cx) (S : List Nat) (h : Heap) : Took I c S h h [] [] := ⟨fun _ _ => rfl, rfl, rfl, fun _ h => (by cases h), fun _ h => (by cases h), .refl _ _⟩
theorem Took.trans {I : Inv} {c : Cx} {S T : List Nat} {h h1 h2 : Heap} {R W R' W' : List Ref} (A : Took I c S h h1 R W) (B : Took I c T h1 h2 R' W') : Took I c (S ++ T) h h2 (R ++ R') (W ++ W') where
 same r hr := by
  simp only [List.mem_append, not_or] at hr
  rw [B.same r hr.2, A.same r hr.1]
 ll := by rw [B.ll, A.ll]
 la := by rw [B.la, A.la]
 rd := by rw [List.map_append]; exact trOk_app (trOk_mono A.rd fun _ h => List.mem_append_left _ h) (trOk_mono B.rd fun _ h => List.mem_append_right _ h)
 wr := by rw [List.map_append]; exact trOk_app (trOk_mono A.wr fun _ h => List.mem_append_left _ h) (trOk_mono B.wr fun _ h => List.mem_append_right _ h)
 fl := A.fl.trans B.fl
theorem Took.mut {I : Inv} {c : Cx} {S : List Nat} {h h' : Heap} {R W : List Ref} (A : Took I c S h h' R W) (env : Env) (d : Option Nat) : Mut I.st [] S d c c h h' env :=
 Mut.of (fun r _ hr => ⟨A.same r hr, rfl⟩) fun _ _ => ⟨rfl, rfl⟩
section
variable {I : Inv} {c : Cx} {env : Env}
theorem even_local {N : Nm I c} {r : Ref} (h : c.nm r % 2 = 0) (hr : r ≠ .dead) : ∃ s, r = .l s := by
 cases r with
 | a i => rw [N.a i] at h; omega
 | l s => exact ⟨s, rfl⟩
 | dead => exact absurd rfl hr
theorem freezeC_tok (n s ver sz off len room : Nat) (c0 : Bool) : freezeC (n + 1) (.tok (.l s) ver sz off len room c0) = if len = 0 then .ret (.lst [] c0) else
  (elems (.tok (.l s) ver sz off len 0 c0)).bind fun es => (HM.mapM (freezeC n) es).bind fun es' => (liveBlk (.l s) ver).bind fun _ => .set (.l s) ⟨ver, none⟩ (.ret (.lst es' c0)) := rfl
theorem fzc_ok (N : Nm I c) {h : Heap} {a : AV} {v : PV} {p : X × List Nat} (R : Rel c h env a v) (H : fzc I.st a = some p) (n : Nat) :
  ∃ v' h' Rr W, (freezeC (n + 3) v).runT h = some (v', h', Rr, W) ∧ pl v' = true ∧ p.1.ev env = some (nrm v') ∧ Took I c p.2 h h' Rr W ∧ (v.isCell = true → v'.isCell = true) ∧ v'.cells.length = v.cells.length ∧ (∀ sz, v.cells.length = sz → v'.cells.length = sz) := by
 unfold fzc at H
 split at H
 ·cases H
  exact ⟨v, h, [], [], by rw [freezeC_pl2 R.1]; rfl, R.1, R.2, Took.refl .., fun h => h, rfl, fun _ h => h⟩
 ·cases H
  have hp := isNil_pl R.1
  exact ⟨v, h, [], [], by rw [freezeC_pl2 hp.1]; rfl, hp.1, by rw [hp.2]; exact R.2, Took.refl .., fun h => h, rfl, fun _ h => h⟩
 ·split at H
  ·rename_i fs w wr sz e hev
   cases H
   obtain ⟨hv, x, T, he, _⟩ := R
   rcases T with ⟨hn, hx⟩ | ⟨r, ver, off, len, room, c0, b, hT, hnm, hget, hs, ho, hr, hpl, hc, hx⟩
   ·have hp := isNil_pl hn
    exact ⟨v, h, [], [], by rw [freezeC_pl2 hp.1]; rfl, hp.1, by rw [hp.2, ← hx]; exact he, Took.refl .., fun h => h, rfl, fun _ h => h⟩
   ·have hnd := get_not_dead hget
    obtain ⟨s, rfl⟩ := even_local (N := N) (by have := List.all_eq_true.1 hev _ hnm; simpa using this) hnd
    have hview := plL_take (plL_drop hpl off) len
    have hmap := mapM_pl2 hview (n + 0)
    by_cases h0 : len = 0
    ·subst h0
     refine ⟨.lst [] c0, h, [], [], ?_, rfl, by rw [he, hx]; simp [nrm, nrmL], Took.refl .., fun _ => rfl, by rw [hT]; rfl, fun sz h => by rw [← h, hT]; rfl⟩
     rw [hT, freezeC_tok, if_pos rfl]; rfl
    ·refine ⟨.lst (List.take len (List.drop off b.es)) c0, h.put (.l s) ⟨ver, none⟩, [.l s] ++ ([] ++ [.l s]), [] ++ ([] ++ [.l s]), ?_, hview, by rw [he, hx]; simp [nrm], ⟨fun r hr' => ?_, (put_len _ _ _).1, (put_len _ _ _).2, fun r hr' => ?_, fun r hr' => ?_, .put_l _ _ _ _⟩, fun _ => rfl, by rw [hT]; rfl, fun sz h => by rw [← h, hT]; rfl⟩
     ·rw [hT, freezeC_tok, if_neg h0]
      have he1 : (elems (.tok (.l s) ver sz off len 0 c0)).runT h = some (List.take len (List.drop off b.es), h, [.l s], []) := by
       simp only [elems, if_neg h0]
       refine HM.runT_bind_of (R := [.l s]) (R2 := []) (W := []) (W2 := []) (liveBlk_runT hget) ?_
       rw [if_pos ⟨ho, hs⟩]; rfl
      refine HM.runT_bind_of he1 ?_
      rw [hmap]
      simp only [HM.bind]
      rw [HM.runT_bind, liveBlk_runT hget]
      simp only [HM.runT, hget]
      rfl
     ·have hne : r ≠ .l s := by
       rintro rfl
       exact hr' hnm
      exact Heap.get_put_other hne
     all_goals
      have : r = .l s := by simpa using hr'
      subst this
      exact ⟨hnd, by rw [← sr_nm N hnd]; exact List.mem_map_of_mem hnm⟩
  ·cases H
 ·cases H
theorem okS_rel {I : Inv} {c : Cx} {env : Env} {S : List Nat} {h h' : Heap} {Rr W : List Ref} (T : Took I c S h h' Rr W) {as : List AV} {vs : List PV} (ho : okS I.st S as = true) (R : RelL c h env as vs) : RelL c h' env as vs :=
 RelL.frame (T.mut env none) ho R
theorem fzcL_ok (N : Nm I c) (n : Nat) : ∀ {as : List AV} {vs : List PV} {h : Heap} {p : X × List Nat}, RelL c h env as vs → fzcL I.st as = some p →
  ∃ vs' h' Rr W, (HM.mapM (freezeC (n + 3)) vs).runT h = some (vs', h', Rr, W) ∧ plL vs' = true ∧ p.1.ev env = some (.tup (nrmL vs')) ∧ Took I c p.2 h h' Rr W ∧ (okCells vs = true → okCells vs' = true) ∧ vs'.length = vs.length
 | [], [], h, p, R, H => by
  cases H
  exact ⟨[], h, [], [], rfl, rfl, rfl, Took.refl .., fun h => h, rfl⟩
 | a :: as, v :: vs, h, p, R, H => by
  simp only [fzcL, obind_eq] at H
  obtain ⟨p1, h1, H⟩ := H
  split at H
  ·rename_i ho
   simp only [obind_eq] at H
   obtain ⟨q, h2, h3⟩ := H
   cases h3
   obtain ⟨v', g, R1, W1, k1, k2, k3, k4, k5, k6, _⟩ := fzc_ok N R.1 h1 n
   obtain ⟨vs', g', R2, W2, l1, l2, l3, l4, l5, l6⟩ := fzcL_ok N n (okS_rel k4 ho R.2) h2
   refine ⟨v' :: vs', g', R1 ++ (R2 ++ []), W1 ++ (W2 ++ []), ?_, by simp only [plL, k2, l2, Bool.and_self], by simp only [X.ev, k3, l3, obind_some, nrmL], ?_, fun hc => ?_, by simp [l6]⟩
   ·rw [HM.mapM]
    refine HM.runT_bind_of k1 ?_
    exact HM.runT_bind_of l1 rfl
   ·rw [List.append_nil, List.append_nil]; exact k4.trans l4
   ·simp only [okCells, Bool.and_eq_true] at hc ⊢
    exact ⟨k5 hc.1, l5 hc.2⟩
  ·cases H
 | [], _ :: _, _, _, R, _ => by cases R
 | _ :: _, [], _, _, R, _ => by cases R
theorem fz2_ok (N : Nm I c) {h : Heap} {a : AV} {v : PV} {p : X × List Nat} (R : Rel c h env a v) (H : fz2 I.st a = some p) (n : Nat) :
  ∃ v' h' Rr W, (freezeC (n + 4) v).runT h = some (v', h', Rr, W) ∧ pl v' = true ∧ p.1.ev env = some (nrm v') ∧ Took I c p.2 h h' Rr W ∧ v'.cells.length = v.cells.length := by
 unfold fz2 at H
 split at H
 ·rename_i cs
  simp only [obind_eq] at H
  obtain ⟨q, h1, h2⟩ := H
  cases h2
  obtain ⟨vs, rfl, hok, hR⟩ := R
  obtain ⟨vs', g, R1, W1, k1, k2, k3, k4, k5, k6⟩ := fzcL_ok N n hR h1
  refine ⟨.agg vs', g, R1 ++ [], W1 ++ [], HM.runT_bind_of k1 rfl, by simp only [pl, k5 hok, k2, Bool.and_self], ?_, by rw [List.append_nil, List.append_nil]; exact k4, by simp [PV.cells, k6]⟩
  simp only [X.ev, k3, obind_some, listOf, nrm_okCells, k5 hok, if_true, nrm]
 ·obtain ⟨v', g, R1, W1, k1, k2, k3, k4, k5, k6, _⟩ := fzc_ok N R H (n + 1)
  exact ⟨v', g, R1, W1, k1, k2, k3, k4, k6⟩
theorem fz2L_ok (N : Nm I c) (n : Nat) : ∀ {as : List AV} {vs : List PV} {h : Heap} {p : X × List Nat}, RelL c h env as vs → fz2L I.st as = some p →
  ∃ vs' h' Rr W, (HM.mapM (freezeC (n + 4)) vs).runT h = some (vs', h', Rr, W) ∧ plL vs' = true ∧ p.1.ev env = some (.tup (nrmL vs')) ∧ Took I c p.2 h h' Rr W ∧ vs'.length = vs.length ∧ (∀ sz, sized sz vs = true → sized sz vs' = true)
 | [], [], h, p, R, H => by
  cases H
  exact ⟨[], h, [], [], rfl, rfl, rfl, Took.refl .., rfl, fun _ h => h⟩
 | a :: as, v :: vs, h, p, R, H => by
  simp only [fz2L, obind_eq] at H
  obtain ⟨p1, h1, H⟩ := H
  split at H
  ·rename_i ho
   simp only [obind_eq] at H
   obtain ⟨q, h2, h3⟩ := H
   cases h3
   obtain ⟨v', g, R1, W1, k1, k2, k3, k4, k5⟩ := fz2_ok N R.1 h1 n
   obtain ⟨vs', g', R2, W2, l1, l2, l3, l4, l5, l6⟩ := fz2L_ok N n (okS_rel k4 ho R.2) h2
   refine ⟨v' :: vs', g', R1 ++ (R2 ++ []), W1 ++ (W2 ++ []), ?_, by simp only [plL, k2, l2, Bool.and_self], by simp only [X.ev, k3, l3, obind_some, nrmL], ?_, by simp [l5], fun sz hs => ?_⟩
   ·rw [HM.mapM]
    refine HM.runT_bind_of k1 ?_
    exact HM.runT_bind_of l1 rfl
   ·rw [List.append_nil, List.append_nil]; exact k4.trans l4
   ·simp only [sized, Bool.and_eq_true, beq_iff_eq] at hs ⊢
    exact ⟨by rw [k5]; exact hs.1, l6 sz hs.2⟩
  ·cases H
 | [], _ :: _, _, _, R, _ => by cases R
 | _ :: _, [], _, _, R, _ => by cases R
end

def Abs.fitsL (a : Abs) (sz : Option Nat) : List PO → Option (List AV × List X)
 | [] => some ([], [])
 | x :: xs => obind (a.po x) fun av => obind (cellsOf sz av) fun cn => obind (a.fitsL sz xs) fun l => some (av :: l.1, cn.2 ++ l.2)
theorem Abs.fitsL_ok {I : Inv} {c : Cx} {a : Abs} {env : Env} {σ : St} (S : Sim I c a env σ) {sz : Option Nat} : ∀ {xs : List PO} {l : List AV × List X}, a.fitsL sz xs = some l → allGood env l.2 = true →
  RelL c σ.h env l.1 (evL (PO.ev σ.fr) xs) ∧ okElems sz (evL (PO.ev σ.fr) xs) = true ∧ sized (sz.getD 1) (evL (PO.ev σ.fr) xs) = true
 | [], l, H, _ => by cases H; exact ⟨trivial, rfl, rfl⟩
 | x :: xs, l, H, hg => by
  simp only [Abs.fitsL, obind_eq] at H
  obtain ⟨av, h1, cn, h2, l', h3, h4⟩ := H
  cases h4
  simp only [allGood_app, Bool.and_eq_true] at hg
  obtain ⟨q1, q2, q3⟩ := cellsOf_ok (Abs.po_ok S h1) h2 hg.1
  obtain ⟨k1, k2, k3⟩ := Abs.fitsL_ok S h3 hg.2
  exact ⟨⟨Abs.po_ok S h1, k1⟩, by simp only [evL, okElems, q1, q2, k2, Bool.and_self], by simp only [evL, sized, fits_len q1, beq_self_eq_true, k3, Bool.and_self]⟩
def sxBuildL (st : Nat → Nat) (kp : List Nat) (ns : Nat) (a : Abs) (d : Nat) (sz : Option Nat) (parts : List PO) (s : Nat) : Option Res :=
 obind (a.fitsL sz parts) fun l => if s < ns ∧ kpOk kp [2 * st s] ∧ AV.okL (inK st [2 * st s] []) (isId (some d)) (fun _ => false) l.1 then
  some ⟨.L [2 * s] (sz.getD 1) l.1, a.kill st [2 * st s] [] (some d), l.2, [2 * st s], [2 * st s]⟩ else none
theorem buildL_okV {I : Inv} {c : Cx} {a : Abs} {env : Env} {σ : St} (S : Sim I c a env σ) (hodd : ∀ k ∈ I.kp, k % 2 = 1) {d : Nat} {sz : Option Nat} {parts : List PO} {s : Nat} {r : Res}
  (H : sxBuildL I.st I.kp I.ns a d sz parts s = some r) (hg : allGood env r.ns = true) : HeapOk I c a env σ (some d) (buildSliceHM sz (evL (PO.ev σ.fr) parts) s) r := by
 simp only [sxBuildL, obind_eq] at H
 obtain ⟨l, h1, H⟩ := H
 split at H
 ·rename_i hc
  cases H
  obtain ⟨k1, k2, k3⟩ := Abs.fitsL_ok S h1 hg
  generalize hvs : evL (PO.ev σ.fr) parts = vs at *
  obtain ⟨e0, hge⟩ := slot_get S.hl hc.1
  have hg' : (σ.h.put (.l s) ⟨e0.ver + 1, some ⟨sz.getD 1, vs, false⟩⟩).get (.l s) = some ⟨e0.ver + 1, some ⟨sz.getD 1, vs, false⟩⟩ := Heap.get_put_same hge (by intro i h; cases h)
  have S' : Sim I c a env ⟨σ.fr, σ.h⟩ := S
  have hT : trOk I [2 * I.st s] [.l s] := fun r hr => by
   simp only [List.mem_singleton] at hr; subst hr; exact ⟨(by intro h; cases h), by simp [Inv.sr]⟩
  have M := new_mut S' (s := s) (d := d) ⟨e0.ver + 1, some ⟨sz.getD 1, vs, false⟩⟩ .junk
  refine ⟨.tok (.l s) (e0.ver + 1) (sz.getD 1) 0 vs.length vs.length false, σ.h.put (.l s) ⟨e0.ver + 1, some ⟨sz.getD 1, vs, false⟩⟩, [.l s] ++ [], [.l s] ++ [], c.new s d (e0.ver + 1) .junk, ?_,
   S'.mutate M (S.nm.new _ _ _ _) (put_len _ _ _).1 (put_len _ _ _).2 hodd hc.2.1 (.put_l _ _ _ _), ⟨.l s, e0.ver + 1, vs, rfl, by simp [Cx.new], hg', k3, RelL.frame M hc.2.2 k1⟩, hT, hT, by intro i; simp [Cx.new], new_be, .put_l _ _ _ _⟩
  simp only [buildSliceHM, k2, if_true]
  exact HM.runT_bind_of (newBlk_runT (b := ⟨sz.getD 1, vs, false⟩) hge) rfl
 ·cases H

def appRest (sz : Nat) (x : PV) (vs : List PV) (s : Nat) : HM PV :=
 if vs.isEmpty then (match x with | .nils => .ret .nils | .lst es c0 => .ret (.lst es c0) | .tok r ver z off len room c0 => .ret (.tok r ver z off len room c0) | _ => .fail)
 else match x with
  | .nils => appendNew sz [] vs s
  | .lst es c0 => if c0 ∧ es.isEmpty then appendNew sz [] vs s else .fail
  | .tok r ver z off len room c0 => if c0 then (if len = 0 then appendNew sz [] vs s else .fail) else if z = sz then appendTok sz r ver off len room vs s else .fail
  | _ => .fail
theorem appendHM_eq (sz : Nat) (x y : PV) (s : Nat) : appendHM sz x y s = (elems y).bind fun vs0 => if sized sz vs0 then (HM.mapM (freezeC 9) vs0).bind fun vs => appRest sz x vs s else .fail := rfl
theorem sized_mem {sz : Nat} : ∀ {vs : List PV}, sized sz vs = true → ∀ x ∈ vs, x.cells.length = sz
 | [], _, x, h => by cases h
 | v :: vs, hs, x, h => by
  simp only [sized, Bool.and_eq_true, beq_iff_eq] at hs
  rcases List.mem_cons.1 h with rfl | h
  ·exact hs.1
  ·exact sized_mem hs.2 x h
structure AppX (c : Cx) (h : Heap) (fs : List Nat) (sz : Nat) (v : PV) (xs : List PV) : Prop where
 t : TokOk (fun r => c.nm r ∈ fs) h sz v (.lst xs false)
 w : WrOk h v
structure AppOk (I : Inv) (c : Cx) (h : Heap) (env : Env) (d s : Nat) (fs : List Nat) (sz : Nat) (m : HM PV) (xs : List PV) (v : PV) (h' : Heap) (R W : List Ref) (c' : Cx) : Prop where
 run : m.runT h = some (v, h', R, W)
 nu : c'.nu d = v
 t : TokOk (fun r => c'.nm r ∈ 2 * s :: fs) h' sz v (.lst xs false)
 w : WrOk h' v
 mu : Mut I.st [2 * I.st s] fs (some d) c c' h h' env
 nm : Nm I c'
 ll : h'.L.length = h.L.length
 la : h'.A.length = h.A.length
 rd : trOk I (2 * I.st s :: fs.map (sn I.st)) R
 wr : trOk I (2 * I.st s :: fs.map (sn I.st)) W
 al : ∀ i, c'.nm (.a i) = c.nm (.a i)
 be : ∀ w, some d ≠ some w → c'.be w = c.be w
 fl : FlOk I h h'
section
variable {I : Inv} {c : Cx} {env : Env}
theorem app_new (N : Nm I c) {h : Heap} {d s : Nat} {fs : List Nat} {sz : Nat} {vs xs : List PV} {n : Nat} (hs : s < I.ns) (hL : h.L.length = I.ns) (hp : plL (xs ++ vs) = true) (hc : ∀ x ∈ xs ++ vs, x.cells.length = sz) (hn : xs.length = n) {m : HM PV}
  (hm : m = (newBlk s ⟨sz, xs ++ vs, false⟩).bind fun v => .ret (.tok (.l s) v sz 0 (n + vs.length) (n + vs.length) false)) :
  ∃ v h' R W c', AppOk I c h env d s fs sz m (nrmL (xs ++ vs)) v h' R W c' := by
 subst hn
 obtain ⟨e0, hge⟩ := slot_get hL hs
 have hlen : (xs ++ vs).length = xs.length + vs.length := List.length_append
 have hg' : (h.put (.l s) ⟨e0.ver + 1, some ⟨sz, xs ++ vs, false⟩⟩).get (.l s) = some ⟨e0.ver + 1, some ⟨sz, xs ++ vs, false⟩⟩ := Heap.get_put_same hge (by intro i h; cases h)
 have hT : trOk I (2 * I.st s :: fs.map (sn I.st)) ([.l s] ++ []) := fun r hr => by
  simp only [List.append_nil, List.mem_singleton] at hr; subst hr; exact ⟨(by intro h; cases h), by simp [Inv.sr]⟩
 refine ⟨.tok (.l s) (e0.ver + 1) sz 0 (xs.length + vs.length) (xs.length + vs.length) false, h.put (.l s) ⟨e0.ver + 1, some ⟨sz, xs ++ vs, false⟩⟩, [.l s] ++ [], [.l s] ++ [], c.new s d (e0.ver + 1) (.tok (.l s) (e0.ver + 1) sz 0 (xs.length + vs.length) (xs.length + vs.length) false), ?_, by simp [Cx.new], ?_, ?_, ?_, N.new _ _ _ _, (put_len _ _ _).1, (put_len _ _ _).2, hT, hT, by intro i; simp [Cx.new], new_be, .put_l _ _ _ _⟩
 ·subst hm
  exact HM.runT_bind_of (newBlk_runT (b := ⟨sz, xs ++ vs, false⟩) hge) rfl
 ·exact .inr ⟨.l s, e0.ver + 1, 0, _, _, false, _, rfl, by simp [Cx.new], hg', rfl, by rw [hlen]; omega, Nat.le_refl _, hp, hc, by rw [List.drop_zero, ← hlen, List.take_length]⟩
 ·exact .inr ⟨.l s, e0.ver + 1, sz, 0, _, _, _, rfl, hg', rfl, by rw [hlen]; omega⟩
 ·refine Mut.of (fun r hr _ => ?_) fun w hw => ?_
  ·have hne : r ≠ .l s := by
    rintro rfl
    apply hr
    rw [sr_nm N (by intro h; cases h)]
    simp [Inv.sr]
   exact ⟨Heap.get_put_other hne, by simp [Cx.new, hne]⟩
  ·have : w ≠ d := fun e => hw (by rw [e])
   simp [Cx.new, this]
theorem appRest_ok (N : Nm I c) {h : Heap} {d s : Nat} {fs : List Nat} {sz : Nat} {v : PV} {xs vs : List PV} (A : AppX c h fs sz v xs) (hs : s < I.ns) (hL : h.L.length = I.ns) (hp : plL vs = true) (hc : ∀ x ∈ vs, x.cells.length = sz) (hmax : xs.length + vs.length < maxNew) :
  ∃ v' h' R W c', AppOk I c h env d s fs sz (appRest sz v vs s) (xs ++ nrmL vs) v' h' R W c' := by
 obtain ⟨T, Wr⟩ := A
 by_cases hem : vs.isEmpty = true
 ·have hvs : vs = [] := List.isEmpty_iff.1 hem
  subst hvs
  refine ⟨v, h, [], [], c.view d v, ?_, by simp [Cx.view], ?_, Wr, view_mut d v, ⟨N.l, N.a⟩, rfl, rfl, fun _ h => (by cases h), fun _ h => (by cases h), fun _ => rfl, fun _ _ => rfl, .refl _ _⟩
  ·have : appRest sz v [] s = .ret v := by
    rcases T with ⟨hn | hn, _⟩ | ⟨r, ver, off, len, room, c0, b, hT, _⟩
    ·rw [hn]; rfl
    ·rw [hn]; rfl
    ·rw [hT]; rfl
   rw [this]; rfl
  ·simp only [nrmL, List.append_nil]
   rcases T with T | ⟨r, ver, off, len, room, c0, b, hT, hnm, T⟩
   ·exact .inl T
   ·exact .inr ⟨r, ver, off, len, room, c0, b, hT, List.mem_cons_of_mem _ hnm, T⟩
 ·have hnil : ∀ {m : HM PV}, xs = [] → m = appendNew sz [] vs s → ∃ v' h' R W c', AppOk I c h env d s fs sz m (xs ++ nrmL vs) v' h' R W c' := by
   intro m hx hm
   subst hx
   obtain ⟨v', h', R, W, c', k⟩ := app_new (env := env) (d := d) (fs := fs) (m := m) N hs hL (xs := []) (vs := vs) (n := 0) (sz := sz) (by simpa using hp) (by simpa using hc) rfl (by
    rw [hm]; simp only [appendNew, List.length_nil, List.nil_append]
    rw [if_pos (by simpa using hmax)])
   exact ⟨v', h', R, W, c', by simpa using k⟩
  simp only [appRest, hem, Bool.false_eq_true, if_false]
  rcases T with ⟨hn, hx⟩ | ⟨r, ver, off, len, room, c0, b, hT, hnm, hget, hsz, ho, hr, hpl, hcc, hx⟩
  ·simp only [PV.lst.injEq, and_true] at hx
   rcases hn with hn | hn
   ·rw [hn]; exact hnil hx rfl
   ·rw [hn]; exact hnil hx rfl
  ·simp only [PV.lst.injEq, and_true] at hx
   have hwr : b.ro = false ∧ off + room ≤ b.es.length ∧ c0 = false := by
    rcases Wr with hn | ⟨r', ver', sz', off', len', room', b', hq, hq2, hq3, hq4⟩
    ·rcases hn with hn | hn <;> rw [hn] at hT <;> cases hT
    ·rw [hq] at hT; cases hT; rw [hget] at hq2; cases hq2; exact ⟨hq3, hq4, rfl⟩
   obtain ⟨w1, w2, rfl⟩ := hwr
   have hxl : xs.length = len := by rw [hx, nrmL_length, List.length_take, List.length_drop]; omega
   rw [hT]
   simp only [Bool.false_eq_true, if_false, if_true]
   have hview := plL_take (plL_drop hpl off) len
   have hvc : ∀ x ∈ (b.es.drop off).take len, x.cells.length = sz := fun x hx => hcc x (List.mem_of_mem_drop (List.mem_of_mem_take hx))
   have hvl : ((b.es.drop off).take len).length = len := by rw [List.length_take, List.length_drop]; omega
   have hnd := get_not_dead hget
   have hsr : I.sr r ∈ 2 * I.st s :: fs.map (sn I.st) := by
    rw [← sr_nm N hnd]; exact List.mem_cons_of_mem _ (List.mem_map_of_mem hnm)
   have hTr : trOk I (2 * I.st s :: fs.map (sn I.st)) [r] := fun q hq => by
    simp only [List.mem_singleton] at hq; subst hq; exact ⟨hnd, hsr⟩
   have hguard : b.sz = sz ∧ b.ro = false ∧ off + len ≤ b.es.length ∧ len + vs.length < maxNew := ⟨hsz, w1, ho, by omega⟩
   by_cases hroom : len + vs.length ≤ room
   ·have hver : ∀ i, r = .a i → (⟨ver, some ⟨sz, b.es.take (off + len) ++ vs ++ b.es.drop (off + len + vs.length), false⟩⟩ : Ent).ver = 0 := fun i hi => by
     rw [hi] at hget; have h0 := Heap.ver_a hget; exact h0
    have hg' := Heap.get_put_same hget hver
    have hln : (b.es.take (off + len) ++ vs ++ b.es.drop (off + len + vs.length)).length = b.es.length := by
     simp only [List.length_append, List.length_take, List.length_drop]; omega
    have hvw : ((b.es.take (off + len) ++ vs ++ b.es.drop (off + len + vs.length)).drop off).take (len + vs.length) = (b.es.drop off).take len ++ vs := by
     have e1 : (List.take (off + len) b.es).length = off + len := by rw [List.length_take]; omega
     rw [List.append_assoc, List.drop_append_of_le_length (by rw [e1]; omega), List.drop_take, show off + len - off = len by omega]
     rw [List.take_append, hvl, List.take_of_length_le (by omega), show len + vs.length - len = vs.length by omega, List.take_append_of_le_length (Nat.le_refl _), List.take_of_length_le (Nat.le_refl _)]
    refine ⟨.tok r ver sz off (len + vs.length) room false, h.put r ⟨ver, some ⟨sz, b.es.take (off + len) ++ vs ++ b.es.drop (off + len + vs.length), false⟩⟩, [r] ++ [], [] ++ [r], c.view d (.tok r ver sz off (len + vs.length) room false), ?_, by simp [Cx.view], ?_, ?_, ?_, ⟨N.l, N.a⟩, (put_len _ _ _).1, (put_len _ _ _).2, by simpa using hTr, by simpa using hTr, fun _ => rfl, fun _ _ => rfl, fun i ver' b' hgi => ?_⟩
    ·unfold appendTok
     refine HM.runT_bind_of (liveBlk_runT hget) ?_
     rw [if_pos hguard, if_pos hroom, if_pos (by omega)]
     simp only [HM.runT, hget]
    ·refine .inr ⟨r, ver, off, _, _, false, _, rfl, List.mem_cons_of_mem _ hnm, hg', rfl, by rw [hln]; omega, hroom, ?_, ?_, ?_⟩
     ·simp only [plL_app, plL_take hpl, hp, plL_drop hpl, Bool.and_self]
     ·intro x hx'
      rcases List.mem_append.1 hx' with hx' | hx'
      ·rcases List.mem_append.1 hx' with hx' | hx'
       ·exact hcc x (List.mem_of_mem_take hx')
       ·exact hc x hx'
      ·exact hcc x (List.mem_of_mem_drop hx')
     ·rw [hvw, nrmL_app, ← hx]
    ·exact .inr ⟨r, ver, sz, off, _, _, _, rfl, hg', rfl, by rw [hln]; omega⟩
    ·refine Mut.of (fun q _ hq => ⟨Heap.get_put_other ?_, rfl⟩) fun w hw => ?_
     ·rintro rfl
      exact hq hnm
     ·have : w ≠ d := fun e => hw (by rw [e])
      simp [Cx.view, this]
    ·by_cases hi : Ref.a i = r
     ·right; left
      rw [hi, hg'] at hgi
      simp only [Option.some.injEq, Ent.mk.injEq] at hgi
      rw [← hgi.2]
      simp only [plL_app, plL_take hpl, hp, plL_drop hpl, Bool.and_self]
     ·exact .inl ⟨ver', b', by rw [← hgi]; exact (Heap.get_put_other hi).symm, rfl⟩
   ·by_cases hrs : r = .l s
    ·obtain ⟨v', h', R, W, c', k⟩ := app_new (env := env) (d := d) (fs := fs) (h := h) N hs hL (xs := (b.es.drop off).take len) (vs := vs) (n := len) (sz := sz) (by simp only [plL_app, hview, hp, Bool.and_self])
      (fun x hx' => by
       rcases List.mem_append.1 hx' with hx' | hx'
       ·exact hvc x hx'
       ·exact hc x hx') hvl rfl
     rw [nrmL_app, ← hx] at k
     refine ⟨v', h', [r] ++ R, [] ++ W, c', ?_, k.nu, k.t, k.w, k.mu, k.nm, k.ll, k.la, trOk_app hTr k.rd, k.wr, k.al, k.be, k.fl⟩
     unfold appendTok
     refine HM.runT_bind_of (liveBlk_runT hget) ?_
     rw [if_pos hguard, if_neg hroom, if_pos hrs]
     exact k.run
    ·have hver : ∀ i, r = .a i → (⟨ver, none⟩ : Ent).ver = 0 := fun i hi => by
      rw [hi] at hget; have h0 := Heap.ver_a hget; exact h0
     obtain ⟨v', h', R, W, c', k⟩ := app_new (env := env) (d := d) (fs := fs) (h := h.put r ⟨ver, none⟩) N hs (by rw [(put_len _ _ _).1]; exact hL) (xs := (b.es.drop off).take len) (vs := vs) (n := len) (sz := sz) (by simp only [plL_app, hview, hp, Bool.and_self])
      (fun x hx' => by
       rcases List.mem_append.1 hx' with hx' | hx'
       ·exact hvc x hx'
       ·exact hc x hx') hvl rfl
     rw [nrmL_app, ← hx] at k
     refine ⟨v', h', [r] ++ R, [] ++ (r :: W), c', ?_, k.nu, k.t, k.w, ?_, k.nm, by rw [k.ll, (put_len _ _ _).1], by rw [k.la, (put_len _ _ _).2], trOk_app hTr k.rd, ?_, k.al, k.be, ?_⟩
     ·unfold appendTok
      refine HM.runT_bind_of (liveBlk_runT hget) ?_
      rw [if_pos hguard, if_neg hroom, if_neg hrs]
      simp only [HM.runT, hget]
      rw [k.run]
     ·refine ⟨fun q hq => ?_, k.mu.i, fun _ _ => rfl⟩
      have h1 := k.mu.n q hq
      rw [h1.1, h1.2]
      refine ⟨Heap.get_put_other ?_, rfl⟩
      rintro rfl
      exact (inK_false.1 hq).2 hnm
     ·intro q hq
      rcases List.mem_cons.1 hq with rfl | hq
      ·exact ⟨hnd, hsr⟩
      ·exact k.wr q hq
     ·refine FlOk.trans (fun i ver' b' hgi => ?_) k.fl
      by_cases hi : Ref.a i = r
      ·rw [hi, Heap.get_put_same hget hver] at hgi; simp at hgi
      ·exact .inl ⟨ver', b', by rw [← hgi]; exact (Heap.get_put_other hi).symm, rfl⟩
end
end Gv
