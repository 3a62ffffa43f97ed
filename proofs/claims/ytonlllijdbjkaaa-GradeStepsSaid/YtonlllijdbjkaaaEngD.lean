/- Eng9, EngL, Eng10, laid together. No condition. -/
import Derived.Test.YtonlllijdbjkaaaEngC
import Derived.Test.YtonlllijdbjkaaaEngB
/- A symbolic way through the code of a call: the way itself, and that it is the code's. No condition. -/
set_option linter.unusedVariables false
namespace Go.Proofs.Ytonlllijdbjkaaa
open Go.RowKit

/-! ### Answers written out at once (the kernel goes on with what it sees) -/
section
variable {R : Type}
def fB (b : Bool) (k : Bool → R) : R := match b with | true => k true | false => k false
def fN (n : Nat) (k : Nat → R) : R := match n with | 0 => k 0 | n + 1 => k (n + 1)
def fI (n : Int) (k : Int → R) : R := match n with | .ofNat m => fN m fun m => k (.ofNat m) | .negSucc m => fN m fun m => k (.negSucc m)
def fV (kn : Bool) (v : Value) (k : Value → R) : R :=
  match v with
  | .int kd n => bif kn then fI n fun n => k (.int kd n) else k (.int kd n)
  | .bool b => bif kn then fB b fun b => k (.bool b) else k (.bool b)
  | v => k v
def fCV (c : CV) (k : CV → R) : R :=
  match c with
  | .val kn v => fB kn fun kn => fV kn v fun v => k (.val kn v)
  | .ptr id off => fN id fun id => fN off fun off => k (.ptr id off)
  | .eptr id off => fN id fun id => fN off fun off => k (.eptr id off)
  | .sl id off len cap => fN id fun id => fN off fun off => fN len fun len => fN cap fun cap => k (.sl id off len cap)
  | .ext id => fN id fun id => k (.ext id)
  | .fn f caps => k (.fn f caps)
  | .bm f cs => k (.bm f cs)
  | .tab kd n l => k (.tab kd n l)
def fL {α : Type} (f : α → (α → R) → R) : List α → (List α → R) → R
  | [], k => k []
  | a :: l, k => f a fun a => fL f l fun l => k (a :: l)
def fSV (s : SV) (k : SV → R) : R := match s with | .one c => fCV c fun c => k (.one c) | .agg cs => fL fCV cs fun cs => k (.agg cs)
def fRV (r : RV) (k : RV → R) : R := match r with | .sv s => fSV s fun s => k (.sv s) | .tup l => fL fSV l fun l => k (.tup l) | .dead => k .dead
def fHO (o : HO) (k : HO → R) : R := match o with | .cells cs t => fL fCV cs fun cs => k (.cells cs t) | .grid sh l => k (.grid sh l) | .row sh t l => k (.row sh t l) | .elem id i w => fN id fun id => fN w fun w => k (.elem id i w) | .gone => k .gone | .tie g i x => fB g fun g => fN i fun i => fN x fun x => k (.tie g i x) | .part id i w n => fN id fun id => fN w fun w => k (.part id i w n) | .lent cs t => fL fCV cs fun cs => k (.lent cs t)
def fE (p : Nat × HO) (k : Nat × HO → R) : R := match p with | (i, o) => fN i fun i => fHO o fun o => k (i, o)
def fId {α : Type} (a : α) (k : α → R) : R := k a
def fSp {α : Type} : List α → (List α → R) → R
  | [], k => k []
  | a :: l, k => fSp l fun l => k (a :: l)
theorem fSp_eq {α : Type} : ∀ (l : List α) (k : List α → R), fSp l k = k l := by
  intro l
  induction l with
  | nil => intro k; rfl
  | cons a l ih => intro k; simp [fSp, ih]
def fSt (s : St) (k : St → R) : R := fSp s.fr fun fr => fSp s.hp fun hp => fN s.nx fun nx => k ⟨fr, hp, nx, s.W⟩
theorem fB_eq (b : Bool) (k : Bool → R) : fB b k = k b := by cases b <;> rfl
theorem fN_eq (n : Nat) (k : Nat → R) : fN n k = k n := by cases n <;> rfl
theorem fI_eq (n : Int) (k : Int → R) : fI n k = k n := by cases n <;> simp [fI, fN_eq]
theorem fV_eq (kn : Bool) (v : Value) (k : Value → R) : fV kn v k = k v := by
  cases v <;> first | rfl | (cases kn <;> simp [fV, fI_eq, fB_eq])
theorem fCV_eq (c : CV) (k : CV → R) : fCV c k = k c := by
  cases c <;> simp [fCV, fN_eq, fB_eq, fV_eq]
theorem fL_eq {α : Type} (f : α → (α → R) → R) (hf : ∀ a k, f a k = k a) : ∀ (l : List α) (k : List α → R), fL f l k = k l := by
  intro l
  induction l with
  | nil => intro k; rfl
  | cons a l ih => intro k; simp [fL, hf, ih]
theorem fSV_eq (s : SV) (k : SV → R) : fSV s k = k s := by
  cases s <;> simp [fSV, fCV_eq, fL_eq fCV fCV_eq]
theorem fRV_eq (r : RV) (k : RV → R) : fRV r k = k r := by
  cases r <;> simp [fRV, fSV_eq, fL_eq fSV fSV_eq]
theorem fSt_eq (s : St) (k : St → R) : fSt s k = k s := by simp [fSt, fSp_eq, fN_eq]
theorem fHO_eq (o : HO) (k : HO → R) : fHO o k = k o := by
  cases o <;> simp [fHO, fL_eq fCV fCV_eq, fN_eq, fB_eq]
theorem fE_eq (p : Nat × HO) (k : Nat × HO → R) : fE p k = k p := by
  obtain ⟨i, o⟩ := p
  simp [fE, fN_eq, fHO_eq]
end
/-- What is laid side by side: values, what must hold, a test, where a piece of code leads, code. -/
inductive Item where
  | v (x : Value)
  | ob (n : Nat) (b : Bool)
  | br (n : Nat) (b : Bool)
  | st (fr : List RV) (hp : List HO)
  | code (c : Code)
  | hp (h : Hp)
  | no
/-- What a way may answer: a proposition, or two rows that are to be equal. -/
structure Alg (R : Type) where
  fail : R
  ob : Nat → Bool → R → R
  eqI : Item → Item → R → R
  br : Nat → Bool → R → R → R
abbrev CallF (R : Type) := FuncId → List RV → Hp → Nat → (Out → R) → R
def Must (p : Option Bool) : Prop := ∀ b, p = some b → b = true
/-- What is known of a function without a look at its text; it may ask that something holds. -/
structure Con (P : Program) where
  f : FuncId
  g : List RV → Hp → Nat → Option (Option Bool × Out)
  ok : ∀ args hp nx p out, Names args hp nx → g args hp nx = some (p, out) → Must p → CallOk P f args hp nx out
/-- Where a piece of code leads. -/
inductive LR where
  | one (ex : Ex) (s : St)
  | br (b : Bool) (x y : LR)
def LR.has : LR → Ex → St → Prop
  | .one ex s, ex', s' => ex' = ex ∧ s' = s
  | .br b x y, ex', s' => if b = true then x.has ex' s' else y.has ex' s'
/-- What is known of a piece of code (a loop): from the place S on, whose names stand for those of rn (or for nothing yet). -/
structure LoopCon (P : Program) where
  n0 : Nat
  c : Code
  rn : List (Nat × Option Nat)
  S : St
  pre : Option Bool
  r : LR
  ok : Must pre → CodeTo P n0 c S r.has
/-- How a function's code is gone through: 'am': its equalities are to hold; 'rows': a slice that is written out is a row of its own. -/
structure Mode where
  am : Bool
  rows : Bool
instance : Coe Bool Mode := ⟨fun b => ⟨b, false⟩⟩
/-- What is known ahead: functions' contracts; pieces of code that are shown beside (by their block and the next free name); functions whose equalities are to hold; tests that are settled, each by the next free name where it is met; how deep the two ways of a test are joined. -/
structure Cfg (P : Program) where
  cons : List (Con P)
  hooks : FuncId → Nat → St → Option (LoopCon P)
  am : FuncId → Mode
  facts : Nat → Option (Bool × Bool)
  join : FuncId → Nat
def goesIn (P : Program) (g : FuncId) : Bool :=
  match P.funcs[g]? with
  | some fn => !(fn.name == "runtime.NumGoroutine") && !fn.body.isNone
  | none => false
def bmCV : BV → CV
  | .inl v => .val false v
  | .inr id => .ext id
  | .sl id off len cap => .sl id off len cap
def calleeOf (get : Operand → RV) (c : Call) : Option (FuncId × List RV × List (Nat × Nat)) :=
  match c.callee with
  | .value f => (match get f with
    | .sv (.one (.fn g caps)) => some (g, [], caps)
    | .sv (.one (.bm g cs)) => some (g, [.sv (.agg (cs.map bmCV))], [])
    | _ => none)
  | _ => none
def ptrRV (p : Nat × Nat) : RV := .sv (.one (.ptr p.1 p.2))
def CV.unk : CV → CV
  | .val _ v => .val false v
  | c => c
def SV.unk : SV → SV
  | .one c => .one c.unk
  | .agg cs => .agg (cs.map CV.unk)
def RV.unk : RV → RV
  | .sv s => .sv s.unk
  | .tup l => .tup (l.map SV.unk)
  | .dead => .dead
def HO.unk : HO → HO
  | .cells cs t => .cells (cs.map CV.unk) t
  | o => o
/-! ### A place under other names -/
def rnL : List (Nat × Option Nat) → Nat → Option (Option Nat)
  | [], _ => none
  | (i, o) :: r, id => bif Nat.beq i id then some o else rnL r id
def renId (n0 : Nat) (rn : List (Nat × Option Nat)) (id : Nat) : Option (Option Nat) := bif Nat.blt id n0 then some (some id) else rnL rn id
def ren1 (n0 : Nat) (rn : List (Nat × Option Nat)) (id : Nat) : Nat := match renId n0 rn id with | some (some i) => i | _ => 0
def okId (n0 : Nat) (rn : List (Nat × Option Nat)) (m id : Nat) : Bool := Nat.blt id m && (match renId n0 rn id with | some (some _) => true | _ => false)
def bmMap (g : Nat → Nat) : BV → BV
  | .inl v => .inl v
  | .inr id => .inr (g id)
  | .sl id off len cap => .sl (g id) off len cap
def CV.okR (n0 : Nat) (rn : List (Nat × Option Nat)) (m : Nat) : CV → Bool
  | .val _ _ => true
  | .ext id => Nat.blt id m && (match renId n0 rn id with | some _ => true | none => false)
  | .ptr id _ => okId n0 rn m id
  | .eptr id _ => okId n0 rn m id
  | .sl id _ _ _ => okId n0 rn m id
  | .fn _ caps => caps.all fun p => okId n0 rn m p.1
  | .bm _ cs => cs.all fun p => (bmIds p).all fun id => okId n0 rn m id
  | .tab _ _ _ => true
def CV.ren (n0 : Nat) (rn : List (Nat × Option Nat)) : CV → CV
  | .val _ v => .val false v
  | .ext id => (match renId n0 rn id with | some (some i) => .ext i | _ => .val false (.slice none 0 0))
  | .ptr id off => .ptr (ren1 n0 rn id) off
  | .eptr id off => .eptr (ren1 n0 rn id) off
  | .sl id off len cap => .sl (ren1 n0 rn id) off len cap
  | .fn f caps => .fn f (caps.map fun p => (ren1 n0 rn p.1, p.2))
  | .bm f cs => .bm f (cs.map (bmMap (ren1 n0 rn)))
  | .tab k n l => .tab k n l
def SV.okR (n0 : Nat) (rn : List (Nat × Option Nat)) (m : Nat) : SV → Bool
  | .one c => c.okR n0 rn m
  | .agg cs => cs.all (CV.okR n0 rn m)
def SV.ren (n0 : Nat) (rn : List (Nat × Option Nat)) : SV → SV
  | .one c => .one (c.ren n0 rn)
  | .agg cs => .agg (cs.map (CV.ren n0 rn))
def RV.okR (n0 : Nat) (rn : List (Nat × Option Nat)) (m : Nat) : RV → Bool
  | .sv s => s.okR n0 rn m
  | .tup l => l.all (SV.okR n0 rn m)
  | .dead => true
def RV.ren (n0 : Nat) (rn : List (Nat × Option Nat)) : RV → RV
  | .sv s => .sv (s.ren n0 rn)
  | .tup l => .tup (l.map (SV.ren n0 rn))
  | .dead => .dead
def HO.okR (n0 : Nat) (rn : List (Nat × Option Nat)) (m : Nat) : HO → Bool
  | .cells cs _ => cs.all (CV.okR n0 rn m)
  | .elem id _ _ => okId n0 rn m id
  | .tie _ k _ => okId n0 rn m k
  | .part id _ _ _ => okId n0 rn m id
  | .lent _ _ => false
  | _ => true
def HO.ren (n0 : Nat) (rn : List (Nat × Option Nat)) : HO → HO
  | .cells cs t => .cells (cs.map (CV.ren n0 rn)) t
  | .elem id i w => .elem (ren1 n0 rn id) i w
  | .tie g k x => .tie g (ren1 n0 rn k) x
  | .part id i w n => .part (ren1 n0 rn id) i w n
  | o => o
/-- What lies under the old name, as the new one sees it: a row of one's own may be read alone from now on. -/
def seen (old : Bool) : HO → HO → HO
  | .grid _ _, .row sh t l => bif old then .row sh t l else .grid sh l
  | .gone, _ => .gone
  | _, o => o.unk
def nilled : HO → HO
  | .row sh t _ => .row sh t []
  | .grid sh _ => .grid sh []
  | o => .gone
def landFr (n0 : Nat) (rn : List (Nat × Option Nat)) : List RV → List RV → List RV × List RV
  | .dead :: l, _ :: l' => landFr n0 rn l l'
  | r :: l, r' :: l' => (fun p : List RV × List RV => (r.ren n0 rn :: p.1, r'.unk :: p.2)) (landFr n0 rn l l')
  | _, _ => ([], [])
def landHp (n0 : Nat) (rn : List (Nat × Option Nat)) (hp : Hp) : Hp → Option (List HO × List HO)
  | [] => some ([], [])
  | (id, o) :: l => (match landHp n0 rn hp l with
    | some p => (match renId n0 rn id with
      | some (some i) => (match hlook hp i with
        | some o' => some (o.ren n0 rn :: p.1, seen (Nat.blt id n0) o o' :: p.2)
        | none => none)
      | some none => some (o :: p.1, nilled o :: p.2)
      | none => none)
    | none => none)
def srcs (n0 : Nat) (rn : List (Nat × Option Nat)) : Hp → List Nat
  | [] => []
  | (id, _) :: l => (match renId n0 rn id with | some (some i) => i :: srcs n0 rn l | _ => srcs n0 rn l)
def distinct : List Nat → Bool
  | [] => true
  | i :: l => !l.any (Nat.beq i) && distinct l
/-- A slice that is read alone, under one name more. -/
def lentB (n0 : Nat) (rn : List (Nat × Option Nat)) (hp : Hp) (p : Nat × HO) : Bool := match p.2 with
  | .grid _ _ => (match renId n0 rn p.1 with
    | some (some i) => (match hlook hp i with
      | some (.grid _ _) => true
      | _ => false)
    | _ => false)
  | _ => false
def HO.isGone : HO → Bool
  | .gone => true
  | _ => false
def handB (n0 : Nat) (rn : List (Nat × Option Nat)) (W : List Nat) (id : Nat) : Bool := match renId n0 rn id with
  | some (some i) => W.any (Nat.beq i)
  | _ => false
def landB (n0 : Nat) (rn : List (Nat × Option Nat)) (S s : St) : Bool :=
  Nat.beq S.fr.length s.fr.length && S.fr.all (RV.okR n0 rn S.nx) && S.hp.all (fun p => Nat.blt p.1 S.nx && p.2.okR n0 rn S.nx && (Nat.blt p.1 n0 || Nat.ble n0 (ren1 n0 rn p.1) || (match renId n0 rn p.1 with | some none => true | _ => false) || lentB n0 rn s.hp p || handB n0 rn S.W p.1)) &&
  distinct (srcs n0 rn (S.hp.filter fun p => !lentB n0 rn s.hp p && !p.2.isGone)) && distinct (S.hp.map (·.1)) && s.W.all (fun id => Nat.ble n0 id || S.W.any (Nat.beq id)) && Nat.ble n0 S.nx
/-! ### Two ways that meet again -/
/-- Both ways of a test: what must be equal, what is asked, where they meet. -/
structure JRes where
  l : List Item
  r : List Item
  obs : Option Bool
  s : St
/-- How ways are joined: those of a test; those of a region whose guards are open. -/
structure JoinF where
  c : Operand → Bool → Code → Code → St → Option JRes
  r : Array Oper → Bool → St → Option JRes
def eqL {R : Type} (A : Alg R) : List Item → List Item → R → R
  | [], [], K => K
  | x :: l, y :: r, K => A.eqI x y (eqL A l r K)
  | _, _, _ => A.fail
def obO {R : Type} (A : Alg R) (nx : Nat) : Option Bool → R → R
  | none, K => K
  | some b, K => A.ob nx b K
section
variable {R : Type} (A : Alg R) (P : Program) (facts : Nat → Option (Bool × Bool))
def settle (nx : Nat) (b : Bool) (K : R) : R :=
  match facts nx with
  | some (b', true) => A.eqI (.v (.bool b)) (.v (.bool b')) K
  | _ => A.ob nx b K
/-- Operations that ask for something. -/
def asks (o : Oper) (get : Operand → RV) (hp : Hp) (nx : Nat) : Option (Bool × Out) :=
  match o.op with
  | .indexAddr t x i => (match opIndexE P get hp nx t x i with
    | some q => some q
    | none => (match opIndexA P get hp nx t x i with
      | some q => some q
      | none => (match opIndexG P get hp nx t x i with
        | some q => some q
        | none => opIndexP P get hp nx t x i)))
  | .load t x => opLoadA P get hp nx t x
  | .store t x y => opStoreA P get hp nx t x y
  | .box t x => opBoxT P get nx t x
  | .slice t x lo hi mx => (match opSliceE P get hp nx t x lo hi mx with
    | some q => some q
    | none => (match opSliceP P get hp nx t x lo hi mx with
      | some q => some q
      | none => opSliceQ P get hp nx t x lo hi mx))
  | .makeSlice t x y => opMake P get nx t x y
  | .convert s d x => opConv P get hp nx s d x
  | .binOp .add _ _ _ _ => opStr P o get nx
  | .binOp .quo _ _ _ _ => opDiv o get nx
  | .binOp .rem _ _ _ _ => opDiv o get nx
  | .binOp .shl _ _ _ _ => opShift o get nx
  | .binOp .shr _ _ _ _ => opShift o get nx
  | .binOp .eql t x y _ => opNilS P get hp nx .eql t x y
  | .binOp .neq t x y _ => opNilS P get hp nx .neq t x y
  | .index t x i => (match opIndexV P get nx t x i with
    | some q => some q
    | none => (match opIndexT P get nx t x i with
      | some q => some q
      | none => opStr P o get nx))
  | .sliceToArrayPointer t x => opArrAt P get hp nx t x
  | .call c => (match c.callee, c.args.toList, c.argTypes.toList with
    | .builtin .append, [x, y], [t, t'] => bif Nat.beq t t' then (match opAppend P get hp nx t x y with
      | some q => some q
      | none => (match opAppendT P get hp nx t x y with
        | some q => some q
        | none => opAppendF P get hp nx t x y)) else none
    | .builtin .copy, [x, y], [t, _] => opCopyP P get hp nx t x y
    | .builtin .unsafeSliceData, [x], _ => opSlData get hp nx x
    | .builtin .unsafeString, [x, y], [pt, _] => opUStr P get hp nx pt x y
    | _, _, _ => none)
  | _ => none
def more (o : Oper) (get : Operand → RV) (hp : Hp) (nx : Nat) : Option Out :=
  match o.op with
  | .load t x => (match opLoadE P get hp nx t x with
    | some out => some out
    | none => opLoadL P get hp nx t x)
  | .store t x y => opStoreE P get hp nx t x y
  | .binOp op t x y _ => (match opEqT P get nx op t x y with
    | some out => some out
    | none => (match opNil P get nx op t x y with
      | some out => some out
      | none => opNilF P get nx op t x y))
  | .slice t x lo hi mx => opSliceL P get nx t x lo hi mx
  | .build t ps => opBuildT P get nx t ps
  | .call c => (match c.callee, c.args.toList, c.argTypes.toList with
    | .builtin .copy, [x, y], [t, _] => (match opCopyN P get nx t x y with
      | some out => some out
      | none => opCopy P get hp nx t x y)
    | .builtin .len, [x], [t] => opLenP P get hp nx t x
    | _, _, _ => none)
  | _ => none
def evSimple (o : Oper) (get : Operand → RV) (hp : Hp) (nx : Nat) (K : Out → R) : R :=
  match asks P o get hp nx with
  | some (b, out) => settle A facts nx b (K out)
  | none => (match more P o get hp nx with
    | some out => K out
    | none => (match simple P o get hp nx with
      | some out => bif out.up.all (fun p => p.2.ids.all (fun i => Nat.blt i nx)) then K out else A.fail
      | none => A.fail))
/-- What goes several ways, by an open number. -/
def waysOf (o : Oper) (get : Operand → RV) (hp : Hp) (nx : Nat) : Option (List (Bool × Out)) :=
  match o.op with
  | .load t x => loadWays P get hp nx t x
  | _ => idxOpen P o get nx
/-- A test that is met. -/
def meet (nx : Nat) (b : Bool) (K : Bool → R) : R :=
  match facts nx with
  | some (b', d) => A.eqI (.v (.bool b)) (.v (.bool b')) (K d)
  | none => A.br nx b (K true) (K false)
/-- One of some ways, by an open number; the last one is asked. -/
def pickAlt (nx : Nat) (K : Out → R) : List (Bool × Out) → R
  | [] => A.fail
  | [p] => settle A facts nx p.1 (K p.2)
  | p :: q :: r => meet A facts nx p.1 fun d => bif d then K p.2 else pickAlt nx K (q :: r)
/-- An equality that is to hold. -/
def evEq (o : Oper) (get : Operand → RV) (hp : Hp) (nx : Nat) (t : TypeId) (x y : Operand) (K : Out → R) : R :=
  match get x, get y with
  | .sv (.one (.val false (.bool b))), .sv (.one (.val true (.bool d'))) => meet A facts nx b fun d => (match P.underlying t with
      | some .bool => K (boolOut true (nx + 1) (d == d'))
      | _ => A.fail)
  | .sv (.one (.val true (.bool d'))), .sv (.one (.val false (.bool b))) => meet A facts nx b fun d => (match P.underlying t with
      | some .bool => K (boolOut true (nx + 1) (d' == d))
      | _ => A.fail)
  | .sv s, .sv s' => bif s.ids.isEmpty && s'.ids.isEmpty && !P.eqGuardType P.depth t then
      (match eqSym P 64 t (s.den env0) (s.den env0) with
      | some _ => A.eqI (.v (s.den env0)) (.v (s'.den env0)) (K (boolOut true nx true))
      | none => A.fail) else A.fail
  | _, _ => A.fail
def evOp0 (call : CallF R) (am : Mode) (o : Oper) (get : Operand → RV) (hp : Hp) (nx : Nat) (K : Out → R) : R :=
  match o.op with
  | .call c => (match calleeOf get c with
    | some (g, fs, caps) => bif goesIn P g then call g (fs ++ c.args.toList.map get ++ caps.map ptrRV) hp nx K else A.fail
    | none => evSimple A P facts o get hp nx K)
  | .binOp .eql t x y _ => bif am.am then evEq A P facts o get hp nx t x y K else evSimple A P facts o get hp nx K
  | .buildSlice t n ps => bif am.rows then (match opBuildRow P get nx t n ps with
    | some out => K out
    | none => evSimple A P facts o get hp nx K) else evSimple A P facts o get hp nx K
  | .box t x => bif am.rows then (match opBoxA P get nx t x with
    | some out => K out
    | none => evSimple A P facts o get hp nx K) else evSimple A P facts o get hp nx K
  | .alloc t => bif am.rows then (match opAllocA P nx t with
    | some out => K out
    | none => evSimple A P facts o get hp nx K) else evSimple A P facts o get hp nx K
  | _ => bif am.rows then (match waysOf P o get hp nx with
    | some l => pickAlt A facts nx K l
    | none => evSimple A P facts o get hp nx K) else evSimple A P facts o get hp nx K
/-- How long a slice was that is used up: told, where the region asks for it behind. -/
def keepLen (hp : Hp) : Hp → Hp
  | [] => []
  | (id, .gone) :: r => (match hlook hp id with | some (.row sh _ l) => (id, .part id 0 sh.length l.length) :: keepLen hp r | _ => keepLen hp r)
  | _ :: r => keepLen hp r
def Out.keep (hp : Hp) (out : Out) : Out := ⟨out.v, keepLen hp out.up ++ out.up, out.nx, out.W⟩
def isLen (o : Oper) : Bool := match o.op with
  | .call c => (match c.callee with | .builtin .len => true | _ => false)
  | _ => false
def kpOf (o : Oper) (rest : List Oper) : Bool := match o.op with
  | .call c => (match c.callee with | .builtin .append => rest.any isLen | _ => false)
  | _ => false
def evOp (call : CallF R) (am : Mode) (kp : Bool) (o : Oper) (get : Operand → RV) (hp : Hp) (nx : Nat) (K : Out → R) : R :=
  evOp0 A P facts call am o get hp nx fun out => K (bif kp then out.keep hp else out)
def knownB (d : Bool) : RV := .sv (.one (.val true (.bool d)))
def decideRV (isG : Bool) (nx : Nat) (v : RV) (K : RV → Nat → R) : R :=
  match isG, v with
  | true, .sv (.one (.val false (.bool b))) => meet A facts nx b fun d => K (knownB d) (nx + 1)
  | _, _ => K v nx
def isGuard (ops : List Oper) (i : Nat) : Bool := ops.any fun o => match o.guard with | some (g, _) => Nat.beq g i | none => false
def boundOk (d : Option Nat) (n : Nat) : Bool := match d with | some d => Nat.blt d n | none => true
def liveOps (fr : List RV) (o : Oper) : Bool := o.op.operands.toList.all fun x => !(opnd fr x).isDead
/-- The names that tell of package variables; that tell how much a slice may hold. -/
def tiesL (hp : Hp) : Hp → List Nat
  | [] => []
  | (i, .tie true k _) :: r => (match hlook hp i with | some (.tie true _ _) => i :: k :: tiesL hp r | _ => tiesL hp r)
  | _ :: r => tiesL hp r
def ties (hp : Hp) : List Nat := tiesL hp hp
def capTies (hp : Hp) (ids : List Nat) : Hp → List Nat
  | [] => []
  | (i, .tie false k _) :: r => bif ids.any (Nat.beq k) then i :: capTies hp ids r else capTies hp ids r
  | _ :: r => capTies hp ids r
/-- What memory an operation may look at: what its operands lead to; nothing, where it only makes an address. -/
def looksAt (o : Oper) (fr : List RV) (hp : Hp) : List Nat :=
  match o.op with
  | .move _ => []
  | .assign _ => []
  | .nilCheck _ => []
  | .fieldAddr _ _ _ => []
  | .load _ x => (opnd fr x).ids.flatMap fun i => i :: (match hlook hp i with | some (.elem j _ _) => [j] | _ => [])
  | .indexAddr _ (.global g) _ => ties hp
  | .call c => (match c.callee, c.args.toList with
    | .builtin .append, x :: _ => reach hp 400 (o.op.operands.toList.flatMap fun x => (opnd fr x).ids) [] ++ capTies hp (opnd fr x).ids hp
    | .builtin _, _ => reach hp 400 (o.op.operands.toList.flatMap fun x => (opnd fr x).ids) []
    | _, _ => reach hp 400 (o.op.operands.toList.flatMap fun x => (opnd fr x).ids) [] ++ ties hp)
  | _ => reach hp 400 (o.op.operands.toList.flatMap fun x => (opnd fr x).ids) []
def evOps (call : CallF R) (am : Mode) (ops : Array Oper) : List Oper → List RV → Hp → Nat → List Tr → (List RV → Hp → Nat → List Tr → R) → R
  | [], fr, hp, nx, trs, K => K fr hp nx trs
  | o :: rest, fr, hp, nx, trs, K =>
    let run : R := bif liveOps fr o then fL fN (looksAt o fr hp) fun Rs => evOp A P facts call am (kpOf o rest) o (opnd fr) (restrict hp Rs) nx fun out =>
      fRV out.v fun ov => fL fE out.up fun oup => fN out.nx fun onx => fL fN out.W fun oW =>
      bif okOut (restrict hp Rs) nx ov oup onx oW && boundOk o.dst fr.length then
        decideRV A facts (isGuard ops.toList trs.length) onx ov fun v nx' => fL fId (putL fr o.dst v) fun fr' =>
          evOps call am ops rest fr' (oup ++ hp) nx' (⟨o.dst, v, oup, oW, Rs, nx, nx', looksOf ops o⟩ :: trs) K
      else A.fail else A.fail
    match o.guard with
    | none => run
    | some (g, want) => match (ops[g]?).bind (·.dst) with
      | some s => (match fr.getD s RV.und with
        | .sv (.one (.val _ (.bool b))) => bif b == want then run else
          (bif boundOk o.dst fr.length then evOps call am ops rest (putL fr o.dst RV.und) hp nx (⟨o.dst, RV.und, [], [], [], nx, nx, looksOf ops o⟩ :: trs) K else A.fail)
        | .sv (.one (.val true (.tuple ⟨[]⟩))) =>
          (bif boundOk o.dst fr.length then evOps call am ops rest (putL fr o.dst RV.und) hp nx (⟨o.dst, RV.und, [], [], [], nx, nx, looksOf ops o⟩ :: trs) K else A.fail)
        | _ => A.fail)
      | none => A.fail
def decSt (st : St) (c : Operand) (d : Bool) : St := match c with
  | .tmp s => { st with fr := st.fr.set s (knownB d), nx := st.nx + 1 }
  | _ => { st with nx := st.nx + 1 }
def evLoop (body : St → (Ex → St → R) → R) : Nat → St → (Ex → St → R) → R
  | 0, _, _ => A.fail
  | n + 1, st, K => body st fun ex s => match ex with
    | .normal => evLoop body n s K
    | .exit i => K (.exit i) s
    | .ret => K .ret s
/-- To the place S, under other names. -/
def evLand (n0 : Nat) (rn : List (Nat × Option Nat)) (S s : St) (K : R) : R :=
  bif landB n0 rn S s then (match landHp n0 rn s.hp S.hp with
    | some p => A.eqI (.st (landFr n0 rn S.fr s.fr).1 p.1) (.st (landFr n0 rn S.fr s.fr).2 p.2) K
    | none => A.fail) else A.fail
def namesB (s : St) : Bool := s.fr.all (fun r => r.ids.all fun i => Nat.blt i s.nx) && s.hp.all (fun p => Nat.blt p.1 s.nx && p.2.ids.all fun i => Nat.blt i s.nx)
def evLR (m : Nat) : LR → Nat → (Ex → St → R) → R
  | .one ex s, _, K => bif namesB s && Nat.ble m s.nx then K ex s else A.fail
  | .br b x y, n, K => meet A facts n b fun d => bif d then evLR m x (n + 1) K else evLR m y (n + 1) K
def evCode (call : CallF R) (hook : Nat → St → Option (LoopCon P)) (jn : JoinF) (n0 : Nat) (am : Mode) : Code → St → (Ex → St → R) → R
  | .skip, st, K => K .normal st
  | .label _, st, K => K .normal st
  | .exit id, st, K => K (.exit id) st
  | .ret, st, K => K .ret st
  | .region _ ops draw, st, K => match jn.r ops draw st with
    | some j => eqL A j.l j.r (obO A st.nx j.obs (fL fRV j.s.fr fun fr => fL fE j.s.hp fun hp => fN j.s.nx fun nx => fL fN j.s.W fun W => K .normal ⟨fr, hp, nx, W⟩))
    | none => evOps A P facts call am ops ops.toList st.fr st.hp st.nx [] fun fr hp nx trs =>
      bif !draw || (P.follows .mixedOrders && edgesBack ops.toList 0 && chkAll trs (masks ops.toList [])) then K .normal ⟨fr, hp, nx, wsT st.W trs⟩ else A.fail
  | .seq x y, st, K => evCode call hook jn n0 am x st fun ex s => match ex with
    | .normal => evCode call hook jn n0 am y s K
    | .exit i => K (.exit i) s
    | .ret => K .ret s
  | .cond c x y, st, K => match opnd st.fr c with
    | .sv (.one (.val k (.bool b))) => bif k then (bif b then evCode call hook jn n0 am x st K else evCode call hook jn n0 am y st K) else
        (match facts st.nx with
        | some _ => meet A facts st.nx b fun d => bif d then evCode call hook jn n0 am x (decSt st c true) K else evCode call hook jn n0 am y (decSt st c false) K
        | none => (match jn.c c b x y st with
          | some j => eqL A j.l j.r (obO A st.nx j.obs (fL fRV j.s.fr fun fr => fL fE j.s.hp fun hp => fN j.s.nx fun nx => fL fN j.s.W fun W => K .normal ⟨fr, hp, nx, W⟩))
          | none => meet A facts st.nx b fun d => bif d then evCode call hook jn n0 am x (decSt st c true) K else evCode call hook jn n0 am y (decSt st c false) K))
    | _ => A.fail
  | .block id c, st, K => (match hook id st with
    | some lc => bif Nat.beq lc.n0 n0 && Nat.ble st.nx lc.S.nx && st.W.all (fun i => Nat.ble n0 i || lc.S.W.any (Nat.beq i)) then
        A.eqI (.code lc.c) (.code (.block id c)) (evLand A n0 lc.rn lc.S st (match lc.pre with
          | some b => settle A facts st.nx b (evLR A facts lc.S.nx lc.r (st.nx + 1) K)
          | none => evLR A facts lc.S.nx lc.r (st.nx + 1) K)) else A.fail
    | none =>
      evCode call hook jn n0 am c st fun ex s => match ex with
        | .normal => K .normal s
        | .exit i => bif Nat.beq i id then K .normal s else K (.exit i) s
        | .ret => K .ret s)
  | .loop c, st, K => evLoop A (evCode call hook jn n0 am c) 300 st K
  | .scope c, st, K => evCode call hook jn n0 am c st K
  | _, _, _ => A.fail
end
/-- Where a way leads, as it is joined with another. -/
structure JR where
  l : List Item
  r : List Item
  obs : Option Bool
  o : Option (Ex × St)
def algJ : Alg JR where
  fail := ⟨[], [], none, none⟩
  ob _ b r := match r with
    | ⟨l, k, some b', o⟩ => ⟨l, k, some (b && b'), o⟩
    | ⟨l, k, none, o⟩ => ⟨l, k, some b, o⟩
  eqI x y r := match r with
    | ⟨l, k, q, o⟩ => ⟨x :: l, y :: k, q, o⟩
  br _ _ _ _ := ⟨[], [], none, none⟩
def dmOps (l : List Oper) (m : Nat) : Nat := l.foldl (fun m o => match o.dst with | some d => Nat.lor m (Nat.shiftLeft 1 d) | none => m) m
/-- The slots that a piece of code writes (a bit each). -/
def dm : Code → Nat → Nat
  | .region _ ops _, m => dmOps ops.toList m
  | .seq x y, m => dm y (dm x m)
  | .cond c x y, m => dm y (dm x (match c with | .tmp s => Nat.lor m (Nat.shiftLeft 1 s) | _ => m))
  | .block _ c, m => dm c m
  | .loop c, m => dm c m
  | .scope c, m => dm c m
  | _, m => m
def mBit (m i : Nat) : Bool := Nat.beq (Nat.land (Nat.shiftRight m i) 1) 1
def joinCV (b : Bool) : CV → CV → Option CV
  | .val k (.int kd n), .val k' (.int kd' n') => if kd = kd' then some (bif k && k' then (bif decide (n = n') then .val true (.int kd n) else .val false (.int kd (bif b then n else n'))) else .val false (.int kd (bif b then n else n'))) else none
  | .val k (.bool x), .val k' (.bool x') => some (bif k && k' then (bif x == x' then .val true (.bool x) else .val false (.bool (bif b then x else x'))) else .val false (.bool (bif b then x else x')))
  | .val _ (.string x), .val _ (.string x') => some (.val false (.string (bif b then x else x')))
  | .val k (.slice none 0 0), .val _ (.slice none 0 0) => some (.val k (.slice none 0 0))
  | .val k (.pointer none), .val _ (.pointer none) => some (.val k (.pointer none))
  | .ptr i o, .ptr i' o' => bif Nat.beq i i' && Nat.beq o o' then some (.ptr i o) else none
  | .eptr i o, .eptr i' o' => bif Nat.beq i i' && Nat.beq o o' then some (.eptr i o) else none
  | .sl i o l c, .sl i' o' l' c' => bif Nat.beq i i' && Nat.beq o o' && Nat.beq l l' && Nat.beq c c' then some (.sl i o l c) else none
  | .ext i, .ext i' => bif Nat.beq i i' then some (.ext i) else none
  | .fn f cs, .fn f' cs' => if f = f' ∧ cs = cs' then some (.fn f cs) else none
  | _, _ => none
def joinL (b : Bool) : List CV → List CV → Option (List CV)
  | [], [] => some []
  | c :: l, c' :: l' => (match joinCV b c c', joinL b l l' with
    | some c, some l => some (c :: l)
    | _, _ => none)
  | _, _ => none
def joinRV (b : Bool) : RV → RV → RV
  | .sv (.one c), .sv (.one c') => (match joinCV b c c' with | some c => .sv (.one c) | none => .dead)
  | .sv (.agg l), .sv (.agg l') => (match joinL b l l' with | some l => .sv (.agg l) | none => .dead)
  | _, _ => .dead
def joinFr (b : Bool) (m : Nat) : Nat → List RV → List RV → List RV → List RV
  | i, r :: l, r1 :: l1, r2 :: l2 => (bif mBit m i then joinRV b r1 r2 else r) :: joinFr b m (i + 1) l l1 l2
  | _, _, _, _ => []
/-- What was not written must be as it was. -/
def unch (m : Nat) : Nat → List RV → List RV
  | i, r :: l => (bif mBit m i then .dead else r) :: unch m (i + 1) l
  | _, [] => []
def joinCells (b : Bool) (ch : Nat → Bool) : Nat → List CV → List CV → List CV → Option (List CV)
  | _, [], [], [] => some []
  | j, c :: l, c1 :: l1, c2 :: l2 => (match (bif ch j then joinCV b c1 c2 else some c), joinCells b ch (j + 1) l l1 l2 with
    | some c, some l => some (c :: l)
    | _, _ => none)
  | _, _, _, _ => none
def maskC (ch : Nat → Bool) : Nat → List CV → List CV
  | j, c :: l => (bif ch j then .val true undef else c) :: maskC ch (j + 1) l
  | _, [] => []
def joinHO (b : Bool) (ch : Nat → Bool) : HO → HO → HO → Option (HO × List Item × List Item)
  | .cells cs t, .cells cs1 t1, .cells cs2 t2 => bif Nat.beq t t1 && Nat.beq t t2 then (match joinCells b ch 0 cs cs1 cs2 with
    | some l => some (.cells l t, [.st [] [.cells (maskC ch 0 cs1) t], .st [] [.cells (maskC ch 0 cs2) t]], [.st [] [.cells (maskC ch 0 cs) t], .st [] [.cells (maskC ch 0 cs) t]])
    | none => none) else none
  | .row sh t _, .row sh1 t1 l1, .row sh2 t2 l2 => bif shEqL sh1 sh && shEqL sh2 sh && Nat.beq t1 t && Nat.beq t2 t then some (.row sh t (bif b then l1 else l2), [], []) else none
  | _, .gone, .gone => some (.gone, [], [])
  | _, _, _ => none
def logged (id j : Nat) : Hp → Bool
  | [] => false
  | (i, .elem _ off n) :: r => (Nat.beq i id && Nat.ble off j && Nat.blt j (off + n)) || logged id j r
  | _ :: r => logged id j r
def countV (id : Nat) : Hp → Nat × Nat
  | [] => (0, 0)
  | (i, .elem _ _ _) :: r => (fun p : Nat × Nat => bif Nat.beq i id then (p.1, p.2 + 1) else p) (countV id r)
  | (i, _) :: r => (fun p : Nat × Nat => bif Nat.beq i id then (p.1 + 1, p.2) else p) (countV id r)
def chOf (id : Nat) (pre : Hp) (j : Nat) : Bool := bif Nat.ble (countV id pre).1 (countV id pre).2 then logged id j pre else true
def joinHp (b : Bool) (hp hp1 hp2 pre : Hp) : List Nat → Option (Hp × List Item × List Item)
  | [] => some ([], [], [])
  | id :: r => (match hlook hp id, hlook hp1 id, hlook hp2 id with
    | some o0, some o1, some o2 => (match joinHO b (chOf id pre) o0 o1 o2, joinHp b hp hp1 hp2 pre r with
      | some (o, l, l'), some (J, k, k') => some ((id, o) :: J, l ++ k, l' ++ k')
      | _, _ => none)
    | _, _, _ => none)
/-- The old names of a list. -/
def addIds (n : Nat) : Hp → List Nat → List Nat
  | [], acc => acc
  | p :: r, acc => bif !Nat.blt p.1 n || acc.any (Nat.beq p.1) then addIds n r acc else addIds n r (p.1 :: acc)
def joinOb (b : Bool) : Option Bool → Option Bool → Option Bool
  | none, none => none
  | some k1, none => some (bif b then k1 else true)
  | none, some k2 => some (bif b then true else k2)
  | some k1, some k2 => some (bif b then k1 else k2)
def opBit : Operand → Nat
  | .tmp s => Nat.shiftLeft 1 s
  | _ => 0
def joinM (m : Nat) (b : Bool) (st : St) (R1 R2 : JR) (s1 s2 : St) : Option JRes :=
  fN m fun m => fL fE (s1.hp.take (s1.hp.length - st.hp.length) ++ s2.hp.take (s2.hp.length - st.hp.length)) fun pre =>
    bif Nat.beq s1.fr.length st.fr.length && Nat.beq s2.fr.length st.fr.length && Nat.beq R1.l.length R1.r.length && Nat.beq R2.l.length R2.r.length then
      fL fN (addIds st.nx pre []) fun ids => (match joinHp b st.hp s1.hp s2.hp pre ids with
        | some (J, jl, jr) => some ⟨.st (unch m 0 s1.fr) [] :: .st (unch m 0 s2.fr) [] :: .hp (s1.hp.drop (s1.hp.length - st.hp.length)) :: .hp (s2.hp.drop (s2.hp.length - st.hp.length)) :: (R1.l ++ (R2.l ++ jl)),
            .st (unch m 0 st.fr) [] :: .st (unch m 0 st.fr) [] :: .hp st.hp :: .hp st.hp :: (R1.r ++ (R2.r ++ jr)), joinOb b R1.obs R2.obs,
            ⟨joinFr b m 0 st.fr s1.fr s2.fr, J ++ st.hp, Nat.max s1.nx s2.nx, s1.W ++ s2.W⟩⟩
        | none => none) else none
def joinAll (c : Operand) (b : Bool) (x y : Code) (st : St) (R1 R2 : JR) (s1 s2 : St) : Option JRes := joinM (dm y (dm x (opBit c))) b st R1 R2 s1 s2
/-- All ways through a region, from st on, are joined as they part. -/
def algM (m : Nat) (st : St) : Alg JR where
  fail := ⟨[], [], none, none⟩
  ob := algJ.ob
  eqI := algJ.eqI
  br _ b x y := match x, y with
    | ⟨l1, r1, k1, some (.normal, s1)⟩, ⟨l2, r2, k2, some (.normal, s2)⟩ => fSt s1 fun s1 => fSt s2 fun s2 => (match joinM m b st ⟨l1, r1, k1, none⟩ ⟨l2, r2, k2, none⟩ s1 s2 with
      | some j => ⟨j.l, j.r, j.obs, some (.normal, j.s)⟩
      | none => ⟨[], [], none, none⟩)
    | _, _ => ⟨[], [], none, none⟩
def regK (P : Program) (ops : Array Oper) (draw : Bool) (W : List Nat) (fr : List RV) (hp : Hp) (nx : Nat) (trs : List Tr) : JR :=
  bif !draw || (P.follows .mixedOrders && edgesBack ops.toList 0 && chkAll trs (masks ops.toList [])) then ⟨[], [], none, some (.normal, ⟨fr, hp, nx, wsT W trs⟩)⟩ else ⟨[], [], none, none⟩
def regJ (P : Program) (facts : Nat → Option (Bool × Bool)) (call : CallF JR) (am : Mode) (ops : Array Oper) (draw : Bool) (st : St) : Option JRes :=
  bif ops.toList.any (fun o => o.guard.isSome) then fSt st fun st =>
    (match evOps (algM (dmOps ops.toList 0) st) P facts call am ops ops.toList st.fr st.hp st.nx [] (regK P ops draw st.W) with
    | ⟨l, r, k, some (.normal, s)⟩ => some ⟨l, r, k, s⟩
    | _ => none) else none
/-- The variables that a piece of code assigns (a bit each). -/
def dvOps (l : List Oper) (m : Nat) : Nat := l.foldl (fun m o => match o.op, o.dst with | .assign _, some d => Nat.lor m (Nat.shiftLeft 1 d) | _, _ => m) m
def dv : Code → Nat → Nat
  | .region _ ops _, m => dvOps ops.toList m
  | .seq x y, m => dv y (dv x m)
  | .cond _ x y, m => dv y (dv x m)
  | .block _ c, m => dv c m
  | .loop c, m => dv c m
  | .scope c, m => dv c m
  | _, m => m
def isUnd : RV → Bool
  | .sv (.one (.val true (.tuple _))) => true
  | .dead => true
  | _ => false
/-- A variable that would be lost where the ways meet. -/
def clash (b : Bool) (m : Nat) : Nat → List RV → List RV → Bool
  | i, r1 :: l1, r2 :: l2 => (mBit m i && !isUnd r1 && !isUnd r2 && (match joinRV b r1 r2 with | .dead => true | _ => false)) || clash b m (i + 1) l1 l2
  | _, _, _ => false
def jnN (P : Program) (facts : Nat → Option (Bool × Bool)) (call : CallF JR) (hook : Nat → St → Option (LoopCon P)) (n0 : Nat) (am : Mode) (rg sc : Bool) : Nat → JoinF
  | 0 => ⟨fun _ _ _ _ _ => none, fun ops draw st => bif rg then regJ P facts call am ops draw st else none⟩
  | d + 1 => ⟨fun c b x y st => fSt st fun st => fSt (decSt st c true) fun sx => fSt (decSt st c false) fun sy =>
    match evCode algJ P facts call hook (jnN P facts call hook n0 am rg sc d) n0 am x sx (fun ex s => ⟨[], [], none, some (ex, s)⟩), evCode algJ P facts call hook (jnN P facts call hook n0 am rg sc d) n0 am y sy (fun ex s => ⟨[], [], none, some (ex, s)⟩) with
    | ⟨l1, r1, k1, some (.normal, s1)⟩, ⟨l2, r2, k2, some (.normal, s2)⟩ => fSt s1 fun s1 => fSt s2 fun s2 => bif sc && clash b (dv y (dv x 0)) 0 s1.fr s2.fr then none else joinAll c b x y st ⟨l1, r1, k1, none⟩ ⟨l2, r2, k2, none⟩ s1 s2
    | _, _ => none, fun ops draw st => bif rg then regJ P facts call am ops draw st else none⟩
def resOne (P : Program) (fr : List RV) (hp : Hp) : ResultVar → Option SV
  | .tmp t => (match fr.getD t RV.und with
    | .sv s => some s
    | _ => none)
  | .cell a t => (match fr.getD a RV.und with
    | .sv (.one (.ptr id off)) => (match hlook hp id with
      | some (.cells cs _) => ldCells P t cs off
      | _ => none)
    | .sv (.one (.eptr q 0)) => (match loadTab P hp q t with
      | some (_, s) => some s
      | none => none)
    | _ => none)
def resAsk1 (P : Program) (fr : List RV) (hp : Hp) : ResultVar → Option Bool
  | .tmp _ => none
  | .cell a t => (match fr.getD a RV.und with
    | .sv (.one (.eptr q 0)) => (match loadTab P hp q t with
      | some (b, _) => some b
      | none => none)
    | _ => none)
def andO : Option Bool → Option Bool → Option Bool
  | none, y => y
  | some a, none => some a
  | some a, some b => some (a && b)
/-- What is asked of the arrays that are answered. -/
def resAsk (P : Program) (fr : List RV) (hp : Hp) : List ResultVar → Option Bool
  | [] => none
  | r :: l => andO (resAsk1 P fr hp r) (resAsk P fr hp l)
def resAll (P : Program) (fr : List RV) (hp : Hp) : List ResultVar → Option (List SV)
  | [] => some []
  | r :: l => match resOne P fr hp r, resAll P fr hp l with
    | some s, some l => some (s :: l)
    | _, _ => none
def oneOrTup : List SV → RV
  | [s] => .sv s
  | l => .tup l
def evRes {R : Type} (A : Alg R) (P : Program) (fn : Func) (s : St) (nx : Nat) (K : Out → R) : R :=
  match resAll P s.fr s.hp fn.results.toList with
  | some l => obO A s.nx (resAsk P s.fr s.hp fn.results.toList) ((fun (rv : RV) (W : List Nat) => K ⟨rv, restrict s.hp ((reach s.hp 400 (rv.ids ++ W) []).filter fun i => Nat.ble nx i || W.any (Nat.beq i)), s.nx, W⟩) (oneOrTup l) (s.W.filter fun i => Nat.blt i nx))
  | none => A.fail
def findCon {P : Program} : List (Con P) → FuncId → Option (Con P)
  | [], _ => none
  | c :: r, f => bif Nat.beq c.f f then some c else findCon r f
def fOut {R : Type} (out : Out) (K : Out → R) : R := fRV out.v fun v => fL fE out.up fun up => fN out.nx fun nx => K ⟨v, up, nx, out.W⟩
theorem fOut_eq {R : Type} (out : Out) (K : Out → R) : fOut out K = K out := by
  simp only [fOut, fRV_eq, fL_eq fE fE_eq, fN_eq]
def startSt (fn : Func) (args : List RV) (hp : Hp) (nx : Nat) : St := ⟨args ++ List.replicate (fn.ntmps - args.length) RV.und, hp, nx, []⟩
def evBody {R : Type} (A : Alg R) {P : Program} (C : Cfg P) (call : CallF R) (callJ : CallF JR) (f : FuncId) (args : List RV) (hp : Hp) (nx : Nat) (K : Out → R) : R :=
  match P.funcs[f]? with
  | some fn => (match fn.body with
    | some c => evCode A P C.facts call (C.hooks f) (jnN P C.facts callJ (C.hooks f) nx (C.am f) (Nat.ble 100 (C.join f)) (Nat.ble 200 (C.join f)) (C.join f % 100)) nx (C.am f) c (startSt fn args hp nx) fun ex s => match ex with
      | .normal => evRes A P fn s nx K
      | .ret => evRes A P fn s nx K
      | .exit _ => A.fail
    | none => A.fail)
  | none => A.fail
def evCallJ {P : Program} (C : Cfg P) : Nat → CallF JR
  | 0 => fun _ _ _ _ _ => algJ.fail
  | n + 1 => fun f args hp nx K =>
    match findCon C.cons f with
    | some c => (match c.g args hp nx with
      | some (none, out) => fOut out K
      | some (some b, out) => settle algJ C.facts nx b (fOut out K)
      | none => evBody algJ C (evCallJ C n) (evCallJ C n) f args hp nx K)
    | none => evBody algJ C (evCallJ C n) (evCallJ C n) f args hp nx K
def evCall {R : Type} (A : Alg R) {P : Program} (C : Cfg P) : Nat → CallF R
  | 0 => fun _ _ _ _ _ => A.fail
  | n + 1 => fun f args hp nx K =>
    match findCon C.cons f with
    | some c => (match c.g args hp nx with
      | some (none, out) => fOut out K
      | some (some b, out) => settle A C.facts nx b (fOut out K)
      | none => evBody A C (evCall A C n) (evCallJ C n) f args hp nx K)
    | none => evBody A C (evCall A C n) (evCallJ C n) f args hp nx K
def algP : Alg Prop where
  fail := False
  ob _ b r := b = true ∧ r
  eqI x y r := x = y ∧ r
  br _ b r r' := (b = true → r) ∧ (b = false → r')
/-- Two rows, side by side. -/
abbrev Two := List Item × List Item
def algT : Alg Two where
  fail := ([], [.no])
  ob n b r := (.ob n b :: r.1, .ob n true :: r.2)
  eqI x y r := (x :: r.1, y :: r.2)
  br n b _ _ := ([.br n b], [.no])
end Go.Proofs.Ytonlllijdbjkaaa

/- A symbolic way through the code of a call: a place under other names. No condition. -/
set_option linter.unusedVariables false
namespace Go.Proofs.Ytonlllijdbjkaaa
open Go.RowKit

theorem blt_spec {i n : Nat} (h : Nat.blt i n = true) : i < n := Nat.le_of_ble_eq_true h
theorem CV.unk_den (e : Env) (c : CV) : c.unk.den e = c.den e := by cases c <;> rfl
theorem SV.unk_den (e : Env) (s : SV) : s.unk.den e = s.den e := by
  cases s with
  | one c => exact c.unk_den e
  | agg cs => simp [SV.unk, SV.den, Function.comp_def, CV.unk_den]
theorem RV.unk_den (e : Env) (r : RV) : r.unk.den e = r.den e := by
  cases r with
  | sv s => exact s.unk_den e
  | tup l => simp [RV.unk, RV.den, Function.comp_def, SV.unk_den]
  | dead => rfl
theorem CV.unk_ids (c : CV) : c.unk.ids = c.ids := by cases c <;> rfl
theorem SV.unk_ids (s : SV) : s.unk.ids = s.ids := by
  cases s with
  | one c => exact c.unk_ids
  | agg cs => simp [SV.unk, SV.ids, List.flatMap_map, CV.unk_ids]
theorem RV.unk_ids (r : RV) : r.unk.ids = r.ids := by
  cases r with
  | sv s => exact s.unk_ids
  | tup l => simp [RV.unk, RV.ids, List.flatMap_map, SV.unk_ids]
  | dead => rfl
theorem RV.unk_dead {r : RV} : r.unk.isDead = r.isDead := by cases r <;> rfl
theorem HO.unk_holds {e : Env} {w : World} {id : Nat} {o : HO} : o.unk.holds e w id ↔ o.holds e w id := by
  cases o with
  | cells cs t => simp [HO.unk, HO.holds, Function.comp_def, CV.unk_den]
  | _ => rfl
theorem HO.unk_foot {e : Env} {id b : Nat} {o : HO} : o.unk.foot e id b ↔ o.foot e id b := by cases o <;> exact Iff.rfl
theorem HO.unk_owns {e : Env} {id b : Nat} {o : HO} : o.unk.owns e id b ↔ o.owns e id b := by cases o <;> exact Iff.rfl

/-- The new names' meaning out of the old one's. -/
structure Renamed (n0 : Nat) (rn : List (Nat × Option Nat)) (m : Nat) (fz : Nat → Prop) (φz : Nat → Nat → Prop) (e e' e'' : Env) : Prop where
  low : ∀ id, id < n0 → e'.same e'' id
  high : ∀ id, m ≤ id → e.same e'' id
  mid : ∀ id i, n0 ≤ id → id < m → rnL rn id = some (some i) → e''.ρ id = e'.ρ i ∧ e''.σ id = e'.σ i ∧ (¬ fz id → e''.φ id = e'.φ i) ∧ (fz id → e''.φ id = φz id)
  nil : ∀ id, n0 ≤ id → id < m → rnL rn id = some none → e''.σ id = (none, 0, 0) ∧ e''.φ id = fun _ => False
open Classical in
theorem renamed_ex (n0 : Nat) (rn : List (Nat × Option Nat)) (m : Nat) (hm : n0 ≤ m) (fz : Nat → Prop) (φz : Nat → Nat → Prop) (e e' : Env) (hlow : ∀ id, id < n0 → e.same e' id) : ∃ e'', Renamed n0 rn m fz φz e e' e'' := by
  refine ⟨⟨fun id => if id < n0 then e'.ρ id else if id < m then (match rnL rn id with | some (some i) => e'.ρ i | _ => 0) else e.ρ id,
    fun id => if id < n0 then e'.σ id else if id < m then (match rnL rn id with | some (some i) => e'.σ i | _ => (none, 0, 0)) else e.σ id,
    fun id => if id < n0 then e'.φ id else if id < m then (match rnL rn id with | some (some i) => if fz id then φz id else e'.φ i | _ => fun _ => False) else e.φ id⟩, ?_, ?_, ?_, ?_⟩
  · intro id hid; simp [Env.same, hid]
  · intro id hid
    have h1 : ¬ id < n0 := by omega
    have h2 : ¬ id < m := by omega
    simp [Env.same, h1, h2]
  · intro id i h1 h2 h3
    have h1' : ¬ id < n0 := by omega
    refine ⟨by simp [h1', h2, h3], by simp [h1', h2, h3], fun h4 => by simp [h1', h2, h3, h4], fun h4 => by simp [h1', h2, h3, h4]⟩
  · intro id h1 h2 h3
    have h1' : ¬ id < n0 := by omega
    simp [h1', h2, h3]
section
variable {n0 : Nat} {rn : List (Nat × Option Nat)} {m : Nat} {fz : Nat → Prop} {φz : Nat → Nat → Prop} {e e' e'' : Env}
theorem renId_low {id : Nat} (h : id < n0) : renId n0 rn id = some (some id) := by
  unfold renId; rw [show Nat.blt id n0 = true from Nat.ble_eq_true_of_le h]; rfl
theorem renId_high {id : Nat} (h : ¬ id < n0) : renId n0 rn id = rnL rn id := by
  unfold renId
  cases hb : Nat.blt id n0 with
  | true => exact absurd (blt_spec hb) h
  | false => rfl
theorem Renamed.at (hr : Renamed n0 rn m fz φz e e' e'') {id i : Nat} (hid : id < m) (h : renId n0 rn id = some (some i)) : e''.ρ id = e'.ρ i ∧ e''.σ id = e'.σ i := by
  by_cases hl : id < n0
  · rw [renId_low hl] at h
    cases h
    exact ⟨(hr.low id hl).1, (hr.low id hl).2.1⟩
  · rw [renId_high hl] at h
    exact ⟨(hr.mid id i (by omega) hid h).1, (hr.mid id i (by omega) hid h).2.1⟩
theorem okId_spec {id : Nat} (h : okId n0 rn m id = true) : id < m ∧ renId n0 rn id = some (some (ren1 n0 rn id)) := by
  simp only [okId, Bool.and_eq_true] at h
  refine ⟨blt_spec h.1, ?_⟩
  have h2 := h.2
  unfold ren1
  split at h2
  · rename_i i hi; rw [hi]
  · cases h2
theorem CV.ren_den (hr : Renamed n0 rn m fz φz e e' e'') {c : CV} (hok : c.okR n0 rn m = true) : (c.ren n0 rn).den e' = c.den e'' := by
  cases c with
  | val k v => rfl
  | ptr id off =>
    obtain ⟨h1, h2⟩ := okId_spec hok
    simp only [CV.ren, CV.den, (hr.at h1 h2).1]
  | eptr id off =>
    obtain ⟨h1, h2⟩ := okId_spec hok
    simp only [CV.ren, CV.den, Env.blk, Env.off, (hr.at h1 h2).2]
  | sl id off len cap =>
    obtain ⟨h1, h2⟩ := okId_spec hok
    simp only [CV.ren, CV.den, (hr.at h1 h2).1]
  | ext id =>
    simp only [CV.okR, Bool.and_eq_true] at hok
    obtain ⟨h1, h2⟩ := hok
    have h1 := blt_spec h1
    simp only [CV.ren]
    split at h2
    · rename_i x hx
      cases x with
      | some i => rw [hx]; simp only [CV.den, Env.slv, (hr.at h1 hx).2]
      | none =>
        rw [hx]
        have hl : ¬ id < n0 := fun h => by rw [renId_low h] at hx; cases hx
        rw [renId_high hl] at hx
        simp only [CV.den, Env.slv, (hr.nil id (by omega) h1 hx).1]
    · cases h2
  | fn f caps =>
    simp only [CV.ren, CV.den, Value.func.injEq, true_and, List.map_map]
    congr 1
    refine List.map_congr_left fun p hp => ?_
    obtain ⟨h1, h2⟩ := okId_spec (List.all_eq_true.1 hok p hp)
    simp only [Function.comp, Env.ptr, (hr.at h1 h2).1]
  | bm f cs =>
    have : (cs.map (bmMap (ren1 n0 rn))).map (bmDen e') = cs.map (bmDen e'') := by
      rw [List.map_map]
      refine List.map_congr_left fun p hp => ?_
      cases p with
      | inl v => rfl
      | inr id =>
        obtain ⟨h1, h2⟩ := okId_spec (List.all_eq_true.1 (List.all_eq_true.1 hok _ hp) id (by simp [bmIds]))
        simp only [Function.comp, bmMap, bmDen, Env.slv, (hr.at h1 h2).2]
      | sl id off len cap =>
        obtain ⟨h1, h2⟩ := okId_spec (List.all_eq_true.1 (List.all_eq_true.1 hok _ hp) id (by simp [bmIds]))
        simp only [Function.comp, bmMap, bmDen, (hr.at h1 h2).1]
    simp only [CV.ren, CV.den, this]
  | tab k n l => rfl
theorem SV.ren_den (hr : Renamed n0 rn m fz φz e e' e'') {s : SV} (hok : s.okR n0 rn m = true) : (s.ren n0 rn).den e' = s.den e'' := by
  cases s with
  | one c => exact CV.ren_den hr hok
  | agg cs =>
    simp only [SV.ren, SV.den, List.map_map]
    congr 2
    exact List.map_congr_left fun c hc => CV.ren_den hr (List.all_eq_true.1 hok c hc)
theorem RV.ren_den (hr : Renamed n0 rn m fz φz e e' e'') {r : RV} (hok : r.okR n0 rn m = true) : (r.ren n0 rn).den e' = r.den e'' := by
  cases r with
  | sv s => exact SV.ren_den hr hok
  | tup l =>
    simp only [RV.ren, RV.den, List.map_map]
    congr 2
    exact List.map_congr_left fun s hs => SV.ren_den hr (List.all_eq_true.1 hok s hs)
  | dead => rfl
theorem CV.okR_ids {c : CV} (hok : c.okR n0 rn m = true) : ∀ id ∈ c.ids, id < m := by
  cases c with
  | val k v => intro id h; cases h
  | ptr id off => intro i h; simp only [CV.ids, List.mem_singleton] at h; subst h; exact (okId_spec hok).1
  | eptr id off => intro i h; simp only [CV.ids, List.mem_singleton] at h; subst h; exact (okId_spec hok).1
  | sl id off len cap => intro i h; simp only [CV.ids, List.mem_singleton] at h; subst h; exact (okId_spec hok).1
  | ext id =>
    intro i h
    simp only [CV.ids, List.mem_singleton] at h
    subst h
    simp only [CV.okR, Bool.and_eq_true] at hok
    exact blt_spec hok.1
  | fn f caps =>
    intro i h
    simp only [CV.ids, List.mem_map] at h
    obtain ⟨p, hp, rfl⟩ := h
    exact (okId_spec (List.all_eq_true.1 hok p hp)).1
  | bm f cs =>
    intro i h
    simp only [CV.ids, List.mem_flatMap] at h
    obtain ⟨p, hp, hi⟩ := h
    exact (okId_spec (List.all_eq_true.1 (List.all_eq_true.1 hok p hp) i hi)).1
  | tab k n l => intro i h; cases h
theorem SV.okR_ids {s : SV} (hok : s.okR n0 rn m = true) : ∀ id ∈ s.ids, id < m := by
  cases s with
  | one c => exact CV.okR_ids hok
  | agg cs =>
    intro id h
    obtain ⟨c, hc, hi⟩ := List.mem_flatMap.1 h
    exact CV.okR_ids (List.all_eq_true.1 hok c hc) id hi
theorem RV.okR_ids {r : RV} (hok : r.okR n0 rn m = true) : ∀ id ∈ r.ids, id < m := by
  cases r with
  | sv s => exact SV.okR_ids hok
  | tup l =>
    intro id h
    obtain ⟨c, hc, hi⟩ := List.mem_flatMap.1 h
    exact SV.okR_ids (List.all_eq_true.1 hok c hc) id hi
  | dead => intro id h; cases h
theorem HO.okR_ids {o : HO} (hok : o.okR n0 rn m = true) : ∀ id ∈ o.ids, id < m := by
  cases o with
  | cells cs t =>
    intro id h
    obtain ⟨c, hc, hi⟩ := List.mem_flatMap.1 h
    exact CV.okR_ids (List.all_eq_true.1 hok c hc) id hi
  | elem id i w => intro j h; simp only [HO.ids, List.mem_singleton] at h; subst h; exact (okId_spec hok).1
  | tie g k x => intro j h; simp only [HO.ids, List.mem_singleton] at h; subst h; exact (okId_spec hok).1
  | part id i w n => intro j h; simp only [HO.ids, List.mem_singleton] at h; subst h; exact (okId_spec hok).1
  | lent cs t => cases hok
  | _ => intro id h; cases h
theorem landFr_spec : ∀ {l l' : List RV}, l.length = l'.length → (landFr n0 rn l l').1 = (landFr n0 rn l l').2 → ∀ (i : Nat) r, l[i]? = some r → r.isDead = true ∨ ∃ r', l'[i]? = some r' ∧ r.ren n0 rn = r'.unk := by
  intro l
  induction l with
  | nil => intro l' _ _ i r h; simp at h
  | cons a l ih =>
    intro l' hl h i r hr
    cases l' with
    | nil => cases hl
    | cons a' l' =>
      simp only [List.length_cons, Nat.add_right_cancel_iff] at hl
      have hd : a = .dead ∨ (landFr n0 rn (a :: l) (a' :: l')) = (a.ren n0 rn :: (landFr n0 rn l l').1, a'.unk :: (landFr n0 rn l l').2) := by
        cases a with
        | dead => exact .inl rfl
        | sv s => exact .inr rfl
        | tup t => exact .inr rfl
      rcases hd with rfl | hd
      · cases i with
        | zero => simp only [List.getElem?_cons_zero, Option.some.injEq] at hr; subst hr; exact .inl rfl
        | succ i => exact ih hl h i r (by simpa using hr)
      · rw [hd] at h
        simp only [List.cons.injEq] at h
        cases i with
        | zero => simp only [List.getElem?_cons_zero, Option.some.injEq] at hr; subst hr; exact .inr ⟨a', rfl, h.1⟩
        | succ i => exact ih hl h.2 i r (by simpa using hr)
theorem landHp_spec {hp : Hp} : ∀ {l : Hp} {p : List HO × List HO}, landHp n0 rn hp l = some p → p.1 = p.2 → ∀ id o, (id, o) ∈ l →
    (∃ i o', renId n0 rn id = some (some i) ∧ hlook hp i = some o' ∧ o.ren n0 rn = seen (Nat.blt id n0) o o') ∨ (renId n0 rn id = some none ∧ o = nilled o) := by
  intro l
  induction l with
  | nil => intro p _ _ id o h; cases h
  | cons x l ih =>
    obtain ⟨id0, o0⟩ := x
    intro p h hp' id o hm
    simp only [landHp] at h
    split at h
    · rename_i q hq
      split at h
      · rename_i i hi
        split at h
        · rename_i o' ho'
          cases h
          simp only [List.cons.injEq] at hp'
          rcases List.mem_cons.1 hm with hm | hm
          · cases hm; exact .inl ⟨i, o', hi, ho', hp'.1⟩
          · exact ih hq hp'.2 id o hm
        · cases h
      · rename_i hi
        cases h
        simp only [List.cons.injEq] at hp'
        rcases List.mem_cons.1 hm with hm | hm
        · cases hm; exact .inr ⟨hi, hp'.1⟩
        · exact ih hq hp'.2 id o hm
      · cases h
    · cases h
theorem distinct_spec : ∀ {l : List Nat}, distinct l = true → l.Nodup := by
  intro l
  induction l with
  | nil => intro _; simp
  | cons i l ih =>
    intro h
    simp only [distinct, Bool.and_eq_true] at h
    exact List.nodup_cons.2 ⟨any_beq h.1, ih h.2⟩
theorem srcs_mem : ∀ {l : Hp} {id i : Nat} {o : HO}, (id, o) ∈ l → renId n0 rn id = some (some i) → i ∈ srcs n0 rn l := by
  intro l
  induction l with
  | nil => intro id i o h; cases h
  | cons x l ih =>
    obtain ⟨id0, o0⟩ := x
    intro id i o h hi
    simp only [srcs]
    rcases List.mem_cons.1 h with h | h
    · cases h; rw [hi]; exact List.mem_cons_self
    · split
      · exact List.mem_cons_of_mem _ (ih h hi)
      · exact ih h hi
theorem srcs_inj : ∀ {l : Hp}, (srcs n0 rn l).Nodup → (l.map (·.1)).Nodup → ∀ {id id' i : Nat} {o o' : HO}, (id, o) ∈ l → (id', o') ∈ l → renId n0 rn id = some (some i) → renId n0 rn id' = some (some i) → id = id' := by
  intro l
  induction l with
  | nil => intro _ _ id id' i o o' h; cases h
  | cons x l ih =>
    obtain ⟨id0, o0⟩ := x
    intro hs hk id id' i o o' h h' hi hi'
    simp only [List.map_cons, List.nodup_cons] at hk
    simp only [srcs] at hs
    rcases List.mem_cons.1 h with h | h <;> rcases List.mem_cons.1 h' with h' | h'
    · cases h; cases h'; rfl
    · cases h
      rw [hi] at hs
      exact absurd (srcs_mem h' hi') (List.nodup_cons.1 hs).1
    · cases h'
      rw [hi'] at hs
      exact absurd (srcs_mem h hi) (List.nodup_cons.1 hs).1
    · refine ih ?_ hk.2 h h' hi hi'
      split at hs
      · exact (List.nodup_cons.1 hs).2
      · exact hs
end
theorem lent_spec {n0 : Nat} {rn : List (Nat × Option Nat)} {hp : Hp} {id : Nat} {o : HO} (h : lentB n0 rn hp (id, o) = true) : ∃ sh l i sh' l', o = .grid sh l ∧ renId n0 rn id = some (some i) ∧ hlook hp i = some (.grid sh' l') := by
  unfold lentB at h
  dsimp only at h
  split at h
  · split at h
    · rename_i hi
      split at h
      · rename_i hg; exact ⟨_, _, _, _, _, rfl, hi, hg⟩
      · cases h
    · cases h
  · cases h
theorem filter_nodup {S : Hp} {q : Nat × HO → Bool} (h : (S.map (·.1)).Nodup) : ((S.filter q).map (·.1)).Nodup := h.sublist (List.Sublist.map _ List.filter_sublist)
def Frozen (S s : St) (n0 : Nat) (rn : List (Nat × Option Nat)) (id : Nat) : Prop := n0 ≤ id ∧ ∃ sh l i sh' t l', hlook S.hp id = some (.grid sh l) ∧ rnL rn id = some (some i) ∧ hlook s.hp i = some (.row sh' t l')
def frozenφ (s : St) (e' : Env) (rn : List (Nat × Option Nat)) (id b : Nat) : Prop := ∃ i o, rnL rn id = some (some i) ∧ hlook s.hp i = some o ∧ o.foot e' i b
theorem land_ok {n0 base : Nat} {H0 : Nat → Option HO} {rn : List (Nat × Option Nat)} {S s : St} {e e' : Env} {a : Act} {w : World} {p : List HO × List HO} (hb : landB n0 rn S s = true) (hh : landHp n0 rn s.hp S.hp = some p)
    (hfr : (landFr n0 rn S.fr s.fr).1 = (landFr n0 rn S.fr s.fr).2) (hhp : p.1 = p.2) (hs : Stands n0 base H0 s e' a w) (hlow : ∀ id, id < n0 → e.same e' id) :
    Names S.fr S.hp S.nx ∧ ∃ e'', (∀ id, id < n0 → e'.same e'' id) ∧ (∀ id, S.nx ≤ id → e.same e'' id) ∧ Stands n0 base H0 S e'' a w := by
  simp only [landB, Bool.and_eq_true, List.all_eq_true, Bool.or_eq_true] at hb
  obtain ⟨⟨⟨⟨⟨⟨b1, b2⟩, b3⟩, b4⟩, b5⟩, b6⟩, b7⟩ := hb
  have b1 := Nat.eq_of_beq_eq_true b1
  have b4 := distinct_spec b4
  have b5 := distinct_spec b5
  have b7 := Nat.le_of_ble_eq_true b7
  obtain ⟨e'', hr⟩ := renamed_ex n0 rn S.nx b7 (Frozen S s n0 rn) (frozenφ s e' rn) e e' hlow
  have inHp : ∀ id o, hlook S.hp id = some o → id < S.nx ∧ o.okR n0 rn S.nx = true ∧ ((∃ i o', renId n0 rn id = some (some i) ∧ (n0 ≤ id → n0 ≤ i ∨ (∃ sh l sh' l', o = .grid sh l ∧ o' = .grid sh' l') ∨ i ∈ S.W) ∧ hlook s.hp i = some o' ∧ o.ren n0 rn = seen (Nat.blt id n0) o o') ∨ (renId n0 rn id = some none ∧ o = nilled o)) := by
    intro id o ho
    have hm := hlook_mem ho
    obtain ⟨⟨h1, h2⟩, h3⟩ := b3 _ hm
    refine ⟨blt_spec h1, h2, ?_⟩
    rcases landHp_spec hh hhp id o hm with ⟨i, o', k1, k2, k3⟩ | ⟨k1, k2⟩
    · refine .inl ⟨i, o', k1, fun hn => ?_, k2, k3⟩
      simp only at h3
      rcases h3 with (((h3 | h3) | h3) | h3) | h3
      · have := blt_spec h3; omega
      · have := Nat.le_of_ble_eq_true h3
        unfold ren1 at this
        rw [k1] at this
        exact .inl this
      · rw [k1] at h3; cases h3
      · obtain ⟨sh, l, i', sh', l', g1, g2, g3⟩ := lent_spec h3
        rw [k1] at g2
        cases g2
        rw [k2] at g3
        cases g3
        exact .inr (.inl ⟨sh, l, sh', l', g1, rfl⟩)
      · unfold handB at h3
        rw [k1] at h3
        obtain ⟨q, hq, hbq⟩ := List.any_eq_true.1 h3
        rw [Nat.eq_of_beq_eq_true hbq]
        exact .inr (.inr hq)
    · exact .inr ⟨k1, k2⟩
  -- a name's object, and where it lies
  have key : ∀ id o, hlook S.hp id = some o → o.holds e'' w id ∧
      ((∃ i o', renId n0 rn id = some (some i) ∧ (n0 ≤ id → n0 ≤ i ∨ (∃ sh l sh' l', o = .grid sh l ∧ o' = .grid sh' l') ∨ i ∈ S.W) ∧ hlook s.hp i = some o' ∧ (∀ b, o.owns e'' id b → o'.owns e' i b) ∧ (∀ b, o.foot e'' id b → o'.foot e' i b)) ∨ ∀ b, ¬ o.foot e'' id b) := by
    intro id o ho
    obtain ⟨h1, h2, h3⟩ := inHp id o ho
    rcases h3 with ⟨i, o', k1, k2, k3, k4⟩ | ⟨k1, k2⟩
    · have hat := hr.at h1 k1
      have hold := hs.sat.holds i o' k3
      have hslv : e''.slv id = e'.slv i := by simp only [Env.slv, hat.2]
      -- what it hangs on
      have hφ : (¬ Frozen S s n0 rn id → e''.φ id = e'.φ i) ∧ (Frozen S s n0 rn id → n0 ≤ id → e''.φ id = frozenφ s e' rn id) := by
        by_cases hl : id < n0
        · rw [renId_low hl] at k1
          cases k1
          exact ⟨fun _ => (hr.low id hl).2.2, fun _ h => by omega⟩
        · rw [renId_high hl] at k1
          have := hr.mid id i (by omega) h1 k1
          exact ⟨this.2.2.1, fun h _ => this.2.2.2 h⟩
      cases o with
      | cells cs t =>
        have hu : HO.cells (cs.map (CV.ren n0 rn)) t = o'.unk := by
          cases o' <;> exact k4
        cases o' with
        | cells cs' t' =>
          simp only [HO.unk, HO.cells.injEq] at hu
          obtain ⟨hu1, rfl⟩ := hu
          have hden : cs.map (CV.den e'') = cs'.map (CV.den e') := by
            have g1 : cs.map (CV.den e'') = (cs.map (CV.ren n0 rn)).map (CV.den e') := by
              rw [List.map_map]
              exact List.map_congr_left fun c hc => (CV.ren_den hr (List.all_eq_true.1 h2 c hc)).symm
            rw [g1, hu1, List.map_map]
            exact List.map_congr_left fun c _ => CV.unk_den e' c
          refine ⟨?_, .inl ⟨i, _, k1, k2, k3, fun b hb => ?_, fun b hb => ?_⟩⟩
          · simp only [HO.holds] at hold ⊢
            rw [hat.1, hden]; exact hold
          · have : b = e''.ρ id := hb
            rw [hat.1] at this; exact this
          · have : b = e''.ρ id := hb
            rw [hat.1] at this; exact this
        | grid _ _ => cases hu
        | row _ _ _ => cases hu
        | elem _ _ _ => cases hu
        | gone => cases hu
        | tie _ _ _ => cases hu
        | part _ _ _ _ => cases hu
        | lent _ _ => cases hu
      | grid sh l =>
        cases o' with
        | cells _ _ => cases k4
        | grid sh' l' =>
          have k4' : HO.grid sh l = HO.grid sh' l' := k4
          cases k4'
          have hnf : ¬ Frozen S s n0 rn id := by
            rintro ⟨hge, _, _, i', _, _, _, _, g2, g3⟩
            by_cases hl : id < n0
            · omega
            · rw [renId_high hl] at k1
              rw [k1] at g2
              cases g2
              rw [k3] at g3
              cases g3
          have hφ' := hφ.1 hnf
          refine ⟨?_, .inl ⟨i, _, k1, k2, k3, fun b hb => hb, fun b hb => ?_⟩⟩
          · simp only [HO.holds] at hold ⊢
            rw [hφ', hslv]; exact hold
          · have hb' : e''.φ id b := hb
            rw [hφ'] at hb'; exact hb'
        | row sh' t' l' =>
          cases hbl : Nat.blt id n0 with
          | true => rw [hbl] at k4; cases k4
          | false =>
            rw [hbl] at k4
            have k4' : HO.grid sh l = HO.grid sh' l' := k4
            cases k4'
            have hl : ¬ id < n0 := fun h => by rw [show Nat.blt id n0 = true from Nat.ble_eq_true_of_le h] at hbl; cases hbl
            have k1' := k1
            rw [renId_high hl] at k1'
            have hfz : Frozen S s n0 rn id := ⟨by omega, _, _, i, _, _, _, ho, k1', k3⟩
            have hφ' := hφ.2 hfz (by omega)
            have hφeq : ∀ b, e''.φ id b ↔ (HO.row sh t' l).foot e' i b := by
              intro b
              rw [hφ']
              constructor
              · rintro ⟨i', o1, g1, g2, g3⟩
                rw [k1'] at g1
                cases g1
                rw [k3] at g2
                cases g2
                exact g3
              · intro h; exact ⟨i, _, k1', k3, h⟩
            obtain ⟨d, hrows⟩ := HO.rowsAt hold (p := (sh, l)) rfl
            refine ⟨⟨⟨d, ?_⟩, fun b hb => HO.foot_lt hold ((hφeq b).1 hb)⟩, .inl ⟨i, _, k1, k2, k3, fun b hb => False.elim hb, fun b hb => (hφeq b).1 hb⟩⟩
            rw [hslv]
            exact hrows.mono (fun b hb => ⟨(hφeq b).2 hb, rfl⟩) (fun _ _ _ => CtHolds.mono fun b hb => ⟨(hφeq b).2 (.inr hb), rfl⟩)
        | elem _ _ _ => cases k4
        | gone => cases k4
        | tie _ _ _ => cases k4
        | part _ _ _ _ => cases k4
        | lent _ _ => cases k4
      | row sh t l =>
        have hu : HO.row sh t l = o'.unk := by cases o' <;> exact k4
        cases o' with
        | row sh' t' l' =>
          cases hu
          have hnf : ¬ Frozen S s n0 rn id := by
            rintro ⟨_, _, _, _, _, _, _, g1, _⟩
            rw [ho] at g1; cases g1
          have hφ' := hφ.1 hnf
          refine ⟨?_, .inl ⟨i, _, k1, k2, k3, fun b hb => ?_, fun b hb => ?_⟩⟩
          · simp only [HO.holds] at hold ⊢
            rw [hφ', hslv]; exact hold
          · have hb' : (e''.slv id).ownBlock = some b := hb
            rw [hslv] at hb'; exact hb'
          · rcases hb with hb | hb
            · rw [hslv] at hb; exact .inl hb
            · rw [hφ'] at hb; exact .inr hb
        | cells _ _ => cases hu
        | grid _ _ => cases hu
        | elem _ _ _ => cases hu
        | gone => cases hu
        | tie _ _ _ => cases hu
        | part _ _ _ _ => cases hu
        | lent _ _ => cases hu
      | elem id1 q wd =>
        have hu : HO.elem (ren1 n0 rn id1) q wd = o'.unk := by cases o' <;> exact k4
        cases o' with
        | elem id2 q2 wd2 =>
          simp only [HO.unk, HO.elem.injEq] at hu
          obtain ⟨rfl, rfl, rfl⟩ := hu
          obtain ⟨g1, g2⟩ := okId_spec h2
          refine ⟨?_, .inr fun b hb => hb⟩
          simp only [HO.holds] at hold ⊢
          rw [(hr.at g1 g2).2, hat.2]; exact hold
        | cells _ _ => cases hu
        | grid _ _ => cases hu
        | row _ _ _ => cases hu
        | gone => cases hu
        | tie _ _ _ => cases hu
        | part _ _ _ _ => cases hu
        | lent _ _ => cases hu
      | part id1 q wd m1 =>
        have hu : HO.part (ren1 n0 rn id1) q wd m1 = o'.unk := by cases o' <;> exact k4
        cases o' with
        | part id2 q2 wd2 m2 =>
          simp only [HO.unk, HO.part.injEq] at hu
          obtain ⟨rfl, rfl, rfl, rfl⟩ := hu
          obtain ⟨g1, g2⟩ := okId_spec h2
          refine ⟨?_, .inr fun b hb => hb⟩
          simp only [HO.holds] at hold ⊢
          rw [(hr.at g1 g2).2, hat.2]; exact hold
        | cells _ _ => cases hu
        | grid _ _ => cases hu
        | row _ _ _ => cases hu
        | elem _ _ _ => cases hu
        | gone => cases hu
        | tie _ _ _ => cases hu
        | lent _ _ => cases hu
      | lent cs t => cases h2
      | gone => exact ⟨trivial, .inr fun b hb => hb⟩
      | tie g k x =>
        have hu : HO.tie g (ren1 n0 rn k) x = o'.unk := by cases o' <;> exact k4
        cases o' with
        | tie g2 k2 x2 =>
          simp only [HO.unk, HO.tie.injEq] at hu
          obtain ⟨rfl, rfl, rfl⟩ := hu
          obtain ⟨g1, g2⟩ := okId_spec h2
          refine ⟨?_, .inr fun b hb => hb⟩
          simp only [HO.holds] at hold ⊢
          rw [(hr.at g1 g2).2]; exact hold
        | cells _ _ => cases hu
        | grid _ _ => cases hu
        | row _ _ _ => cases hu
        | elem _ _ _ => cases hu
        | gone => cases hu
        | part _ _ _ _ => cases hu
        | lent _ _ => cases hu
    · have hl : ¬ id < n0 := fun h => by rw [renId_low h] at k1; cases k1
      rw [renId_high hl] at k1
      obtain ⟨g1, g2⟩ := hr.nil id (by omega) h1 k1
      have hslv : e''.slv id = .slice none 0 0 := by simp only [Env.slv, g1]
      cases o with
      | row sh t l =>
        simp only [nilled, HO.row.injEq, true_and] at k2
        subst k2
        refine ⟨⟨⟨0, [], ?_, fun i hi => by simp at hi⟩, fun b hb => by rw [g2] at hb; exact False.elim hb⟩, .inr fun b hb => ?_⟩
        · rw [hslv]; exact World.ownsRow_nil w 0 t sh.length
        · rcases hb with hb | hb
          · rw [hslv] at hb; cases hb
          · rw [g2] at hb; exact hb
      | grid sh l =>
        simp only [nilled, HO.grid.injEq, true_and] at k2
        subst k2
        refine ⟨⟨⟨0, none, 0, by rw [hslv]; rfl, Nat.le_refl _, by omega, fun _ => rfl, fun i hi => by simp at hi⟩, fun b hb => by rw [g2] at hb; exact False.elim hb⟩, .inr fun b hb => ?_⟩
        have hb' : e''.φ id b := hb
        rw [g2] at hb'; exact hb'
      | cells _ _ => cases k2
      | elem _ _ _ => cases k2
      | tie _ _ _ => cases k2
      | part _ _ _ _ => cases k2
      | lent _ _ => cases k2
      | gone => exact ⟨trivial, .inr fun b hb => hb⟩
  refine ⟨⟨fun r hr' => RV.okR_ids (b2 r hr'), fun id o ho => ⟨(inHp id o ho).1, HO.okR_ids (inHp id o ho).2.1⟩⟩, e'', hr.low, hr.high, ⟨hs.size.trans b1.symm, fun i r hir => ?_, hs.defers, ⟨fun id o ho => (key id o ho).1, fun id o ho id' o' ho' hne b hb hf => ?_⟩, fun id o b ho hid hf => ?_, fun id o b ho hid hf => ?_, fun id o ho hid => ?_⟩⟩
  · rcases landFr_spec b1 hfr i r hir with h | ⟨r', h1, h2⟩
    · exact .inl h
    · rcases hs.fr i r' h1 with h3 | h3
      · left
        rw [← RV.unk_dead, ← h2] at h3
        cases r <;> first | rfl | cases h3
      · right
        rw [h3, ← RV.unk_den, ← h2, RV.ren_den hr (b2 r (List.mem_of_getElem? hir))]
  · rcases (key id o ho).2 with ⟨i, o1, k1, _, k3, k4, _⟩ | h
    · rcases (key id' o' ho').2 with ⟨i', o1', k1', _, k3', _, k5'⟩ | h'
      · have hown := k4 b hb
        have hng : ∀ (id2 : Nat) o2, hlook S.hp id2 = some o2 → renId n0 rn id2 = some (some i) → lentB n0 rn s.hp (id2, o2) = false := fun id2 o2 _ g2 => by
          rw [Bool.eq_false_iff]
          intro hl
          obtain ⟨_, _, i2, _, _, _, q2, q3⟩ := lent_spec hl
          rw [g2] at q2
          cases q2
          rw [k3] at q3
          cases q3
          exact hown
        have hgo : o.isGone = false := by cases o with | gone => exact False.elim hb | _ => rfl
        have hgo' : o'.isGone = false := by cases o' with | gone => exact False.elim hf | _ => rfl
        have hii : i ≠ i' := fun h => by
          have k1'' : renId n0 rn id' = some (some i) := by rw [h]; exact k1'
          exact hne (srcs_inj b4 (filter_nodup b5) (List.mem_filter.2 ⟨hlook_mem ho, by rw [hng id o ho k1, hgo]; rfl⟩) (List.mem_filter.2 ⟨hlook_mem ho', by rw [hng id' o' ho' k1'', hgo']; rfl⟩) k1 k1'')
        exact hs.sat.apart i o1 k3 i' o1' k3' hii b (k4 b hb) (k5' b hf)
      · exact h' b hf
    · exact h b (HO.owns_foot hb)
  · rcases (key id o ho).2 with ⟨i, o1, _, k2, k3, k4, _⟩ | h
    · have hsame : ∀ j ∈ s.W, j < n0 → j ∈ S.W := fun j hj hlt => by
        rcases b6 j hj with h' | h'
        · have := Nat.le_of_ble_eq_true h'; omega
        · obtain ⟨q, hq, hbq⟩ := List.any_eq_true.1 h'; rw [Nat.eq_of_beq_eq_true hbq]; exact hq
      by_cases hni : n0 ≤ i
      · exact (hs.own i o1 b k3 hni (k4 b hf)).imp (fun h => h) fun h => h.same hr.low hsame
      · rcases (k2 hid).resolve_left hni with ⟨_, _, _, _, g, _⟩ | hw
        · rw [g] at hf; exact False.elim hf
        · have hf' := k4 b hf
          obtain ⟨o0, h1, h2⟩ := hs.old i o1 k3 (by omega)
          obtain ⟨h3, h4⟩ := h2 e' i b (HO.owns_foot hf')
          exact .inr ⟨i, hw, by omega, o0, h1, (HO.owns_same (hr.low i (by omega))).2 (h4.1 hf')⟩
    · exact absurd (HO.owns_foot hf) (h b)
  · rcases (key id o ho).2 with ⟨i, o1, _, k2, k3, _, k5⟩ | h
    · have hsame : ∀ j ∈ s.W, j < n0 → j ∈ S.W := fun j hj hlt => by
        rcases b6 j hj with h' | h'
        · have := Nat.le_of_ble_eq_true h'; omega
        · obtain ⟨q, hq, hbq⟩ := List.any_eq_true.1 h'; rw [Nat.eq_of_beq_eq_true hbq]; exact hq
      by_cases hni : n0 ≤ i
      · exact (hs.foot i o1 b k3 hni (k5 b hf)).imp (fun h => h) (Or.imp (fun h => h.same hr.low hsame) fun h => h.same hr.low)
      · have hf' := k5 b hf
        obtain ⟨o0, h1, h2⟩ := hs.old i o1 k3 (by omega)
        obtain ⟨h3, h4⟩ := h2 e' i b hf'
        have rd : ¬ o0.owns e' i b → ReadsH H0 n0 e'' b := fun h => ReadsH.same hr.low ⟨i, o0, by omega, h1, h3, h⟩
        rcases (k2 hid).resolve_left hni with ⟨sh, l, sh', l', _, g⟩ | hw
        · exact .inr (.inr (rd fun h => by have := h4.2 h; rw [g] at this; exact this))
        · by_cases ho : o0.owns e' i b
          · exact .inr (.inl ⟨i, hw, by omega, o0, h1, (HO.owns_same (hr.low i (by omega))).2 ho⟩)
          · exact .inr (.inr (rd ho))
    · exact absurd hf (h b)
  · rcases (inHp id o ho).2.2 with ⟨i, o1, k1, _, k3, k4⟩ | ⟨k1, _⟩
    · rw [renId_low hid] at k1
      cases k1
      obtain ⟨o0, h1, h2⟩ := hs.old id o1 k3 hid
      refine ⟨o0, h1, h2.trans ?_⟩
      rw [show Nat.blt id n0 = true from Nat.ble_eq_true_of_le hid] at k4
      cases o <;> cases o1 <;> first | (exact fun _ _ _ h => ⟨h, Iff.rfl⟩) | (exact fun _ _ _ h => False.elim h) | (cases k4; done)
    · rw [renId_low hid] at k1; cases k1
end Go.Proofs.Ytonlllijdbjkaaa

/- A symbolic way through the code of a call: the way is the code's. No condition. -/
set_option linter.unusedVariables false
namespace Go.Proofs.Ytonlllijdbjkaaa
open Go.RowKit

def FactsOk (facts : Nat → Option (Bool × Bool)) : Prop := ∀ k b d, facts k = some (b, d) → b = d
def CallsOk (P : Program) (call : CallF Prop) : Prop := ∀ f args hp nx (K : Out → Prop), Names args hp nx → call f args hp nx K → ∃ out, CallOk P f args hp nx out ∧ K out
theorem settle_ok {facts : Nat → Option (Bool × Bool)} (hf : FactsOk facts) {nx : Nat} {b : Bool} {K : Prop} (h : settle algP facts nx b K) : b = true ∧ K := by
  unfold settle at h
  split at h
  · rename_i b' hb
    obtain ⟨h1, h2⟩ := h
    rw [hf _ _ _ hb] at h1
    simp only [Item.v.injEq, Value.bool.injEq] at h1
    exact ⟨h1, h2⟩
  · exact h
theorem asks_ok {P : Program} {o : Oper} {get : Operand → RV} {hp : Hp} {nx : Nat} {b : Bool} {out : Out} (hwf : WfOp get o hp nx) (h : asks P o get hp nx = some (b, out)) (hb : b = true) : OpOk P o get hp nx out := by
  unfold asks at h
  split at h
  · rename_i ho
    split at h
    · rename_i q hq; cases h; exact opIndexE_ok hwf ho hq hb
    · split at h
      · rename_i q hq; cases h; exact opIndexA_ok hwf ho hq hb
      · split at h
        · rename_i q hq; cases h; exact opIndexG_ok hwf ho hq hb
        · exact opIndexP_ok hwf ho h hb
  · rename_i ho; exact opLoadA_ok ho h hb
  · rename_i ho; exact opStoreA_ok ho h hb
  · rename_i ho; exact opBoxT_ok ho h hb
  · rename_i ho
    split at h
    · rename_i q hq; cases h; exact opSliceE_ok ho hq hb
    · split at h
      · rename_i q hq; cases h; exact opSliceP_ok ho hq hb
      · exact opSliceQ_ok hwf ho h hb
  · rename_i ho; exact opMake_ok ho h hb
  · rename_i ho; exact opConv_ok ho h hb
  · exact opStr_ok h hb
  · exact opDiv_ok h hb
  · exact opDiv_ok h hb
  · exact opShift_ok h hb
  · exact opShift_ok h hb
  · rename_i ho; exact opNilS_ok ho h hb
  · rename_i ho; exact opNilS_ok ho h hb
  · rename_i ho
    split at h
    · rename_i q hq; cases h; exact opIndexV_ok ho hq hb
    · split at h
      · rename_i q hq; cases h; exact opIndexT_ok ho hq hb
      · exact opStr_ok h hb
  · rename_i ho; exact opArrAt_ok ho h hb
  · rename_i c ho
    split at h
    · rename_i x y t t' h1 h2 h3
      cases hbq : Nat.beq t t' with
      | false => rw [hbq] at h; cases h
      | true =>
        rw [hbq] at h
        obtain rfl := Nat.eq_of_beq_eq_true hbq
        simp only [cond_true] at h
        split at h
        · rename_i q hq; cases h; exact opAppend_ok ho h1 h2 h3 hq hb
        · split at h
          · rename_i q hq; cases h; exact opAppendT_ok ho h1 h2 h3 hq hb
          · exact opAppendF_ok ho h1 h2 h3 h hb
    · rename_i x y t t' h1 h2 h3; exact opCopyP_ok ho h1 h2 h3 h hb
    · rename_i x h1 h2; exact opSlData_ok hwf ho h1 h2 h hb
    · rename_i x y pt it h1 h2 h3; exact opUStr_ok ho h1 h2 h3 h hb
    · cases h
  · cases h
theorem more_ok {P : Program} {o : Oper} {get : Operand → RV} {hp : Hp} {nx : Nat} {out : Out} (h : more P o get hp nx = some out) : OpOk P o get hp nx out := by
  unfold more at h
  split at h
  · rename_i ho
    split at h
    · rename_i out' hn; cases h; exact opLoadE_ok ho hn
    · exact opLoadL_ok ho h
  · rename_i ho; exact opStoreE_ok ho h
  · rename_i ho
    split at h
    · rename_i out' hn; cases h; exact opEqT_ok ho hn
    · split at h
      · rename_i out' hn; cases h; exact opNil_ok ho hn
      · exact opNilF_ok ho h
  · rename_i ho; exact opSliceL_ok ho h
  · rename_i ho; exact opBuildT_ok ho h
  · rename_i c ho
    split at h
    · rename_i x y t t' h1 h2 h3
      split at h
      · rename_i out' hn
        cases h
        exact opCopyN_ok ho h1 h2 h3 hn
      · exact opCopy_ok ho h1 h2 h3 h
    · rename_i x t h1 h2 h3; exact opLenP_ok ho h1 h2 h3 h
    · cases h
  · cases h
theorem waysOf_ok {P : Program} {o : Oper} {get : Operand → RV} {hp : Hp} {nx : Nat} {l : List (Bool × Out)} (h : waysOf P o get hp nx = some l) : ∀ p ∈ l, p.1 = true → OpOk P o get hp nx p.2 := by
  unfold waysOf at h
  split at h
  · rename_i ho; exact loadWays_ok ho h
  · exact idxOpen_ok h
theorem evSimple_ok {P : Program} {facts : Nat → Option (Bool × Bool)} (hf : FactsOk facts) {o : Oper} {get : Operand → RV} {hp : Hp} {nx : Nat} {K : Out → Prop} (hwf : WfOp get o hp nx) (h : evSimple algP P facts o get hp nx K) : ∃ out, OpOk P o get hp nx out ∧ K out := by
  unfold evSimple at h
  split at h
  · rename_i b out hout
    obtain ⟨h1, h2⟩ := settle_ok hf h
    exact ⟨out, asks_ok hwf hout h1, h2⟩
  · split at h
    · rename_i out hout; exact ⟨out, more_ok hout, h⟩
    · split at h
      · rename_i out hout
        cases hb : out.up.all (fun p => p.2.ids.all (fun i => Nat.blt i nx)) with
        | false => rw [hb] at h; exact False.elim h
        | true =>
          rw [hb] at h
          refine ⟨out, simple_ok hwf (fun id ob hl i hi => ?_) hout, h⟩
          exact blt_spec (List.all_eq_true.1 (List.all_eq_true.1 hb _ (hlook_mem hl)) i hi)
      · exact False.elim h
theorem eqSym_self (P : Program) : ∀ d, (∀ t x y b, x = y → eqSym P d t x y = some b → b = true) ∧ (∀ xs fs b, eqFsSym P d xs xs fs = some b → b = true) ∧ (∀ e xs s n i b, eqArrSym P d e xs xs s n i = some b → b = true) := by
  intro d
  induction d with
  | zero => exact ⟨fun _ _ _ _ _ h => by simp [eqSym] at h, fun _ _ _ h => by simp [eqFsSym] at h, fun _ _ _ _ _ _ h => by simp [eqArrSym] at h⟩
  | succ d ih =>
    obtain ⟨ih1, ih2, ih3⟩ := ih
    refine ⟨fun t x y b hxy h => ?_, fun xs fs b h => ?_, fun e xs s n i b h => ?_⟩
    · unfold eqSym at h
      split at h
      · simp only [Value.int.injEq] at hxy
        obtain ⟨rfl, rfl⟩ := hxy
        simp at h; exact h
      · simp only [Value.bool.injEq] at hxy
        subst hxy
        simp at h; exact h
      · simp only [Value.string.injEq] at hxy
        subst hxy
        simp at h; exact h
      · simp only [Value.agg.injEq] at hxy
        subst hxy
        cases hp : P.stoodInHeld t with
        | true => rw [hp] at h; simp at h
        | false => rw [hp] at h; exact ih2 _ _ _ h
      · simp only [Value.agg.injEq] at hxy
        subst hxy
        split at h
        · exact ih3 _ _ _ _ _ _ h
        · cases h
      · cases h
    · cases fs with
      | nil => simp only [eqFsSym, Option.some.injEq] at h; exact h.symm
      | cons f fs =>
        unfold eqFsSym at h
        split at h
        · split at h
          · rename_i a b1 ha hb
            rw [ha] at hb; cases hb
            split at h
            · rename_i r r' hr hr'
              cases h
              rw [ih1 _ _ _ _ rfl hr, ih2 _ _ _ hr']; rfl
            · cases h
          · cases h
        · exact ih2 _ _ _ h
    · cases n with
      | zero => simp only [eqArrSym, Option.some.injEq] at h; exact h.symm
      | succ n =>
        unfold eqArrSym at h
        split at h
        · rename_i a b1 ha hb
          rw [ha] at hb; cases hb
          split at h
          · rename_i r r' hr hr'
            cases h
            rw [ih1 _ _ _ _ rfl hr, ih3 _ _ _ _ _ _ hr']; rfl
          · cases h
        · cases h
theorem eql_self {P : Program} {t : TypeId} : ∀ {v u : Value} {b : Bool}, v = u → eqSym P 64 t v u = some b → P.eqGuardType P.depth t = false → ∀ (x y : Operand) (w : World),
    (do eqGuard .eql t x y v u; binOp .eql t v u : Sem Value).run P w = .ok (.bool true) w := by
  intro v u b hvu h hg x y w
  have hb := (eqSym_self P 64).1 t v u b hvu h
  subst hb
  have he := (eq_ok P 64).1 t v u true h 10000 (by omega) w
  unfold eqSym at h
  split at h
  · simp only [Value.int.injEq] at hvu
    obtain ⟨rfl, rfl⟩ := hvu
    simp [eqGuard, binOp, Op.intCmp]
  · rename_i hu
    simp only [Value.bool.injEq] at hvu
    subst hvu
    simp [eqGuard, run_eql_bool w t _ _ hu]
  · simp only [Value.string.injEq] at hvu
    subst hvu
    simp [eqGuard, binOp, Op.stringOp]
  · simp only [Sem.run_bind, run_eqGuard_agg w _ t x y _ _ hg, Result.andThen_ok, run_eql_struct, he]
  · simp only [Sem.run_bind, run_eqGuard_agg w _ t x y _ _ hg, Result.andThen_ok, run_eql_struct, he]
  · cases h
theorem sv_den0 {s : SV} (h : s.ids.isEmpty = true) (e : Env) : s.den e = s.den env0 := by
  simp only [List.isEmpty_iff] at h
  exact s.den_same fun id hid => by rw [h] at hid; cases hid
theorem meet_ok {facts : Nat → Option (Bool × Bool)} (hf : FactsOk facts) {nx : Nat} {b : Bool} {K : Bool → Prop} (h : meet algP facts nx b K) : K b := by
  unfold meet at h
  split at h
  · rename_i b' d hb
    obtain ⟨h1, h2⟩ := h
    simp only [Item.v.injEq, Value.bool.injEq] at h1
    rw [h1, hf _ _ _ hb]; exact h2
  · cases b with
    | true => exact h.1 rfl
    | false => exact h.2 rfl
theorem evEq_ok {P : Program} {facts : Nat → Option (Bool × Bool)} (hf : FactsOk facts) {o : Oper} {get : Operand → RV} {hp : Hp} {nx : Nat} {t yt : TypeId} {x y : Operand} {K : Out → Prop} (ho : o.op = .binOp .eql t x y yt) (h : evEq algP P facts o get hp nx t x y K) : ∃ out, OpOk P o get hp nx out ∧ K out := by
  unfold evEq at h
  split at h
  · rename_i b d' hgx hgy
    have h := meet_ok hf h
    split at h
    · rename_i hu
      refine ⟨_, fun e a w hx hs K0 Q hK => wp_value (v := .bool (b == d')) (w' := w) ?_ ?_, h⟩
      · have hx1 := hx x (by rw [ho]; simp [Op.operands])
        have hx2 := hx y (by rw [ho]; simp [Op.operands])
        rw [hgx] at hx1
        rw [hgy] at hx2
        have hx1' : a.eval x = .bool b := hx1
        have hx2' : a.eval y = .bool d' := hx2
        simp only [execOp, ho, hx1', hx2', Sem.run_bind]
        simp [eqGuard, run_eql_bool w t b d' hu]
      · exact hK e w (PostOp.none e _ nx _ _ w)
    · exact False.elim h
  · rename_i d' b hgx hgy
    have h := meet_ok hf h
    split at h
    · rename_i hu
      refine ⟨_, fun e a w hx hs K0 Q hK => wp_value (v := .bool (d' == b)) (w' := w) ?_ ?_, h⟩
      · have hx1 := hx x (by rw [ho]; simp [Op.operands])
        have hx2 := hx y (by rw [ho]; simp [Op.operands])
        rw [hgx] at hx1
        rw [hgy] at hx2
        have hx1' : a.eval x = .bool d' := hx1
        have hx2' : a.eval y = .bool b := hx2
        simp only [execOp, ho, hx1', hx2', Sem.run_bind]
        simp [eqGuard, run_eql_bool w t d' b hu]
      · exact hK e w (PostOp.none e _ nx _ _ w)
    · exact False.elim h
  · rename_i s s' hne hne2 hgx hgy
    cases hb : (s.ids.isEmpty && s'.ids.isEmpty && !P.eqGuardType P.depth t) with
    | false => rw [hb] at h; exact False.elim h
    | true =>
      rw [hb] at h
      simp only [Bool.and_eq_true, Bool.not_eq_true'] at hb
      obtain ⟨⟨hb1, hb2⟩, hb3⟩ := hb
      simp only [cond_true] at h
      split at h
      · rename_i b hbb
        obtain ⟨heq0, hK⟩ := h
        have heq : s.den env0 = s'.den env0 := by simpa using heq0
        refine ⟨_, OpOk.val fun e a w hx hs => ?_, hK⟩
        have hx1 := hx x (by rw [ho]; simp [Op.operands])
        have hx2 := hx y (by rw [ho]; simp [Op.operands])
        rw [hgx] at hx1
        rw [hgy] at hx2
        simp only [RV.den] at hx1 hx2
        rw [sv_den0 hb1] at hx1
        rw [sv_den0 hb2, ← heq] at hx2
        have := eql_self rfl hbb hb3 x y w
        simp only [execOp, ho, hx1, hx2, Sem.run_bind] at this ⊢
        rw [this]
        rfl
      · exact False.elim h
  · exact False.elim h
theorem run_call {P : Program} {g : FuncId} (hg : goesIn P g = true) (args : Array Value) (w : World) : (callFunc g args).run P w = .ok (.enter g args) w := by
  unfold goesIn at hg
  split at hg
  · rename_i fn hfn
    simp only [Bool.and_eq_true, Bool.not_eq_true'] at hg
    obtain ⟨h1, h2⟩ := hg
    simp only [callFunc, Sem.run_bind, run_program, Result.andThen_ok, hfn, h1, h2, Bool.false_eq_true, if_false, Sem.run_pure]
  · cases hg
theorem bmCV_den (e : Env) (p : BV) : (bmCV p).den e = bmDen e p := by cases p <;> rfl
theorem callee_ok {P : Program} {o : Oper} {get : Operand → RV} {hp : Hp} {nx : Nat} {c : Call} {g : FuncId} {fs : List RV} {caps : List (Nat × Nat)} {out : Out} (ho : o.op = .call c) (hcal : calleeOf get c = some (g, fs, caps)) (hg : goesIn P g = true)
    (h : CallOk P g (fs ++ c.args.toList.map get ++ caps.map ptrRV) hp nx out) : OpOk P o get hp nx out := by
  unfold calleeOf at hcal
  split at hcal
  · rename_i f hf
    split at hcal
    · rename_i g' caps' hget
      cases hcal
      intro e a w hx hsat K Q hK
      have hop : o.op.operands = #[f] ++ c.args := by rw [ho]; simp [Op.operands, Call.operands, hf]
      have h1 : a.eval f = .func (.func g) #[] (caps.map e.ptr).toArray := by
        rw [hx f (by rw [hop]; simp), hget]; rfl
      have h2 : c.args.map a.eval = (c.args.toList.map fun x => (get x).den e).toArray := by
        apply Array.ext'
        simp only [Array.toList_map]
        exact List.map_congr_left fun x hx' => hx x (by rw [hop]; simp; exact .inr (by simpa using hx'))
      have hrun : (execOp a.eval o).run P w = .ok (.enter g (([] ++ c.args.toList.map get ++ caps.map ptrRV).map (RV.den e)).toArray) w := by
        simp only [execOp, ho, resolve, hf, h1, Deferred.ofValue, Sem.run_bind, Sem.run_pure, Result.andThen_ok, invoke]
        rw [run_call hg, h2]
        congr 2
        apply Array.ext'
        simp [Function.comp_def, ptrRV, RV.den, SV.den, CV.den, Env.ptr]
      unfold Oper.wp
      rw [hrun]
      refine (h e w hsat).mono fun en w' ⟨e', hen, hp'⟩ => ?_
      subst hen
      exact hK e' w' hp'
    · rename_i g' cs hget
      cases hcal
      intro e a w hx hsat K Q hK
      have hop : o.op.operands = #[f] ++ c.args := by rw [ho]; simp [Op.operands, Call.operands, hf]
      have h1 : a.eval f = .func (.func g) #[.agg (cs.map (bmDen e)).toArray] #[] := by
        rw [hx f (by rw [hop]; simp), hget]; rfl
      have h2 : c.args.map a.eval = (c.args.toList.map fun x => (get x).den e).toArray := by
        apply Array.ext'
        simp only [Array.toList_map]
        exact List.map_congr_left fun x hx' => hx x (by rw [hop]; simp; exact .inr (by simpa using hx'))
      have hrun : (execOp a.eval o).run P w = .ok (.enter g (([RV.sv (.agg (cs.map bmCV))] ++ c.args.toList.map get ++ ([] : List (Nat × Nat)).map ptrRV).map (RV.den e)).toArray) w := by
        simp only [execOp, ho, resolve, hf, h1, Deferred.ofValue, Sem.run_bind, Sem.run_pure, Result.andThen_ok, invoke]
        rw [run_call hg, h2]
        congr 2
        apply Array.ext'
        simp [Function.comp_def, RV.den, SV.den, bmCV_den]
      unfold Oper.wp
      rw [hrun]
      refine (h e w hsat).mono fun en w' ⟨e', hen, hp'⟩ => ?_
      subst hen
      exact hK e' w' hp'
    · cases hcal
  · cases hcal
theorem callee_ids {get : Operand → RV} {c : Call} {g : FuncId} {fs : List RV} {caps : List (Nat × Nat)} (hcal : calleeOf get c = some (g, fs, caps)) : ∃ f, c.callee = .value f ∧ ((get f).ids = caps.map (·.1) ∧ fs = [] ∨ caps = [] ∧ ∀ r ∈ fs, r.ids = (get f).ids) := by
  unfold calleeOf at hcal
  split at hcal
  · rename_i f hf
    split at hcal
    · rename_i g' caps' hget
      cases hcal
      exact ⟨f, hf, .inl ⟨by rw [hget]; rfl, rfl⟩⟩
    · rename_i g' cs hget
      cases hcal
      refine ⟨f, hf, .inr ⟨rfl, fun r hr => ?_⟩⟩
      simp only [List.mem_singleton] at hr
      subst hr
      rw [hget]
      simp only [RV.ids, SV.ids, CV.ids, List.flatMap_map]
      congr 1
      funext p
      cases p <;> rfl
    · cases hcal
  · cases hcal
theorem pickAlt_ok {facts : Nat → Option (Bool × Bool)} (hf : FactsOk facts) {nx : Nat} {K : Out → Prop} : ∀ {l : List (Bool × Out)}, pickAlt algP facts nx K l → ∃ p ∈ l, p.1 = true ∧ K p.2 := by
  intro l
  induction l with
  | nil => intro h; exact False.elim h
  | cons p r ih =>
    intro h
    cases r with
    | nil =>
      obtain ⟨h1, h2⟩ := settle_ok hf h
      exact ⟨p, List.mem_cons_self, h1, h2⟩
    | cons q r =>
      have h1 := meet_ok hf h
      cases hb : p.1 with
      | true => rw [hb] at h1; exact ⟨p, List.mem_cons_self, hb, h1⟩
      | false =>
        rw [hb] at h1
        obtain ⟨p', g1, g2⟩ := ih h1
        exact ⟨p', List.mem_cons_of_mem _ g1, g2⟩
theorem evOp0_ok {P : Program} {call : CallF Prop} {am : Mode} {facts : Nat → Option (Bool × Bool)} (hf : FactsOk facts) (hcall : CallsOk P call) {o : Oper} {get : Operand → RV} {hp : Hp} {nx : Nat} {K : Out → Prop} (hwf : WfOp get o hp nx) (h : evOp0 algP P facts call am o get hp nx K) : ∃ out, OpOk P o get hp nx out ∧ K out := by
  unfold evOp0 at h
  split at h
  · rename_i c ho
    split at h
    · rename_i g fs caps hcal
      cases hg : goesIn P g with
      | false => rw [hg] at h; exact False.elim h
      | true =>
        rw [hg] at h
        obtain ⟨f, hf, hids⟩ := callee_ids hcal
        have hop : o.op.operands = #[f] ++ c.args := by rw [ho]; simp [Op.operands, Call.operands, hf]
        have hnm : Names (fs ++ c.args.toList.map get ++ caps.map ptrRV) hp nx := by
          refine ⟨fun r hr i hi => ?_, hwf.hp⟩
          rcases List.mem_append.1 hr with hr | hr
          rcases List.mem_append.1 hr with hr | hr
          · rcases hids with ⟨_, h0⟩ | ⟨_, h0⟩
            · subst h0; cases hr
            · exact hwf.get f (by rw [hop]; simp) _ (by rw [← h0 r hr]; exact hi)
          · obtain ⟨x, hx, rfl⟩ := List.mem_map.1 hr
            exact hwf.get x (by rw [hop]; simp; exact .inr (by simpa using hx)) i hi
          · obtain ⟨p, hp', rfl⟩ := List.mem_map.1 hr
            simp only [ptrRV, RV.ids, SV.ids, CV.ids, List.mem_singleton] at hi
            subst hi
            rcases hids with ⟨hids, _⟩ | ⟨h0, _⟩
            · exact hwf.get f (by rw [hop]; simp) _ (by rw [hids]; exact List.mem_map.2 ⟨p, hp', rfl⟩)
            · subst h0; cases hp'
        obtain ⟨out, hout, hK⟩ := hcall _ _ _ _ _ hnm h
        exact ⟨out, callee_ok ho hcal hg hout, hK⟩
    · exact evSimple_ok hf hwf h
  · rename_i ho
    cases hm : am.am with
    | true => rw [hm] at h; exact evEq_ok hf ho h
    | false => rw [hm] at h; exact evSimple_ok hf hwf h
  · rename_i ho
    cases hm : am.rows with
    | true =>
      rw [hm] at h
      simp only [cond_true] at h
      split at h
      · rename_i out hout
        exact ⟨out, opBuildRow_ok hwf ho hout, h⟩
      · exact evSimple_ok hf hwf h
    | false => rw [hm] at h; exact evSimple_ok hf hwf h
  · rename_i ho
    cases hm : am.rows with
    | true =>
      rw [hm] at h
      simp only [cond_true] at h
      split at h
      · rename_i out hout
        exact ⟨out, opBoxA_ok ho hout, h⟩
      · exact evSimple_ok hf hwf h
    | false => rw [hm] at h; exact evSimple_ok hf hwf h
  · rename_i ho
    cases hm : am.rows with
    | true =>
      rw [hm] at h
      simp only [cond_true] at h
      split at h
      · rename_i out hout
        exact ⟨out, opAllocA_ok ho hout, h⟩
      · exact evSimple_ok hf hwf h
    | false => rw [hm] at h; exact evSimple_ok hf hwf h
  · cases hm : am.rows with
    | true =>
      rw [hm] at h
      simp only [cond_true] at h
      split at h
      · rename_i l hl
        obtain ⟨p, hp, h1, h2⟩ := pickAlt_ok hf h
        exact ⟨p.2, waysOf_ok hl p hp h1, h2⟩
      · exact evSimple_ok hf hwf h
    | false => rw [hm] at h; exact evSimple_ok hf hwf h
theorem keepLen_at {hp : Hp} : ∀ {up : Hp} {id : Nat} {o : HO}, hlook (keepLen hp up) id = some o → ∃ sh t l, hlook hp id = some (.row sh t l) ∧ o = .part id 0 sh.length l.length := by
  intro up
  induction up with
  | nil => intro id o h; cases h
  | cons p r ih =>
    intro id o h
    obtain ⟨i, ob⟩ := p
    cases ob with
    | gone =>
      simp only [keepLen] at h
      split at h
      · rename_i sh t l hl
        simp only [hlook] at h
        cases hb : Nat.beq i id with
        | false => rw [hb] at h; exact ih h
        | true => rw [hb] at h; cases h; rw [← Nat.eq_of_beq_eq_true hb]; exact ⟨sh, t, l, hl, rfl⟩
      · exact ih h
    | _ => exact ih h
theorem PostOp.keep {e e' : Env} {hp : Hp} {nx : Nat} {out : Out} {w w' : World} (hwf : ∀ id ob, hlook hp id = some ob → id < nx) (hs : Sat e (hlook hp) w) (h : PostOp e e' (hlook hp) nx out w w') : PostOp e e' (hlook hp) nx (out.keep hp) w w' := by
  have key : ∀ id o, hlook (keepLen hp out.up ++ out.up) id = some o → (o.holds e' w' id ∧ (∀ b, ¬ o.owns e' id b) ∧ ∀ b, ¬ o.foot e' id b) ∨ hlook out.up id = some o := by
    intro id o ho
    rw [hlook_append] at ho
    split at ho
    · rename_i o1 h1
      cases ho
      obtain ⟨sh, t, l, hl, rfl⟩ := keepLen_at h1
      refine .inl ⟨?_, fun b hb => hb, fun b hb => hb⟩
      have hsame := h.agree id (.inl (hwf _ _ hl))
      obtain ⟨⟨d, xs, hown, _⟩, _⟩ := hs.holds _ _ hl
      simp only [HO.holds]
      rw [hsame.2.1]
      rcases hown.2 with ⟨hv, hn⟩ | ⟨g, cap, cur, hv, _⟩
      · simp only [Env.slv, Value.slice.injEq] at hv
        exact ⟨by rw [hv.2.1, hn], fun h0 => by omega⟩
      · simp only [Env.slv, Value.slice.injEq] at hv
        exact ⟨hv.2.1, fun _ => ⟨⟨_, hv.1, rfl, by rw [hv.1]; simp⟩, by omega, by omega⟩⟩
    · exact .inr ho
  refine ⟨h.agree, h.os, h.tape, h.output, h.size, h.fr, ⟨fun id o ho => ?_, fun id o ho id' o' ho' hne b hb hf => ?_⟩, fun id o b ho hb => ?_, fun id o b ho hb => ?_⟩
  · rcases key id o ho with k | k
    · exact k.1
    · exact h.sat.holds id o k
  · rcases key id o ho with k | k
    · exact k.2.1 b hb
    · rcases key id' o' ho' with k' | k'
      · exact k'.2.2 b hf
      · exact h.sat.apart id o k id' o' k' hne b hb hf
  · rcases key id o ho with k | k
    · exact absurd hb (k.2.1 b)
    · exact h.own id o b k hb
  · rcases key id o ho with k | k
    · exact absurd hb (k.2.2 b)
    · exact h.foot id o b k hb
theorem OpOk.keep {P : Program} {o : Oper} {get : Operand → RV} {hp : Hp} {nx : Nat} {out : Out} (hwf : ∀ id ob, hlook hp id = some ob → id < nx) (h : OpOk P o get hp nx out) : OpOk P o get hp nx (out.keep hp) :=
  fun e a w hx hs K Q hK => h e a w hx hs K Q fun e' w' hp' => hK e' w' (hp'.keep hwf hs)
theorem evOp_ok {P : Program} {call : CallF Prop} {am : Mode} {facts : Nat → Option (Bool × Bool)} (hf : FactsOk facts) (hcall : CallsOk P call) {kp : Bool} {o : Oper} {get : Operand → RV} {hp : Hp} {nx : Nat} {K : Out → Prop} (hwf : WfOp get o hp nx) (h : evOp algP P facts call am kp o get hp nx K) : ∃ out, OpOk P o get hp nx out ∧ K out := by
  obtain ⟨out, h1, h2⟩ := evOp0_ok hf hcall hwf h
  cases kp with
  | false => exact ⟨out, h1, h2⟩
  | true => exact ⟨_, h1.keep fun id ob ho => (hwf.hp id ob ho).1, h2⟩
theorem decideRV_ok {facts : Nat → Option (Bool × Bool)} (hf : FactsOk facts) {g : Bool} {nx : Nat} {v : RV} {K : RV → Nat → Prop} (h : decideRV algP facts g nx v K) : ∃ v' nx', (∀ e, v'.den e = v.den e) ∧ v'.ids = v.ids ∧ nx ≤ nx' ∧ K v' nx' := by
  unfold decideRV at h
  split at h
  · rename_i b
    exact ⟨knownB b, nx + 1, fun _ => rfl, rfl, Nat.le_succ _, meet_ok hf h⟩
  · exact ⟨v, nx, fun _ => rfl, rfl, Nat.le_refl _, h⟩
theorem putL_none (fr : List RV) (v : RV) : putL fr none v = fr := rfl
theorem evOps_ok {P : Program} {call : CallF Prop} {am : Mode} {facts : Nat → Option (Bool × Bool)} (hf : FactsOk facts) (hcall : CallsOk P call) {ops : Array Oper} {fr0 : List RV} {hp0 : Hp} {nx0 : Nat} (hn : Names fr0 hp0 nx0) :
    ∀ (l : List Oper) (trs : List Tr) (K : List RV → Hp → Nat → List Tr → Prop), (∀ j o, l[j]? = some o → ops[trs.length + j]? = some o) → TrsOk P ops fr0 hp0 nx0 trs →
      evOps algP P facts call am ops l (frT fr0 trs) (hpT hp0 trs) (nxT nx0 trs) trs K → ∃ trs', trs'.length = trs.length + l.length ∧ TrsOk P ops fr0 hp0 nx0 trs' ∧ K (frT fr0 trs') (hpT hp0 trs') (nxT nx0 trs') trs' := by
  intro l
  induction l with
  | nil => intro trs K _ htr h; exact ⟨trs, rfl, htr, h⟩
  | cons o rest ih =>
    intro trs K hl htr h
    have hnm := htr.names hn
    have ho : ops[trs.length]? = some o := by simpa using hl 0 o rfl
    have hnext : ∀ t : Tr, ∀ j o', rest[j]? = some o' → ops[(t :: trs).length + j]? = some o' := by
      intro t j o' hj
      have := hl (j + 1) o' (by simpa using hj)
      simpa [Nat.add_assoc, Nat.add_comm 1 j] using this
    have hlen : ∀ (t : Tr) (n : Nat), n = (t :: trs).length + rest.length → n = trs.length + (o :: rest).length := by
      intro t n h; simp only [List.length_cons] at h ⊢; omega
    have hbound : ∀ d n, boundOk d n = true → ∀ x, d = some x → x < n := by
      intro d n h x hx
      subst hx
      exact blt_spec h
    -- an operation that is done
    have run : ∀ (R : List Nat), GuardIs ops o (frT fr0 trs) true → liveOps (frT fr0 trs) o = true → (evOp algP P facts call am (kpOf o rest) o (opnd (frT fr0 trs)) (restrict (hpT hp0 trs) R) (nxT nx0 trs) fun out =>
        bif okOut (restrict (hpT hp0 trs) R) (nxT nx0 trs) out.v out.up out.nx out.W && boundOk o.dst (frT fr0 trs).length then
          decideRV algP facts (isGuard ops.toList trs.length) out.nx out.v fun v nx' =>
            evOps algP P facts call am ops rest (putL (frT fr0 trs) o.dst v) (out.up ++ hpT hp0 trs) nx' (⟨o.dst, v, out.up, out.W, R, nxT nx0 trs, nx', looksOf ops o⟩ :: trs) K
        else algP.fail) → ∃ trs', trs'.length = trs.length + (o :: rest).length ∧ TrsOk P ops fr0 hp0 nx0 trs' ∧ K (frT fr0 trs') (hpT hp0 trs') (nxT nx0 trs') trs' := by
      intro R hg hlv hrun
      have hlive : ∀ x ∈ o.op.operands, (opnd (frT fr0 trs) x).isDead = false := fun x hx => by
        have := List.all_eq_true.1 hlv x (by simpa using hx)
        simpa using this
      have hids : ∀ x ∈ o.op.operands, ∀ id ∈ (opnd (frT fr0 trs) x).ids, id < nxT nx0 trs := by
        intro x _ id hid
        cases x with
        | tmp s => exact getD_ids hnm.1.fr hid
        | const v => simp only [opnd, RV.ids_ofVal] at hid; cases hid
        | global g => simp [opnd, RV.ids, SV.ids, CV.ids] at hid
        | func f => simp [opnd, RV.ids, SV.ids, CV.ids] at hid
      obtain ⟨out, hok, hK⟩ := evOp_ok hf hcall ⟨hids, fun id ob h => hnm.1.hp id ob (hlook_restrict h).2⟩ hrun
      cases hb : (okOut (restrict (hpT hp0 trs) R) (nxT nx0 trs) out.v out.up out.nx out.W && boundOk o.dst (frT fr0 trs).length) with
      | false => rw [hb] at hK; exact False.elim hK
      | true =>
        rw [hb] at hK
        simp only [cond_true] at hK
        simp only [Bool.and_eq_true] at hb
        obtain ⟨v, nx', hv, hvi, hnx', hK⟩ := decideRV_ok hf hK
        have hok' : okOut (restrict (hpT hp0 trs) R) (nxT nx0 trs) v out.up nx' out.W = true := by
          have := okOut_mono hnx' hb.1
          unfold okOut at this ⊢
          rw [hvi]; exact this
        let t : Tr := ⟨o.dst, v, out.up, out.W, R, nxT nx0 trs, nx', looksOf ops o⟩
        obtain ⟨trs', h1, h2, h3⟩ := ih (t :: trs) K (hnext t) ⟨⟨o, ho, ⟨rfl, rfl, rfl, hbound _ _ hb.2, hok', .inl ⟨hg, hlive, out, fun _ _ => hok, hv, rfl, hnx', rfl⟩⟩⟩, htr⟩ hK
        exact ⟨trs', hlen t _ h1, h2, h3⟩
    simp only [evOps, fL_eq fN fN_eq, fL_eq fE fE_eq, fL_eq fId fun _ _ => rfl, fRV_eq, fN_eq] at h
    have run' : ∀ (R : List Nat), GuardIs ops o (frT fr0 trs) true → (bif liveOps (frT fr0 trs) o then (evOp algP P facts call am (kpOf o rest) o (opnd (frT fr0 trs)) (restrict (hpT hp0 trs) R) (nxT nx0 trs) fun out =>
        bif okOut (restrict (hpT hp0 trs) R) (nxT nx0 trs) out.v out.up out.nx out.W && boundOk o.dst (frT fr0 trs).length then
          decideRV algP facts (isGuard ops.toList trs.length) out.nx out.v fun v nx' =>
            evOps algP P facts call am ops rest (putL (frT fr0 trs) o.dst v) (out.up ++ hpT hp0 trs) nx' (⟨o.dst, v, out.up, out.W, R, nxT nx0 trs, nx', looksOf ops o⟩ :: trs) K
        else algP.fail) else algP.fail) → ∃ trs', trs'.length = trs.length + (o :: rest).length ∧ TrsOk P ops fr0 hp0 nx0 trs' ∧ K (frT fr0 trs') (hpT hp0 trs') (nxT nx0 trs') trs' := by
      intro R hg hrun
      cases hlv : liveOps (frT fr0 trs) o with
      | false => rw [hlv] at hrun; exact False.elim hrun
      | true => rw [hlv] at hrun; exact run R hg hlv hrun
    split at h
    · rename_i hgd
      exact run' _ (by unfold GuardIs; rw [hgd]) h
    · rename_i g want hgd
      split at h
      · rename_i s hs
        split at h
        · rename_i k b hfr
          cases hbw : (b == want) with
          | true =>
            rw [hbw] at h
            exact run' _ (by unfold GuardIs; rw [hgd]; exact .inl ⟨s, b, k, hs, hfr, hbw.symm⟩) h
          | false =>
            rw [hbw] at h
            simp only [cond_false] at h
            cases hb : boundOk o.dst (frT fr0 trs).length with
            | false => rw [hb] at h; exact False.elim h
            | true =>
              rw [hb] at h
              let t : Tr := ⟨o.dst, RV.und, [], [], [], nxT nx0 trs, nxT nx0 trs, looksOf ops o⟩
              have g1 : okOut (restrict (hpT hp0 trs) t.R) (nxT nx0 trs) t.v t.up t.nx1 t.W = true := by simp [t, okOut, RV.und, RV.ids, SV.ids, CV.ids]
              have g2 : GuardIs ops o (frT fr0 trs) false := by unfold GuardIs; rw [hgd]; exact .inl ⟨s, b, k, hs, hfr, hbw.symm⟩
              obtain ⟨trs', h1, h2, h3⟩ := ih (t :: trs) K (hnext t) ⟨⟨o, ho, ⟨rfl, rfl, rfl, hbound _ _ hb, g1, .inr ⟨g2, rfl, rfl, rfl, rfl⟩⟩⟩, htr⟩ h
              exact ⟨trs', hlen t _ h1, h2, h3⟩
        · rename_i hfr
          cases hb : boundOk o.dst (frT fr0 trs).length with
          | false => rw [hb] at h; exact False.elim h
          | true =>
            rw [hb] at h
            let t : Tr := ⟨o.dst, RV.und, [], [], [], nxT nx0 trs, nxT nx0 trs, looksOf ops o⟩
            have g1 : okOut (restrict (hpT hp0 trs) t.R) (nxT nx0 trs) t.v t.up t.nx1 t.W = true := by simp [t, okOut, RV.und, RV.ids, SV.ids, CV.ids]
            have g2 : GuardIs ops o (frT fr0 trs) false := by unfold GuardIs; rw [hgd]; exact .inr ⟨s, hs, hfr, rfl⟩
            obtain ⟨trs', h1, h2, h3⟩ := ih (t :: trs) K (hnext t) ⟨⟨o, ho, ⟨rfl, rfl, rfl, hbound _ _ hb, g1, .inr ⟨g2, rfl, rfl, rfl, rfl⟩⟩⟩, htr⟩ h
            exact ⟨trs', hlen t _ h1, h2, h3⟩
        · exact False.elim h
      · exact False.elim h
theorem Stands.dec {n0 base : Nat} {H0 : Nat → Option HO} {st : St} {e : Env} {a : Act} {w : World} {c : Operand} {k b : Bool} (h : Stands n0 base H0 st e a w) (hc : opnd st.fr c = .sv (.one (.val k (.bool b)))) : Stands n0 base H0 (decSt st c b) e a w := by
  cases c with
  | tmp s =>
    refine ⟨by simp [decSt, h.size], fun i r hr => ?_, h.defers, h.sat, h.own, h.foot, h.old⟩
    simp only [decSt, List.getElem?_set] at hr
    by_cases hi : s = i
    · subst hi
      simp only [if_true] at hr
      split at hr
      · rename_i hlt
        cases hr
        simp only [opnd, List.getD_eq_getElem?_getD, List.getElem?_eq_getElem hlt, Option.getD_some] at hc
        have := (h.fr s _ (List.getElem?_eq_getElem hlt)).resolve_left (by rw [hc]; simp [RV.isDead])
        exact .inr (by rw [this, hc]; rfl)
      · cases hr
    · rw [if_neg hi] at hr
      exact h.fr i r hr
  | const v => exact ⟨h.size, h.fr, h.defers, h.sat, h.own, h.foot, h.old⟩
  | global g => exact ⟨h.size, h.fr, h.defers, h.sat, h.own, h.foot, h.old⟩
  | func f => exact ⟨h.size, h.fr, h.defers, h.sat, h.own, h.foot, h.old⟩
theorem decSt_names {st : St} {c : Operand} {b : Bool} (h : Names st.fr st.hp st.nx) : Names (decSt st c b).fr (decSt st c b).hp (decSt st c b).nx := by
  have h2 : ∀ id o, hlook st.hp id = some o → id < st.nx + 1 ∧ ∀ i ∈ o.ids, i < st.nx + 1 := fun id o ho => ⟨Nat.lt_succ_of_lt (h.hp id o ho).1, fun i hi => Nat.lt_succ_of_lt ((h.hp id o ho).2 i hi)⟩
  have h1 : ∀ r ∈ st.fr, ∀ i ∈ r.ids, i < st.nx + 1 := fun r hr i hi => Nat.lt_succ_of_lt (h.fr r hr i hi)
  cases c with
  | tmp s =>
    refine ⟨fun r hr i hi => ?_, h2⟩
    rcases mem_set hr with rfl | hr
    · simp [knownB, RV.ids, SV.ids, CV.ids] at hi
    · exact h1 r hr i hi
  | _ => exact ⟨h1, h2⟩
theorem decSt_nx {st : St} {c : Operand} {b : Bool} : (decSt st c b).nx = st.nx + 1 := by cases c <;> rfl
theorem decSt_W {st : St} {c : Operand} {b : Bool} : (decSt st c b).W = st.W := by cases c <;> rfl
theorem CodeTo.dec {P : Program} {n0 : Nat} {code : Code} {st : St} {R : Ex → St → Prop} {c : Operand} {k b : Bool} (hc : opnd st.fr c = .sv (.one (.val k (.bool b)))) (h : CodeTo P n0 code (decSt st c b) R) : CodeTo P n0 code st R := by
  intro hn hn0 base H0 e a w h2 hs Q hQ
  refine h (decSt_names hn) (by rw [decSt_nx]; omega) base H0 e a w h2 (hs.dec hc) Q fun ex st' e' a' w' hR hn' hnx hW hm hs' => ?_
  exact hQ ex st' e' a' w' hR hn' (by rw [decSt_nx] at hnx; omega) (fun id hid hlt => hW id (by rw [decSt_W]; exact hid) hlt) ⟨hm.agree, hm.os, hm.tape, hm.output, hm.size, hm.fr⟩ hs'
/-- One place alone. -/
def At1 (ex : Ex) (s : St) : Ex → St → Prop := fun ex' s' => ex' = ex ∧ s' = s
theorem evLoop_ok {P : Program} {n0 : Nat} {c : Code} {body : St → (Ex → St → Prop) → Prop} (hb : ∀ st (K : Ex → St → Prop), Names st.fr st.hp st.nx → body st K → ∃ ex s, CodeTo P n0 c st (At1 ex s) ∧ (Names s.fr s.hp s.nx ∧ st.nx ≤ s.nx) ∧ K ex s) :
    ∀ (n : Nat) (st : St) (K : Ex → St → Prop), Names st.fr st.hp st.nx → evLoop algP body n st K → ∃ ex s, RoundsTo P n0 c n st (At1 ex s) ∧ (Names s.fr s.hp s.nx ∧ st.nx ≤ s.nx) ∧ K ex s := by
  intro n
  induction n with
  | zero => intro st K _ h; exact False.elim h
  | succ n ih =>
    intro st K hn h
    obtain ⟨ex, s, h1, h2, h3⟩ := hb st _ hn h
    cases ex with
    | normal =>
      obtain ⟨ex', s', h4, h5, h6⟩ := ih s K h2.1 h3
      exact ⟨ex', s', .round h1 (fun s0 hs0 => by rw [hs0.2]; exact h4) (fun ex0 s0 hne h0 => absurd h0.1 hne), ⟨h5.1, Nat.le_trans h2.2 h5.2⟩, h6⟩
    | exit i => exact ⟨_, s, .round h1 (fun s0 hs0 => by cases hs0.1) (fun _ _ _ h0 => h0), h2, h3⟩
    | ret => exact ⟨_, s, .round h1 (fun s0 hs0 => by cases hs0.1) (fun _ _ _ h0 => h0), h2, h3⟩
/-- From a place that is S under other names. -/
theorem CodeTo.from {P : Program} {n0 : Nat} {c : Code} {rn : List (Nat × Option Nat)} {S st : St} {R : Ex → St → Prop} {p : List HO × List HO} (hb : landB n0 rn S st = true) (hh : landHp n0 rn st.hp S.hp = some p)
    (hfr : (landFr n0 rn S.fr st.fr).1 = (landFr n0 rn S.fr st.fr).2) (hhp : p.1 = p.2) (hnx : st.nx ≤ S.nx) (hW : ∀ i ∈ st.W, i < n0 → i ∈ S.W) (h : CodeTo P n0 c S R) : CodeTo P n0 c st R := by
  intro hn hn0 base H0 e a w h2 hs Q hQ
  obtain ⟨hnm, e'', h3, h4, h5⟩ := land_ok (e := e) hb hh hfr hhp hs (fun id _ => .refl _ _)
  refine h hnm (Nat.le_trans hn0 hnx) base H0 e'' a w h2 h5 Q fun ex st' e' a' w' hR hn' hnx' hW' hm hs' => ?_
  refine hQ ex st' e' a' w' hR hn' (Nat.le_trans hnx hnx') (fun id hid hlt => hW' id (hW id hid hlt) hlt) ⟨fun id hid => ?_, hm.os, hm.tape, hm.output, hm.size, fun k hk hne => hm.fr k hk fun hw => hne (hw.same (fun id hid => (h3 id hid).symm) fun _ h _ => h)⟩ hs'
  have g1 : e.same e'' id := by
    rcases hid with hid | hid
    · exact h3 id hid
    · exact h4 id (Nat.le_trans hnx' hid)
  exact g1.trans (hm.agree id hid)
/-- To a place that is S under other names. -/
theorem CodeTo.land {P : Program} {n0 : Nat} {c : Code} {S st : St} {R R' : Ex → St → Prop} (h : CodeTo P n0 c st R) (hnx : st.nx ≤ S.nx) (hW : ∀ i ∈ st.W, i < n0 → i ∈ S.W)
    (hl : ∀ ex s, R ex s → R' ex S ∧ ∃ rn p, landB n0 rn S s = true ∧ landHp n0 rn s.hp S.hp = some p ∧ (landFr n0 rn S.fr s.fr).1 = (landFr n0 rn S.fr s.fr).2 ∧ p.1 = p.2) : CodeTo P n0 c st R' := by
  intro hn hn0 base H0 e a w h2 hs Q hQ
  refine h hn hn0 base H0 e a w h2 hs Q fun ex s e' a' w' hR hn' hnx' hW' hm hs' => ?_
  obtain ⟨hR', rn, p, g1, g2, g3, g4⟩ := hl ex s hR
  obtain ⟨hnm, e'', h3, h4, h5⟩ := land_ok (e := e) g1 g2 g3 g4 hs' (fun id hid => hm.agree id (.inl hid))
  refine hQ ex S e'' a' w' hR' hnm hnx hW ⟨fun id hid => ?_, hm.os, hm.tape, hm.output, hm.size, fun k hk hne => hm.fr k hk fun hw => hne (hw.same (fun _ _ => .refl _ _) fun j hj hlt => ?_)⟩ h5
  · rcases hid with hid | hid
    · exact (hm.agree id (.inl hid)).trans (h3 id hid)
    · exact h4 id hid
  · simp only [landB, Bool.and_eq_true, List.all_eq_true, Bool.or_eq_true] at g1
    rcases g1.1.2 j hj with h' | h'
    · have := Nat.le_of_ble_eq_true h'; omega
    · obtain ⟨q, hq, hbq⟩ := List.any_eq_true.1 h'; rw [Nat.eq_of_beq_eq_true hbq]; exact hq
theorem namesB_spec {s : St} (h : namesB s = true) : Names s.fr s.hp s.nx := by
  simp only [namesB, Bool.and_eq_true, List.all_eq_true] at h
  refine ⟨fun r hr i hi => blt_spec (h.1 r hr i hi), fun id o ho => ?_⟩
  have := h.2 _ (hlook_mem ho)
  exact ⟨blt_spec this.1, fun i hi => blt_spec (this.2 i hi)⟩
theorem evLR_ok {facts : Nat → Option (Bool × Bool)} (hf : FactsOk facts) {m : Nat} : ∀ (r : LR) (n : Nat) (K : Ex → St → Prop), evLR algP facts m r n K → ∃ ex s, (∀ ex' s', r.has ex' s' → At1 ex s ex' s') ∧ (Names s.fr s.hp s.nx ∧ m ≤ s.nx) ∧ K ex s := by
  intro r
  induction r with
  | one ex s =>
    intro n K h
    simp only [evLR] at h
    cases hb : (namesB s && Nat.ble m s.nx) with
    | false => rw [hb] at h; exact False.elim h
    | true =>
      rw [hb] at h
      simp only [Bool.and_eq_true] at hb
      exact ⟨ex, s, fun _ _ hh => hh, ⟨namesB_spec hb.1, Nat.le_of_ble_eq_true hb.2⟩, h⟩
  | br b x y ihx ihy =>
    intro n K h
    have h := meet_ok hf h
    cases b with
    | true =>
      obtain ⟨ex, s, h1, h2, h3⟩ := ihx _ K h
      exact ⟨ex, s, fun ex' s' hh => h1 ex' s' (by simpa [LR.has] using hh), h2, h3⟩
    | false =>
      obtain ⟨ex, s, h1, h2, h3⟩ := ihy _ K h
      exact ⟨ex, s, fun ex' s' hh => h1 ex' s' (by simpa [LR.has] using hh), h2, h3⟩
theorem eqL_ok : ∀ {l r : List Item} {K : Prop}, eqL algP l r K → l = r ∧ K := by
  intro l
  induction l with
  | nil => intro r K h; cases r with
    | nil => exact ⟨rfl, h⟩
    | cons y r => exact False.elim h
  | cons x l ih => intro r K h; cases r with
    | nil => exact False.elim h
    | cons y r =>
      obtain ⟨h1, h2⟩ := h
      obtain ⟨h3, h4⟩ := ih h2
      exact ⟨by rw [h1, h3], h4⟩
theorem obO_ok {nx : Nat} {o : Option Bool} {K : Prop} (h : obO algP nx o K) : (∀ b, o = some b → b = true) ∧ K := by
  cases o with
  | none => exact ⟨fun b hb => (by cases hb), h⟩
  | some b => exact ⟨fun b' hb => (by cases hb; exact h.1), h.2⟩
/-- Both ways of a test lead to where they are said to meet. -/
def JnOk (P : Program) (n0 : Nat) (jn : JoinF) : Prop := (∀ c b k x y st j, opnd st.fr c = .sv (.one (.val k (.bool b))) → Names st.fr st.hp st.nx → jn.c c b x y st = some j → j.l = j.r → (∀ o, j.obs = some o → o = true) →
  CodeTo P n0 (.cond c x y) st (At1 .normal j.s) ∧ (Names j.s.fr j.s.hp j.s.nx ∧ st.nx ≤ j.s.nx)) ∧
  ∀ id ops draw st j, Names st.fr st.hp st.nx → jn.r ops draw st = some j → j.l = j.r → (∀ o, j.obs = some o → o = true) → CodeTo P n0 (.region id ops draw) st (At1 .normal j.s) ∧ (Names j.s.fr j.s.hp j.s.nx ∧ st.nx ≤ j.s.nx)
theorem evCode_ok {P : Program} {call : CallF Prop} {am : Mode} {n0 : Nat} {facts : Nat → Option (Bool × Bool)} (hf : FactsOk facts) (hcall : CallsOk P call) {hook : Nat → St → Option (LoopCon P)} {jn : JoinF} (hj : JnOk P n0 jn) : ∀ (c : Code) (st : St) (K : Ex → St → Prop), Names st.fr st.hp st.nx → evCode algP P facts call hook jn n0 am c st K →
    ∃ ex s, CodeTo P n0 c st (At1 ex s) ∧ (Names s.fr s.hp s.nx ∧ st.nx ≤ s.nx) ∧ K ex s := by
  intro c
  induction c with
  | skip => intro st K hn h; exact ⟨_, _, .skip ⟨rfl, rfl⟩, ⟨hn, Nat.le_refl _⟩, h⟩
  | label l => intro st K hn h; exact ⟨_, _, .label ⟨rfl, rfl⟩, ⟨hn, Nat.le_refl _⟩, h⟩
  | exit id => intro st K hn h; exact ⟨_, _, .exit ⟨rfl, rfl⟩, ⟨hn, Nat.le_refl _⟩, h⟩
  | ret => intro st K hn h; exact ⟨_, _, .ret ⟨rfl, rfl⟩, ⟨hn, Nat.le_refl _⟩, h⟩
  | region id ops draw =>
    intro st K hn h
    simp only [evCode] at h
    split at h
    · rename_i j hjn
      obtain ⟨g1, g2⟩ := eqL_ok h
      obtain ⟨g3, g4⟩ := obO_ok g2
      simp only [fL_eq fRV fRV_eq, fL_eq fE fE_eq, fN_eq, fL_eq fN fN_eq] at g4
      obtain ⟨k1, k2⟩ := hj.2 id ops draw st j hn hjn g1 g3
      exact ⟨.normal, j.s, k1, k2, g4⟩
    obtain ⟨trs, h1, h2, h3⟩ := evOps_ok hf hcall hn ops.toList [] _ (fun j o hj => by simpa using hj) trivial h
    cases hb : (!draw || (P.follows .mixedOrders && edgesBack ops.toList 0 && chkAll trs (masks ops.toList []))) with
    | false => rw [hb] at h3; exact False.elim h3
    | true =>
      rw [hb] at h3
      refine ⟨_, _, .region h2 (by simpa using h1) (fun hd => ?_) ⟨rfl, rfl⟩, h2.names hn, h3⟩
      subst hd
      simp only [Bool.not_true, Bool.false_or, Bool.and_eq_true] at hb
      exact ⟨hb.1.1, hb.1.2, hb.2⟩
  | seq x y ihx ihy =>
    intro st K hn h
    obtain ⟨ex, s, h1, h2, h3⟩ := ihx st _ hn h
    cases ex with
    | normal =>
      obtain ⟨ex', s', h4, h5, h6⟩ := ihy s K h2.1 h3
      exact ⟨ex', s', .seq h1 (fun s0 hs0 => by rw [hs0.2]; exact h4) (fun ex0 s0 hne h0 => absurd h0.1 hne), ⟨h5.1, Nat.le_trans h2.2 h5.2⟩, h6⟩
    | exit i => exact ⟨_, s, .seq h1 (fun s0 hs0 => by cases hs0.1) (fun _ _ _ h0 => h0), h2, h3⟩
    | ret => exact ⟨_, s, .seq h1 (fun s0 hs0 => by cases hs0.1) (fun _ _ _ h0 => h0), h2, h3⟩
  | cond c x y ihx ihy =>
    intro st K hn h
    simp only [evCode] at h
    split at h
    · rename_i k b hc
      cases k with
      | true =>
        simp only [cond_true] at h
        cases b with
        | true => obtain ⟨ex, s, h1, h2, h3⟩ := ihx st K hn h; exact ⟨ex, s, .cond hc h1, h2, h3⟩
        | false => obtain ⟨ex, s, h1, h2, h3⟩ := ihy st K hn h; exact ⟨ex, s, .cond hc h1, h2, h3⟩
      | false =>
        simp only [cond_false] at h
        have part : meet algP facts st.nx b (fun d => bif d then evCode algP P facts call hook jn n0 am x (decSt st c true) K else evCode algP P facts call hook jn n0 am y (decSt st c false) K) →
            ∃ ex s, CodeTo P n0 (.cond c x y) st (At1 ex s) ∧ (Names s.fr s.hp s.nx ∧ st.nx ≤ s.nx) ∧ K ex s := by
          intro h
          have h := meet_ok hf h
          cases b with
          | true => obtain ⟨ex, s, h1, h2, h3⟩ := ihx _ K (decSt_names hn) h; exact ⟨ex, s, .cond hc (.dec hc h1), ⟨h2.1, by have := h2.2; rw [decSt_nx] at this; omega⟩, h3⟩
          | false => obtain ⟨ex, s, h1, h2, h3⟩ := ihy _ K (decSt_names hn) h; exact ⟨ex, s, .cond hc (.dec hc h1), ⟨h2.1, by have := h2.2; rw [decSt_nx] at this; omega⟩, h3⟩
        split at h
        · exact part h
        · split at h
          · rename_i j hjn
            obtain ⟨g1, g2⟩ := eqL_ok h
            obtain ⟨g3, g4⟩ := obO_ok g2
            simp only [fL_eq fRV fRV_eq, fL_eq fE fE_eq, fN_eq, fL_eq fN fN_eq] at g4
            obtain ⟨k1, k2⟩ := hj.1 c b false x y st j hc hn hjn g1 g3
            exact ⟨.normal, j.s, k1, k2, g4⟩
          · exact part h
    · exact False.elim h
  | block id c ih =>
    intro st K hn h
    simp only [evCode] at h
    split at h
    · rename_i lc hlc
      cases hb : (Nat.beq lc.n0 n0 && Nat.ble st.nx lc.S.nx && st.W.all (fun i => Nat.ble n0 i || lc.S.W.any (Nat.beq i))) with
      | false => rw [hb] at h; exact False.elim h
      | true =>
        rw [hb] at h
        simp only [cond_true] at h
        simp only [Bool.and_eq_true, List.all_eq_true, Bool.or_eq_true] at hb
        obtain ⟨⟨b1, b2⟩, b3⟩ := hb
        have b1 := Nat.eq_of_beq_eq_true b1
        have b2 := Nat.le_of_ble_eq_true b2
        obtain ⟨hcode, h⟩ := h
        simp only [Item.code.injEq] at hcode
        have hW : ∀ i ∈ st.W, i < n0 → i ∈ lc.S.W := fun i hi hlt => by
          rcases b3 i hi with h' | h'
          · have := Nat.le_of_ble_eq_true h'; omega
          · obtain ⟨q, hq, hbq⟩ := List.any_eq_true.1 h'; rw [Nat.eq_of_beq_eq_true hbq]; exact hq
        unfold evLand at h
        cases hl : landB n0 lc.rn lc.S st with
        | false => rw [hl] at h; exact False.elim h
        | true =>
          rw [hl] at h
          simp only [cond_true] at h
          split at h
          · rename_i p hp
            obtain ⟨heq, h⟩ := h
            simp only [Item.st.injEq] at heq
            have main : Must lc.pre → evLR algP facts lc.S.nx lc.r (st.nx + 1) K → ∃ ex s, CodeTo P n0 (.block id c) st (At1 ex s) ∧ (Names s.fr s.hp s.nx ∧ st.nx ≤ s.nx) ∧ K ex s := by
              intro hm hk
              obtain ⟨ex, s, h1, h2, h3⟩ := evLR_ok hf _ _ K hk
              have := lc.ok hm
              rw [hcode, b1] at this
              exact ⟨ex, s, CodeTo.from hl hp heq.1 heq.2 b2 hW (this.mono h1), ⟨h2.1, Nat.le_trans b2 h2.2⟩, h3⟩
            split at h
            · rename_i b hpre
              obtain ⟨g1, g2⟩ := settle_ok hf h
              exact main (fun b' hb' => by rw [hpre] at hb'; cases hb'; exact g1) g2
            · rename_i hpre
              exact main (fun b' hb' => by rw [hpre] at hb'; cases hb') h
          · exact False.elim h
    · obtain ⟨ex, s, h1, h2, h3⟩ := ih st _ hn h
      cases ex with
      | normal => exact ⟨.normal, s, .block h1 (fun s0 h0 => h0) (fun s0 h0 => by cases h0.1) (fun i s0 _ h0 => by cases h0.1) (fun s0 h0 => by cases h0.1), h2, h3⟩
      | exit i =>
        simp only at h3
        cases hi : Nat.beq i id with
        | true =>
          rw [hi] at h3
          obtain rfl := Nat.eq_of_beq_eq_true hi
          exact ⟨.normal, s, .block h1 (fun s0 h0 => by cases h0.1) (fun s0 h0 => ⟨rfl, h0.2⟩) (fun j s0 hne h0 => by cases h0.1; exact absurd rfl hne) (fun s0 h0 => by cases h0.1), h2, h3⟩
        | false =>
          rw [hi] at h3
          have hne : i ≠ id := fun h => by rw [h, Nat.beq_refl] at hi; cases hi
          exact ⟨.exit i, s, .block h1 (fun s0 h0 => by cases h0.1) (fun s0 h0 => by cases h0.1; exact absurd rfl hne) (fun j s0 _ h0 => h0) (fun s0 h0 => by cases h0.1), h2, h3⟩
      | ret => exact ⟨.ret, s, .block h1 (fun s0 h0 => by cases h0.1) (fun s0 h0 => by cases h0.1) (fun i s0 _ h0 => by cases h0.1) (fun s0 h0 => h0), h2, h3⟩
  | loop c ih =>
    intro st K hn h
    obtain ⟨ex, s, h1, h2, h3⟩ := evLoop_ok (fun st K hn h => ih st K hn h) 300 st K hn h
    exact ⟨ex, s, .loop h1, h2, h3⟩
  | scope c ih =>
    intro st K hn h
    obtain ⟨ex, s, h1, h2, h3⟩ := ih st K hn h
    exact ⟨ex, s, .scope h1, h2, h3⟩
  | rangeFunc f p a b _ _ => intro st K _ h; exact False.elim h
  | goto l => intro st K _ h; exact False.elim h
  | refuse s => intro st K _ h; exact False.elim h
end Go.Proofs.Ytonlllijdbjkaaa
