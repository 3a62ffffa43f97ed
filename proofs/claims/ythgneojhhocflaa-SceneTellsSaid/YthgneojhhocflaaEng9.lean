/- A symbolic way through the code of a call: the way itself, and that it is the code's. No condition. -/
import Derived.Test.YthgneojhhocflaaEng8
import Derived.Test.YthgneojhhocflaaEngY
set_option linter.unusedVariables false
namespace Go.Proofs.Ythgneojhhocflaa
open Go.RowKit

/-! ### Answers written out at once (the kernel goes on with what it sees) -/
section
variable {R : Type}
def fB (b : Bool) (k : Bool → R) : R := match b with | true => k true | false => k false
def fN (n : Nat) (k : Nat → R) : R := match n with | 0 => k 0 | n + 1 => k (n + 1)
def fI (n : Int) (k : Int → R) : R := match n with | .ofNat m => fN m fun m => k (.ofNat m) | .negSucc m => fN m fun m => k (.negSucc m)
def fV (kn : Bool) (v : Value) (k : Value → R) : R :=
  match v with
  | .int kd n => bif kn then fI n fun n => k (.int kd n) else k (.int kd n)
  | .bool b => bif kn then fB b fun b => k (.bool b) else k (.bool b)
  | v => k v
def fCV (c : CV) (k : CV → R) : R :=
  match c with
  | .val kn v => fB kn fun kn => fV kn v fun v => k (.val kn v)
  | .ptr id off => fN id fun id => fN off fun off => k (.ptr id off)
  | .eptr id off => fN id fun id => fN off fun off => k (.eptr id off)
  | .sl id off len cap => fN id fun id => fN off fun off => fN len fun len => fN cap fun cap => k (.sl id off len cap)
  | .ext id => fN id fun id => k (.ext id)
  | .fn f caps => k (.fn f caps)
  | .bm f cs => k (.bm f cs)
def fL {α : Type} (f : α → (α → R) → R) : List α → (List α → R) → R
  | [], k => k []
  | a :: l, k => f a fun a => fL f l fun l => k (a :: l)
def fSV (s : SV) (k : SV → R) : R := match s with | .one c => fCV c fun c => k (.one c) | .agg cs => fL fCV cs fun cs => k (.agg cs)
def fRV (r : RV) (k : RV → R) : R := match r with | .sv s => fSV s fun s => k (.sv s) | .tup l => fL fSV l fun l => k (.tup l) | .dead => k .dead
def fHO (o : HO) (k : HO → R) : R := match o with | .cells cs t => fL fCV cs fun cs => k (.cells cs t) | .grid sh l => k (.grid sh l) | .row sh t l => k (.row sh t l) | .elem id i w => fN id fun id => fN w fun w => k (.elem id i w) | .gone => k .gone
def fE (p : Nat × HO) (k : Nat × HO → R) : R := match p with | (i, o) => fN i fun i => fHO o fun o => k (i, o)
def fId {α : Type} (a : α) (k : α → R) : R := k a
def fSp {α : Type} : List α → (List α → R) → R
  | [], k => k []
  | a :: l, k => fSp l fun l => k (a :: l)
theorem fSp_eq {α : Type} : ∀ (l : List α) (k : List α → R), fSp l k = k l := by
  intro l
  induction l with
  | nil => intro k; rfl
  | cons a l ih => intro k; simp [fSp, ih]
def fSt (s : St) (k : St → R) : R := fSp s.fr fun fr => fSp s.hp fun hp => fN s.nx fun nx => k ⟨fr, hp, nx, s.W⟩
theorem fB_eq (b : Bool) (k : Bool → R) : fB b k = k b := by cases b <;> rfl
theorem fN_eq (n : Nat) (k : Nat → R) : fN n k = k n := by cases n <;> rfl
theorem fI_eq (n : Int) (k : Int → R) : fI n k = k n := by cases n <;> simp [fI, fN_eq]
theorem fV_eq (kn : Bool) (v : Value) (k : Value → R) : fV kn v k = k v := by
  cases v <;> first | rfl | (cases kn <;> simp [fV, fI_eq, fB_eq])
theorem fCV_eq (c : CV) (k : CV → R) : fCV c k = k c := by
  cases c <;> simp [fCV, fN_eq, fB_eq, fV_eq]
theorem fL_eq {α : Type} (f : α → (α → R) → R) (hf : ∀ a k, f a k = k a) : ∀ (l : List α) (k : List α → R), fL f l k = k l := by
  intro l
  induction l with
  | nil => intro k; rfl
  | cons a l ih => intro k; simp [fL, hf, ih]
theorem fSV_eq (s : SV) (k : SV → R) : fSV s k = k s := by
  cases s <;> simp [fSV, fCV_eq, fL_eq fCV fCV_eq]
theorem fRV_eq (r : RV) (k : RV → R) : fRV r k = k r := by
  cases r <;> simp [fRV, fSV_eq, fL_eq fSV fSV_eq]
theorem fSt_eq (s : St) (k : St → R) : fSt s k = k s := by simp [fSt, fSp_eq, fN_eq]
theorem fHO_eq (o : HO) (k : HO → R) : fHO o k = k o := by
  cases o <;> simp [fHO, fL_eq fCV fCV_eq, fN_eq]
theorem fE_eq (p : Nat × HO) (k : Nat × HO → R) : fE p k = k p := by
  obtain ⟨i, o⟩ := p
  simp [fE, fN_eq, fHO_eq]
end
/-- What is laid side by side: values, what must hold, a test, where a piece of code leads, code. -/
inductive Item where
  | v (x : Value)
  | ob (n : Nat) (b : Bool)
  | br (n : Nat) (b : Bool)
  | st (fr : List RV) (hp : List HO)
  | code (c : Code)
  | hp (h : Hp)
  | no
/-- What a way may answer: a proposition, or two rows that are to be equal. -/
structure Alg (R : Type) where
  fail : R
  ob : Nat → Bool → R → R
  eqI : Item → Item → R → R
  br : Nat → Bool → R → R → R
abbrev CallF (R : Type) := FuncId → List RV → Hp → Nat → (Out → R) → R
def Must (p : Option Bool) : Prop := ∀ b, p = some b → b = true
/-- What is known of a function without a look at its text; it may ask that something holds. -/
structure Con (P : Program) where
  f : FuncId
  g : List RV → Hp → Nat → Option (Option Bool × Out)
  ok : ∀ args hp nx p out, Names args hp nx → g args hp nx = some (p, out) → Must p → CallOk P f args hp nx out
/-- Where a piece of code leads. -/
inductive LR where
  | one (ex : Ex) (s : St)
  | br (b : Bool) (x y : LR)
def LR.has : LR → Ex → St → Prop
  | .one ex s, ex', s' => ex' = ex ∧ s' = s
  | .br b x y, ex', s' => if b = true then x.has ex' s' else y.has ex' s'
/-- What is known of a piece of code (a loop): from the place S on, whose names stand for those of rn (or for nothing yet). -/
structure LoopCon (P : Program) where
  n0 : Nat
  c : Code
  rn : List (Nat × Option Nat)
  S : St
  pre : Option Bool
  r : LR
  ok : Must pre → CodeTo P n0 c S r.has
/-- How a function's code is gone through: 'am': its equalities are to hold; 'rows': a slice that is written out is a row of its own. -/
structure Mode where
  am : Bool
  rows : Bool
instance : Coe Bool Mode := ⟨fun b => ⟨b, false⟩⟩
/-- What is known ahead: functions' contracts; pieces of code that are shown beside (by their block and the next free name); functions whose equalities are to hold; tests that are settled, each by the next free name where it is met; how deep the two ways of a test are joined. -/
structure Cfg (P : Program) where
  cons : List (Con P)
  hooks : FuncId → Nat → Nat → Option (LoopCon P)
  am : FuncId → Mode
  facts : Nat → Option (Bool × Bool)
  join : FuncId → Nat
def goesIn (P : Program) (g : FuncId) : Bool :=
  match P.funcs[g]? with
  | some fn => !(fn.name == "runtime.NumGoroutine") && !fn.body.isNone
  | none => false
def bmCV : BV → CV
  | .inl v => .val false v
  | .inr id => .ext id
  | .sl id off len cap => .sl id off len cap
def calleeOf (get : Operand → RV) (c : Call) : Option (FuncId × List RV × List (Nat × Nat)) :=
  match c.callee with
  | .value f => (match get f with
    | .sv (.one (.fn g caps)) => some (g, [], caps)
    | .sv (.one (.bm g cs)) => some (g, [.sv (.agg (cs.map bmCV))], [])
    | _ => none)
  | _ => none
def ptrRV (p : Nat × Nat) : RV := .sv (.one (.ptr p.1 p.2))
def CV.unk : CV → CV
  | .val _ v => .val false v
  | c => c
def SV.unk : SV → SV
  | .one c => .one c.unk
  | .agg cs => .agg (cs.map CV.unk)
def RV.unk : RV → RV
  | .sv s => .sv s.unk
  | .tup l => .tup (l.map SV.unk)
  | .dead => .dead
def HO.unk : HO → HO
  | .cells cs t => .cells (cs.map CV.unk) t
  | o => o
/-! ### A place under other names -/
def rnL : List (Nat × Option Nat) → Nat → Option (Option Nat)
  | [], _ => none
  | (i, o) :: r, id => bif Nat.beq i id then some o else rnL r id
def renId (n0 : Nat) (rn : List (Nat × Option Nat)) (id : Nat) : Option (Option Nat) := bif Nat.blt id n0 then some (some id) else rnL rn id
def ren1 (n0 : Nat) (rn : List (Nat × Option Nat)) (id : Nat) : Nat := match renId n0 rn id with | some (some i) => i | _ => 0
def okId (n0 : Nat) (rn : List (Nat × Option Nat)) (m id : Nat) : Bool := Nat.blt id m && (match renId n0 rn id with | some (some _) => true | _ => false)
def bmMap (g : Nat → Nat) : BV → BV
  | .inl v => .inl v
  | .inr id => .inr (g id)
  | .sl id off len cap => .sl (g id) off len cap
def CV.okR (n0 : Nat) (rn : List (Nat × Option Nat)) (m : Nat) : CV → Bool
  | .val _ _ => true
  | .ext id => Nat.blt id m && (match renId n0 rn id with | some _ => true | none => false)
  | .ptr id _ => okId n0 rn m id
  | .eptr id _ => okId n0 rn m id
  | .sl id _ _ _ => okId n0 rn m id
  | .fn _ caps => caps.all fun p => okId n0 rn m p.1
  | .bm _ cs => cs.all fun p => (bmIds p).all fun id => okId n0 rn m id
def CV.ren (n0 : Nat) (rn : List (Nat × Option Nat)) : CV → CV
  | .val _ v => .val false v
  | .ext id => (match renId n0 rn id with | some (some i) => .ext i | _ => .val false (.slice none 0 0))
  | .ptr id off => .ptr (ren1 n0 rn id) off
  | .eptr id off => .eptr (ren1 n0 rn id) off
  | .sl id off len cap => .sl (ren1 n0 rn id) off len cap
  | .fn f caps => .fn f (caps.map fun p => (ren1 n0 rn p.1, p.2))
  | .bm f cs => .bm f (cs.map (bmMap (ren1 n0 rn)))
def SV.okR (n0 : Nat) (rn : List (Nat × Option Nat)) (m : Nat) : SV → Bool
  | .one c => c.okR n0 rn m
  | .agg cs => cs.all (CV.okR n0 rn m)
def SV.ren (n0 : Nat) (rn : List (Nat × Option Nat)) : SV → SV
  | .one c => .one (c.ren n0 rn)
  | .agg cs => .agg (cs.map (CV.ren n0 rn))
def RV.okR (n0 : Nat) (rn : List (Nat × Option Nat)) (m : Nat) : RV → Bool
  | .sv s => s.okR n0 rn m
  | .tup l => l.all (SV.okR n0 rn m)
  | .dead => true
def RV.ren (n0 : Nat) (rn : List (Nat × Option Nat)) : RV → RV
  | .sv s => .sv (s.ren n0 rn)
  | .tup l => .tup (l.map (SV.ren n0 rn))
  | .dead => .dead
def HO.okR (n0 : Nat) (rn : List (Nat × Option Nat)) (m : Nat) : HO → Bool
  | .cells cs _ => cs.all (CV.okR n0 rn m)
  | .elem id _ _ => okId n0 rn m id
  | _ => true
def HO.ren (n0 : Nat) (rn : List (Nat × Option Nat)) : HO → HO
  | .cells cs t => .cells (cs.map (CV.ren n0 rn)) t
  | .elem id i w => .elem (ren1 n0 rn id) i w
  | o => o
/-- What lies under the old name, as the new one sees it: a row of one's own may be read alone from now on. -/
def seen (old : Bool) : HO → HO → HO
  | .grid _ _, .row sh t l => bif old then .row sh t l else .grid sh l
  | .gone, _ => .gone
  | _, o => o.unk
def nilled : HO → HO
  | .row sh t _ => .row sh t []
  | .grid sh _ => .grid sh []
  | o => .gone
def landFr (n0 : Nat) (rn : List (Nat × Option Nat)) : List RV → List RV → List RV × List RV
  | .dead :: l, _ :: l' => landFr n0 rn l l'
  | r :: l, r' :: l' => (fun p : List RV × List RV => (r.ren n0 rn :: p.1, r'.unk :: p.2)) (landFr n0 rn l l')
  | _, _ => ([], [])
def landHp (n0 : Nat) (rn : List (Nat × Option Nat)) (hp : Hp) : Hp → Option (List HO × List HO)
  | [] => some ([], [])
  | (id, o) :: l => (match landHp n0 rn hp l with
    | some p => (match renId n0 rn id with
      | some (some i) => (match hlook hp i with
        | some o' => some (o.ren n0 rn :: p.1, seen (Nat.blt id n0) o o' :: p.2)
        | none => none)
      | some none => some (o :: p.1, nilled o :: p.2)
      | none => none)
    | none => none)
def srcs (n0 : Nat) (rn : List (Nat × Option Nat)) : Hp → List Nat
  | [] => []
  | (id, _) :: l => (match renId n0 rn id with | some (some i) => i :: srcs n0 rn l | _ => srcs n0 rn l)
def distinct : List Nat → Bool
  | [] => true
  | i :: l => !l.any (Nat.beq i) && distinct l
/-- A slice that is read alone, under one name more. -/
def lentB (n0 : Nat) (rn : List (Nat × Option Nat)) (hp : Hp) (p : Nat × HO) : Bool := match p.2 with
  | .grid _ _ => (match renId n0 rn p.1 with
    | some (some i) => (match hlook hp i with
      | some (.grid _ _) => true
      | _ => false)
    | _ => false)
  | _ => false
def HO.isGone : HO → Bool
  | .gone => true
  | _ => false
def handB (n0 : Nat) (rn : List (Nat × Option Nat)) (W : List Nat) (id : Nat) : Bool := match renId n0 rn id with
  | some (some i) => W.any (Nat.beq i)
  | _ => false
def landB (n0 : Nat) (rn : List (Nat × Option Nat)) (S s : St) : Bool :=
  Nat.beq S.fr.length s.fr.length && S.fr.all (RV.okR n0 rn S.nx) && S.hp.all (fun p => Nat.blt p.1 S.nx && p.2.okR n0 rn S.nx && (Nat.blt p.1 n0 || Nat.ble n0 (ren1 n0 rn p.1) || (match renId n0 rn p.1 with | some none => true | _ => false) || lentB n0 rn s.hp p || handB n0 rn S.W p.1)) &&
  distinct (srcs n0 rn (S.hp.filter fun p => !lentB n0 rn s.hp p && !p.2.isGone)) && distinct (S.hp.map (·.1)) && s.W.all (fun id => Nat.ble n0 id || S.W.any (Nat.beq id)) && Nat.ble n0 S.nx
/-! ### Two ways that meet again -/
/-- Both ways of a test: what must be equal, what is asked, where they meet. -/
structure JRes where
  l : List Item
  r : List Item
  obs : Option Bool
  s : St
abbrev JoinF := Operand → Bool → Code → Code → St → Option JRes
def eqL {R : Type} (A : Alg R) : List Item → List Item → R → R
  | [], [], K => K
  | x :: l, y :: r, K => A.eqI x y (eqL A l r K)
  | _, _, _ => A.fail
def obO {R : Type} (A : Alg R) (nx : Nat) : Option Bool → R → R
  | none, K => K
  | some b, K => A.ob nx b K
section
variable {R : Type} (A : Alg R) (P : Program) (facts : Nat → Option (Bool × Bool))
def settle (nx : Nat) (b : Bool) (K : R) : R :=
  match facts nx with
  | some (b', true) => A.eqI (.v (.bool b)) (.v (.bool b')) K
  | _ => A.ob nx b K
/-- Operations that ask for something. -/
def asks (o : Oper) (get : Operand → RV) (hp : Hp) (nx : Nat) : Option (Bool × Out) :=
  match o.op with
  | .indexAddr t x i => opIndexE P get hp nx t x i
  | .slice t x lo hi mx => opSliceE P get hp nx t x lo hi mx
  | .makeSlice t x y => opMake P get nx t x y
  | .convert s d x => opConv P get hp nx s d x
  | .binOp .add _ _ _ _ => opStr P o get nx
  | .binOp .quo _ _ _ _ => opDiv o get nx
  | .binOp .rem _ _ _ _ => opDiv o get nx
  | .binOp .shl _ _ _ _ => opShift o get nx
  | .binOp .shr _ _ _ _ => opShift o get nx
  | .binOp .eql t x y _ => opNilS P get hp nx .eql t x y
  | .binOp .neq t x y _ => opNilS P get hp nx .neq t x y
  | .index _ _ _ => opStr P o get nx
  | .call c => (match c.callee, c.args.toList, c.argTypes.toList with
    | .builtin .append, [x, y], [t, t'] => bif Nat.beq t t' then opAppend P get hp nx t x y else none
    | _, _, _ => none)
  | _ => none
def more (o : Oper) (get : Operand → RV) (hp : Hp) (nx : Nat) : Option Out :=
  match o.op with
  | .load t x => opLoadE P get hp nx t x
  | .store t x y => opStoreE P get hp nx t x y
  | .binOp op t x y _ => opNil P get nx op t x y
  | .slice t x lo hi mx => opSliceL P get nx t x lo hi mx
  | .call c => (match c.callee, c.args.toList, c.argTypes.toList with
    | .builtin .copy, [x, y], [t, _] => (match opCopyN P get nx t x y with
      | some out => some out
      | none => opCopy P get hp nx t x y)
    | _, _, _ => none)
  | _ => none
def evSimple (o : Oper) (get : Operand → RV) (hp : Hp) (nx : Nat) (K : Out → R) : R :=
  match asks P o get hp nx with
  | some (b, out) => settle A facts nx b (K out)
  | none => (match more P o get hp nx with
    | some out => K out
    | none => (match simple P o get hp nx with
      | some out => bif out.up.all (fun p => p.2.ids.all (fun i => Nat.blt i nx)) then K out else A.fail
      | none => A.fail))
/-- A test that is met. -/
def meet (nx : Nat) (b : Bool) (K : Bool → R) : R :=
  match facts nx with
  | some (b', d) => A.eqI (.v (.bool b)) (.v (.bool b')) (K d)
  | none => A.br nx b (K true) (K false)
/-- One of some ways, by an open number; the last one is asked. -/
def pickAlt (nx : Nat) (K : Out → R) : List (Bool × Out) → R
  | [] => A.fail
  | [p] => settle A facts nx p.1 (K p.2)
  | p :: q :: r => meet A facts nx p.1 fun d => bif d then K p.2 else pickAlt nx K (q :: r)
/-- An equality that is to hold. -/
def evEq (o : Oper) (get : Operand → RV) (hp : Hp) (nx : Nat) (t : TypeId) (x y : Operand) (K : Out → R) : R :=
  match get x, get y with
  | .sv (.one (.val false (.bool b))), .sv (.one (.val true (.bool d'))) => meet A facts nx b fun d => (match P.underlying t with
      | some .bool => K (boolOut true (nx + 1) (d == d'))
      | _ => A.fail)
  | .sv (.one (.val true (.bool d'))), .sv (.one (.val false (.bool b))) => meet A facts nx b fun d => (match P.underlying t with
      | some .bool => K (boolOut true (nx + 1) (d' == d))
      | _ => A.fail)
  | .sv s, .sv s' => bif s.ids.isEmpty && s'.ids.isEmpty && !P.eqGuardType P.depth t then
      (match eqSym P 64 t (s.den env0) (s.den env0) with
      | some _ => A.eqI (.v (s.den env0)) (.v (s'.den env0)) (K (boolOut true nx true))
      | none => A.fail) else A.fail
  | _, _ => A.fail
def evOp (call : CallF R) (am : Mode) (o : Oper) (get : Operand → RV) (hp : Hp) (nx : Nat) (K : Out → R) : R :=
  match o.op with
  | .call c => (match calleeOf get c with
    | some (g, fs, caps) => bif goesIn P g then call g (fs ++ c.args.toList.map get ++ caps.map ptrRV) hp nx K else A.fail
    | none => evSimple A P facts o get hp nx K)
  | .binOp .eql t x y _ => bif am.am then evEq A P facts o get hp nx t x y K else evSimple A P facts o get hp nx K
  | .buildSlice t n ps => bif am.rows then (match opBuildRow P get nx t n ps with
    | some out => K out
    | none => evSimple A P facts o get hp nx K) else evSimple A P facts o get hp nx K
  | _ => bif am.rows then (match idxOpen P o get nx with
    | some l => pickAlt A facts nx K l
    | none => evSimple A P facts o get hp nx K) else evSimple A P facts o get hp nx K
def knownB (d : Bool) : RV := .sv (.one (.val true (.bool d)))
def decideRV (isG : Bool) (nx : Nat) (v : RV) (K : RV → Nat → R) : R :=
  match isG, v with
  | true, .sv (.one (.val false (.bool b))) => meet A facts nx b fun d => K (knownB d) (nx + 1)
  | _, _ => K v nx
def isGuard (ops : List Oper) (i : Nat) : Bool := ops.any fun o => match o.guard with | some (g, _) => Nat.beq g i | none => false
def boundOk (d : Option Nat) (n : Nat) : Bool := match d with | some d => Nat.blt d n | none => true
def liveOps (fr : List RV) (o : Oper) : Bool := o.op.operands.toList.all fun x => !(opnd fr x).isDead
/-- What memory an operation may look at: what its operands lead to; nothing, where it only makes an address. -/
def looksAt (o : Oper) (fr : List RV) (hp : Hp) : List Nat :=
  match o.op with
  | .move _ => []
  | .assign _ => []
  | .nilCheck _ => []
  | .fieldAddr _ _ _ => []
  | _ => reach hp 400 (o.op.operands.toList.flatMap fun x => (opnd fr x).ids) []
def evOps (call : CallF R) (am : Mode) (ops : Array Oper) : List Oper → List RV → Hp → Nat → List Tr → (List RV → Hp → Nat → List Tr → R) → R
  | [], fr, hp, nx, trs, K => K fr hp nx trs
  | o :: rest, fr, hp, nx, trs, K =>
    let run : R := bif liveOps fr o then fL fN (looksAt o fr hp) fun Rs => evOp A P facts call am o (opnd fr) (restrict hp Rs) nx fun out =>
      fRV out.v fun ov => fL fE out.up fun oup => fN out.nx fun onx => fL fN out.W fun oW =>
      bif okOut (restrict hp Rs) nx ov oup onx oW && boundOk o.dst fr.length then
        decideRV A facts (isGuard ops.toList trs.length) onx ov fun v nx' => fL fId (putL fr o.dst v) fun fr' =>
          evOps call am ops rest fr' (oup ++ hp) nx' (⟨o.dst, v, oup, oW, Rs, nx, nx', looksOf ops o⟩ :: trs) K
      else A.fail else A.fail
    match o.guard with
    | none => run
    | some (g, want) => match (ops[g]?).bind (·.dst) with
      | some s => (match fr.getD s RV.und with
        | .sv (.one (.val _ (.bool b))) => bif b == want then run else
          (bif boundOk o.dst fr.length then evOps call am ops rest (putL fr o.dst RV.und) hp nx (⟨o.dst, RV.und, [], [], [], nx, nx, looksOf ops o⟩ :: trs) K else A.fail)
        | .sv (.one (.val true (.tuple ⟨[]⟩))) =>
          (bif boundOk o.dst fr.length then evOps call am ops rest (putL fr o.dst RV.und) hp nx (⟨o.dst, RV.und, [], [], [], nx, nx, looksOf ops o⟩ :: trs) K else A.fail)
        | _ => A.fail)
      | none => A.fail
def decSt (st : St) (c : Operand) (d : Bool) : St := match c with
  | .tmp s => { st with fr := st.fr.set s (knownB d), nx := st.nx + 1 }
  | _ => { st with nx := st.nx + 1 }
def evLoop (body : St → (Ex → St → R) → R) : Nat → St → (Ex → St → R) → R
  | 0, _, _ => A.fail
  | n + 1, st, K => body st fun ex s => match ex with
    | .normal => evLoop body n s K
    | .exit i => K (.exit i) s
    | .ret => K .ret s
/-- To the place S, under other names. -/
def evLand (n0 : Nat) (rn : List (Nat × Option Nat)) (S s : St) (K : R) : R :=
  bif landB n0 rn S s then (match landHp n0 rn s.hp S.hp with
    | some p => A.eqI (.st (landFr n0 rn S.fr s.fr).1 p.1) (.st (landFr n0 rn S.fr s.fr).2 p.2) K
    | none => A.fail) else A.fail
def namesB (s : St) : Bool := s.fr.all (fun r => r.ids.all fun i => Nat.blt i s.nx) && s.hp.all (fun p => Nat.blt p.1 s.nx && p.2.ids.all fun i => Nat.blt i s.nx)
def evLR (m : Nat) : LR → Nat → (Ex → St → R) → R
  | .one ex s, _, K => bif namesB s && Nat.ble m s.nx then K ex s else A.fail
  | .br b x y, n, K => meet A facts n b fun d => bif d then evLR m x (n + 1) K else evLR m y (n + 1) K
def evCode (call : CallF R) (hook : Nat → Nat → Option (LoopCon P)) (jn : JoinF) (n0 : Nat) (am : Mode) : Code → St → (Ex → St → R) → R
  | .skip, st, K => K .normal st
  | .label _, st, K => K .normal st
  | .exit id, st, K => K (.exit id) st
  | .ret, st, K => K .ret st
  | .region _ ops draw, st, K => evOps A P facts call am ops ops.toList st.fr st.hp st.nx [] fun fr hp nx trs =>
      bif !draw || (P.follows .mixedOrders && edgesBack ops.toList 0 && chkAll trs (masks ops.toList [])) then K .normal ⟨fr, hp, nx, wsT st.W trs⟩ else A.fail
  | .seq x y, st, K => evCode call hook jn n0 am x st fun ex s => match ex with
    | .normal => evCode call hook jn n0 am y s K
    | .exit i => K (.exit i) s
    | .ret => K .ret s
  | .cond c x y, st, K => match opnd st.fr c with
    | .sv (.one (.val k (.bool b))) => bif k then (bif b then evCode call hook jn n0 am x st K else evCode call hook jn n0 am y st K) else
        (match facts st.nx with
        | some _ => meet A facts st.nx b fun d => bif d then evCode call hook jn n0 am x (decSt st c true) K else evCode call hook jn n0 am y (decSt st c false) K
        | none => (match jn c b x y st with
          | some j => eqL A j.l j.r (obO A st.nx j.obs (fL fRV j.s.fr fun fr => fL fE j.s.hp fun hp => fN j.s.nx fun nx => fL fN j.s.W fun W => K .normal ⟨fr, hp, nx, W⟩))
          | none => meet A facts st.nx b fun d => bif d then evCode call hook jn n0 am x (decSt st c true) K else evCode call hook jn n0 am y (decSt st c false) K))
    | _ => A.fail
  | .block id c, st, K => (match hook id st.nx with
    | some lc => bif Nat.beq lc.n0 n0 && Nat.ble st.nx lc.S.nx && st.W.all (fun i => Nat.ble n0 i || lc.S.W.any (Nat.beq i)) then
        A.eqI (.code lc.c) (.code (.block id c)) (evLand A n0 lc.rn lc.S st (match lc.pre with
          | some b => settle A facts st.nx b (evLR A facts lc.S.nx lc.r (st.nx + 1) K)
          | none => evLR A facts lc.S.nx lc.r (st.nx + 1) K)) else A.fail
    | none =>
      evCode call hook jn n0 am c st fun ex s => match ex with
        | .normal => K .normal s
        | .exit i => bif Nat.beq i id then K .normal s else K (.exit i) s
        | .ret => K .ret s)
  | .loop c, st, K => evLoop A (evCode call hook jn n0 am c) 300 st K
  | .scope c, st, K => evCode call hook jn n0 am c st K
  | _, _, _ => A.fail
end
/-- Where a way leads, as it is joined with another. -/
structure JR where
  l : List Item
  r : List Item
  obs : Option Bool
  o : Option (Ex × St)
def algJ : Alg JR where
  fail := ⟨[], [], none, none⟩
  ob _ b r := match r with
    | ⟨l, k, some b', o⟩ => ⟨l, k, some (b && b'), o⟩
    | ⟨l, k, none, o⟩ => ⟨l, k, some b, o⟩
  eqI x y r := match r with
    | ⟨l, k, q, o⟩ => ⟨x :: l, y :: k, q, o⟩
  br _ _ _ _ := ⟨[], [], none, none⟩
def dmOps (l : List Oper) (m : Nat) : Nat := l.foldl (fun m o => match o.dst with | some d => Nat.lor m (Nat.shiftLeft 1 d) | none => m) m
/-- The slots that a piece of code writes (a bit each). -/
def dm : Code → Nat → Nat
  | .region _ ops _, m => dmOps ops.toList m
  | .seq x y, m => dm y (dm x m)
  | .cond c x y, m => dm y (dm x (match c with | .tmp s => Nat.lor m (Nat.shiftLeft 1 s) | _ => m))
  | .block _ c, m => dm c m
  | .loop c, m => dm c m
  | .scope c, m => dm c m
  | _, m => m
def mBit (m i : Nat) : Bool := Nat.beq (Nat.land (Nat.shiftRight m i) 1) 1
def joinCV (b : Bool) : CV → CV → Option CV
  | .val k (.int kd n), .val k' (.int kd' n') => if kd = kd' then some (bif k && k' then (bif decide (n = n') then .val true (.int kd n) else .val false (.int kd (bif b then n else n'))) else .val false (.int kd (bif b then n else n'))) else none
  | .val k (.bool x), .val k' (.bool x') => some (bif k && k' then (bif x == x' then .val true (.bool x) else .val false (.bool (bif b then x else x'))) else .val false (.bool (bif b then x else x')))
  | .val _ (.string x), .val _ (.string x') => some (.val false (.string (bif b then x else x')))
  | .val k (.slice none 0 0), .val _ (.slice none 0 0) => some (.val k (.slice none 0 0))
  | .val k (.pointer none), .val _ (.pointer none) => some (.val k (.pointer none))
  | .ptr i o, .ptr i' o' => bif Nat.beq i i' && Nat.beq o o' then some (.ptr i o) else none
  | .eptr i o, .eptr i' o' => bif Nat.beq i i' && Nat.beq o o' then some (.eptr i o) else none
  | .sl i o l c, .sl i' o' l' c' => bif Nat.beq i i' && Nat.beq o o' && Nat.beq l l' && Nat.beq c c' then some (.sl i o l c) else none
  | .ext i, .ext i' => bif Nat.beq i i' then some (.ext i) else none
  | .fn f cs, .fn f' cs' => if f = f' ∧ cs = cs' then some (.fn f cs) else none
  | _, _ => none
def joinL (b : Bool) : List CV → List CV → Option (List CV)
  | [], [] => some []
  | c :: l, c' :: l' => (match joinCV b c c', joinL b l l' with
    | some c, some l => some (c :: l)
    | _, _ => none)
  | _, _ => none
def joinRV (b : Bool) : RV → RV → RV
  | .sv (.one c), .sv (.one c') => (match joinCV b c c' with | some c => .sv (.one c) | none => .dead)
  | .sv (.agg l), .sv (.agg l') => (match joinL b l l' with | some l => .sv (.agg l) | none => .dead)
  | _, _ => .dead
def joinFr (b : Bool) (m : Nat) : Nat → List RV → List RV → List RV → List RV
  | i, r :: l, r1 :: l1, r2 :: l2 => (bif mBit m i then joinRV b r1 r2 else r) :: joinFr b m (i + 1) l l1 l2
  | _, _, _, _ => []
/-- What was not written must be as it was. -/
def unch (m : Nat) : Nat → List RV → List RV
  | i, r :: l => (bif mBit m i then .dead else r) :: unch m (i + 1) l
  | _, [] => []
def joinCells (b : Bool) (ch : Nat → Bool) : Nat → List CV → List CV → List CV → Option (List CV)
  | _, [], [], [] => some []
  | j, c :: l, c1 :: l1, c2 :: l2 => (match (bif ch j then joinCV b c1 c2 else some c), joinCells b ch (j + 1) l l1 l2 with
    | some c, some l => some (c :: l)
    | _, _ => none)
  | _, _, _, _ => none
def maskC (ch : Nat → Bool) : Nat → List CV → List CV
  | j, c :: l => (bif ch j then .val true undef else c) :: maskC ch (j + 1) l
  | _, [] => []
def joinHO (b : Bool) (ch : Nat → Bool) : HO → HO → HO → Option (HO × List Item × List Item)
  | .cells cs t, .cells cs1 t1, .cells cs2 t2 => bif Nat.beq t t1 && Nat.beq t t2 then (match joinCells b ch 0 cs cs1 cs2 with
    | some l => some (.cells l t, [.st [] [.cells (maskC ch 0 cs1) t], .st [] [.cells (maskC ch 0 cs2) t]], [.st [] [.cells (maskC ch 0 cs) t], .st [] [.cells (maskC ch 0 cs) t]])
    | none => none) else none
  | .row sh t _, .row sh1 t1 l1, .row sh2 t2 l2 => bif shEqL sh1 sh && shEqL sh2 sh && Nat.beq t1 t && Nat.beq t2 t then some (.row sh t (bif b then l1 else l2), [], []) else none
  | _, .gone, .gone => some (.gone, [], [])
  | _, _, _ => none
def logged (id j : Nat) : Hp → Bool
  | [] => false
  | (i, .elem _ off n) :: r => (Nat.beq i id && Nat.ble off j && Nat.blt j (off + n)) || logged id j r
  | _ :: r => logged id j r
def countV (id : Nat) : Hp → Nat × Nat
  | [] => (0, 0)
  | (i, .elem _ _ _) :: r => (fun p : Nat × Nat => bif Nat.beq i id then (p.1, p.2 + 1) else p) (countV id r)
  | (i, _) :: r => (fun p : Nat × Nat => bif Nat.beq i id then (p.1 + 1, p.2) else p) (countV id r)
def chOf (id : Nat) (pre : Hp) (j : Nat) : Bool := bif Nat.ble (countV id pre).1 (countV id pre).2 then logged id j pre else true
def joinHp (b : Bool) (hp hp1 hp2 pre : Hp) : List Nat → Option (Hp × List Item × List Item)
  | [] => some ([], [], [])
  | id :: r => (match hlook hp id, hlook hp1 id, hlook hp2 id with
    | some o0, some o1, some o2 => (match joinHO b (chOf id pre) o0 o1 o2, joinHp b hp hp1 hp2 pre r with
      | some (o, l, l'), some (J, k, k') => some ((id, o) :: J, l ++ k, l' ++ k')
      | _, _ => none)
    | _, _, _ => none)
/-- The old names of a list. -/
def addIds (n : Nat) : Hp → List Nat → List Nat
  | [], acc => acc
  | p :: r, acc => bif !Nat.blt p.1 n || acc.any (Nat.beq p.1) then addIds n r acc else addIds n r (p.1 :: acc)
def joinOb (b : Bool) : Option Bool → Option Bool → Option Bool
  | none, none => none
  | some k1, none => some (bif b then k1 else true)
  | none, some k2 => some (bif b then true else k2)
  | some k1, some k2 => some (bif b then k1 else k2)
def opBit : Operand → Nat
  | .tmp s => Nat.shiftLeft 1 s
  | _ => 0
def joinAll (c : Operand) (b : Bool) (x y : Code) (st : St) (R1 R2 : JR) (s1 s2 : St) : Option JRes :=
  fN (dm y (dm x (opBit c))) fun m => fL fE (s1.hp.take (s1.hp.length - st.hp.length) ++ s2.hp.take (s2.hp.length - st.hp.length)) fun pre =>
    bif Nat.beq s1.fr.length st.fr.length && Nat.beq s2.fr.length st.fr.length && Nat.beq R1.l.length R1.r.length && Nat.beq R2.l.length R2.r.length then
      fL fN (addIds st.nx pre []) fun ids => (match joinHp b st.hp s1.hp s2.hp pre ids with
        | some (J, jl, jr) => some ⟨.st (unch m 0 s1.fr) [] :: .st (unch m 0 s2.fr) [] :: .hp (s1.hp.drop (s1.hp.length - st.hp.length)) :: .hp (s2.hp.drop (s2.hp.length - st.hp.length)) :: (R1.l ++ (R2.l ++ jl)),
            .st (unch m 0 st.fr) [] :: .st (unch m 0 st.fr) [] :: .hp st.hp :: .hp st.hp :: (R1.r ++ (R2.r ++ jr)), joinOb b R1.obs R2.obs,
            ⟨joinFr b m 0 st.fr s1.fr s2.fr, J ++ st.hp, Nat.max s1.nx s2.nx, s1.W ++ s2.W⟩⟩
        | none => none) else none
def jnN (P : Program) (facts : Nat → Option (Bool × Bool)) (call : CallF JR) (hook : Nat → Nat → Option (LoopCon P)) (n0 : Nat) (am : Mode) : Nat → JoinF
  | 0 => fun _ _ _ _ _ => none
  | d + 1 => fun c b x y st => fSt st fun st => fSt (decSt st c true) fun sx => fSt (decSt st c false) fun sy =>
    match evCode algJ P facts call hook (jnN P facts call hook n0 am d) n0 am x sx (fun ex s => ⟨[], [], none, some (ex, s)⟩), evCode algJ P facts call hook (jnN P facts call hook n0 am d) n0 am y sy (fun ex s => ⟨[], [], none, some (ex, s)⟩) with
    | ⟨l1, r1, k1, some (.normal, s1)⟩, ⟨l2, r2, k2, some (.normal, s2)⟩ => fSt s1 fun s1 => fSt s2 fun s2 => joinAll c b x y st ⟨l1, r1, k1, none⟩ ⟨l2, r2, k2, none⟩ s1 s2
    | _, _ => none
def resOne (P : Program) (fr : List RV) (hp : Hp) : ResultVar → Option SV
  | .tmp t => (match fr.getD t RV.und with
    | .sv s => some s
    | _ => none)
  | .cell a t => (match fr.getD a RV.und with
    | .sv (.one (.ptr id off)) => (match hlook hp id with
      | some (.cells cs _) => ldCells P t cs off
      | _ => none)
    | _ => none)
def resAll (P : Program) (fr : List RV) (hp : Hp) : List ResultVar → Option (List SV)
  | [] => some []
  | r :: l => match resOne P fr hp r, resAll P fr hp l with
    | some s, some l => some (s :: l)
    | _, _ => none
def oneOrTup : List SV → RV
  | [s] => .sv s
  | l => .tup l
def evRes {R : Type} (A : Alg R) (P : Program) (fn : Func) (s : St) (nx : Nat) (K : Out → R) : R :=
  match resAll P s.fr s.hp fn.results.toList with
  | some l => (fun (rv : RV) (W : List Nat) => K ⟨rv, restrict s.hp ((reach s.hp 400 (rv.ids ++ W) []).filter fun i => Nat.ble nx i || W.any (Nat.beq i)), s.nx, W⟩) (oneOrTup l) (s.W.filter fun i => Nat.blt i nx)
  | none => A.fail
def findCon {P : Program} : List (Con P) → FuncId → Option (Con P)
  | [], _ => none
  | c :: r, f => bif Nat.beq c.f f then some c else findCon r f
def fOut {R : Type} (out : Out) (K : Out → R) : R := fRV out.v fun v => fL fE out.up fun up => fN out.nx fun nx => K ⟨v, up, nx, out.W⟩
theorem fOut_eq {R : Type} (out : Out) (K : Out → R) : fOut out K = K out := by
  simp only [fOut, fRV_eq, fL_eq fE fE_eq, fN_eq]
def startSt (fn : Func) (args : List RV) (hp : Hp) (nx : Nat) : St := ⟨args ++ List.replicate (fn.ntmps - args.length) RV.und, hp, nx, []⟩
def evBody {R : Type} (A : Alg R) {P : Program} (C : Cfg P) (call : CallF R) (callJ : CallF JR) (f : FuncId) (args : List RV) (hp : Hp) (nx : Nat) (K : Out → R) : R :=
  match P.funcs[f]? with
  | some fn => (match fn.body with
    | some c => evCode A P C.facts call (C.hooks f) (jnN P C.facts callJ (C.hooks f) nx (C.am f) (C.join f)) nx (C.am f) c (startSt fn args hp nx) fun ex s => match ex with
      | .normal => evRes A P fn s nx K
      | .ret => evRes A P fn s nx K
      | .exit _ => A.fail
    | none => A.fail)
  | none => A.fail
def evCallJ {P : Program} (C : Cfg P) : Nat → CallF JR
  | 0 => fun _ _ _ _ _ => algJ.fail
  | n + 1 => fun f args hp nx K =>
    match findCon C.cons f with
    | some c => (match c.g args hp nx with
      | some (none, out) => fOut out K
      | some (some b, out) => settle algJ C.facts nx b (fOut out K)
      | none => evBody algJ C (evCallJ C n) (evCallJ C n) f args hp nx K)
    | none => evBody algJ C (evCallJ C n) (evCallJ C n) f args hp nx K
def evCall {R : Type} (A : Alg R) {P : Program} (C : Cfg P) : Nat → CallF R
  | 0 => fun _ _ _ _ _ => A.fail
  | n + 1 => fun f args hp nx K =>
    match findCon C.cons f with
    | some c => (match c.g args hp nx with
      | some (none, out) => fOut out K
      | some (some b, out) => settle A C.facts nx b (fOut out K)
      | none => evBody A C (evCall A C n) (evCallJ C n) f args hp nx K)
    | none => evBody A C (evCall A C n) (evCallJ C n) f args hp nx K
def algP : Alg Prop where
  fail := False
  ob _ b r := b = true ∧ r
  eqI x y r := x = y ∧ r
  br _ b r r' := (b = true → r) ∧ (b = false → r')
/-- Two rows, side by side. -/
abbrev Two := List Item × List Item
def algT : Alg Two where
  fail := ([], [.no])
  ob n b r := (.ob n b :: r.1, .ob n true :: r.2)
  eqI x y r := (x :: r.1, y :: r.2)
  br n b _ _ := ([.br n b], [.no])
end Go.Proofs.Ythgneojhhocflaa
