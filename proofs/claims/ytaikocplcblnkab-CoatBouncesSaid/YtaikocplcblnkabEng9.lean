/- A symbolic way through the code of a call: the way itself, and that it is the code's. No condition. -/
import Derived.Test.YtaikocplcblnkabEng8
set_option linter.unusedVariables false
namespace Go.Proofs.Ytaikocplcblnkab
open Go.RowKit

/-! ### Answers written out at once (the kernel goes on with what it sees) -/
section
variable {R : Type}
def fB (b : Bool) (k : Bool → R) : R := match b with | true => k true | false => k false
def fN (n : Nat) (k : Nat → R) : R := match n with | 0 => k 0 | n + 1 => k (n + 1)
def fI (n : Int) (k : Int → R) : R := match n with | .ofNat m => fN m fun m => k (.ofNat m) | .negSucc m => fN m fun m => k (.negSucc m)
def fV (kn : Bool) (v : Value) (k : Value → R) : R :=
  match v with
  | .int kd n => bif kn then fI n fun n => k (.int kd n) else k (.int kd n)
  | .bool b => bif kn then fB b fun b => k (.bool b) else k (.bool b)
  | v => k v
def fCV (c : CV) (k : CV → R) : R :=
  match c with
  | .val kn v => fB kn fun kn => fV kn v fun v => k (.val kn v)
  | .ptr id off => fN id fun id => fN off fun off => k (.ptr id off)
  | .rptr id off => fN id fun id => fN off fun off => k (.rptr id off)
  | .sl id off len cap => fN id fun id => fN off fun off => fN len fun len => fN cap fun cap => k (.sl id off len cap)
  | .ext id => fN id fun id => k (.ext id)
  | .fn f caps => k (.fn f caps)
def fL {α : Type} (f : α → (α → R) → R) : List α → (List α → R) → R
  | [], k => k []
  | a :: l, k => f a fun a => fL f l fun l => k (a :: l)
def fSV (s : SV) (k : SV → R) : R := match s with | .one c => fCV c fun c => k (.one c) | .agg cs => fL fCV cs fun cs => k (.agg cs)
def fRV (r : RV) (k : RV → R) : R := match r with | .sv s => fSV s fun s => k (.sv s) | .tup l => fL fSV l fun l => k (.tup l)
def fHO (o : HO) (k : HO → R) : R := match o with | .cells cs t => fL fCV cs fun cs => k (.cells cs t) | .ro cs => fL fCV cs fun cs => k (.ro cs) | .grid ks n z => k (.grid ks n z)
def fE (p : Nat × HO) (k : Nat × HO → R) : R := match p with | (i, o) => fN i fun i => fHO o fun o => k (i, o)
def fId {α : Type} (a : α) (k : α → R) : R := k a
theorem fB_eq (b : Bool) (k : Bool → R) : fB b k = k b := by cases b <;> rfl
theorem fN_eq (n : Nat) (k : Nat → R) : fN n k = k n := by cases n <;> rfl
theorem fI_eq (n : Int) (k : Int → R) : fI n k = k n := by cases n <;> simp [fI, fN_eq]
theorem fV_eq (kn : Bool) (v : Value) (k : Value → R) : fV kn v k = k v := by
  cases v <;> first | rfl | (cases kn <;> simp [fV, fI_eq, fB_eq])
theorem fCV_eq (c : CV) (k : CV → R) : fCV c k = k c := by
  cases c <;> simp [fCV, fN_eq, fB_eq, fV_eq]
theorem fL_eq {α : Type} (f : α → (α → R) → R) (hf : ∀ a k, f a k = k a) : ∀ (l : List α) (k : List α → R), fL f l k = k l := by
  intro l
  induction l with
  | nil => intro k; rfl
  | cons a l ih => intro k; simp [fL, hf, ih]
theorem fSV_eq (s : SV) (k : SV → R) : fSV s k = k s := by
  cases s <;> simp [fSV, fCV_eq, fL_eq fCV fCV_eq]
theorem fRV_eq (r : RV) (k : RV → R) : fRV r k = k r := by
  cases r <;> simp [fRV, fSV_eq, fL_eq fSV fSV_eq]
theorem fHO_eq (o : HO) (k : HO → R) : fHO o k = k o := by
  cases o <;> simp [fHO, fL_eq fCV fCV_eq]
theorem fE_eq (p : Nat × HO) (k : Nat × HO → R) : fE p k = k p := by
  obtain ⟨i, o⟩ := p
  simp [fE, fN_eq, fHO_eq]
end
/-- What a way may answer: a proposition, or two rows of values that are to be equal. -/
structure Alg (R : Type) where
  fail : R
  ob : Nat → Prop → R → R
  eq : Value → Value → R → R
  br : Nat → Bool → R → R → R
  hook : Program → Code → St → (Ex → St → R) → R
abbrev CallF (R : Type) := FuncId → List RV → Hp → Nat → (Out → R) → R
/-- What is known of a function without a look at its text. -/
structure Con (P : Program) where
  f : FuncId
  g : List RV → Hp → Nat → Option Out
  ok : ∀ args hp nx out, Names args hp nx → g args hp nx = some out → CallOk P f args hp nx out
/-- What is known ahead: functions' contracts; blocks that are shown beside; functions whose equalities are to hold; tests that are settled, each by the next free name where it is met. -/
structure Cfg (P : Program) where
  cons : List (Con P)
  hooks : FuncId → List Nat
  am : FuncId → Bool
  facts : Nat → Option (Bool × Bool)
def goesIn (P : Program) (g : FuncId) : Bool :=
  match P.funcs[g]? with
  | some fn => !(fn.name == "runtime.NumGoroutine") && !fn.body.isNone
  | none => false
def calleeOf (get : Operand → RV) (c : Call) : Option (FuncId × List (Nat × Nat)) :=
  match c.callee with
  | .value f => (match get f with
    | .sv (.one (.fn g caps)) => some (g, caps)
    | _ => none)
  | _ => none
def ptrRV (p : Nat × Nat) : RV := .sv (.one (.ptr p.1 p.2))
section
variable {R : Type} (A : Alg R) (P : Program) (facts : Nat → Option (Bool × Bool))
def evSimple (o : Oper) (get : Operand → RV) (hp : Hp) (nx : Nat) (K : Out → R) : R :=
  match simple P o get hp nx with
  | some out => bif out.up.all (fun p => p.2.ids.all (fun i => Nat.blt i nx)) then K out else A.fail
  | none => A.fail
def settle (nx : Nat) (p : Prop) [Decidable p] (K : R) : R :=
  match facts nx with
  | some (b, true) => A.eq (.bool (decide p)) (.bool b) K
  | _ => A.ob nx p K
def evExt (o : Oper) (get : Operand → RV) (hp : Hp) (nx : Nat) (t : TypeId) (x i : Operand) (K : Out → R) : R :=
  match get x with
  | .sv (.one (.ext id)) =>
    (match hlook hp id, intOfRV (get i), P.underlying t with
    | some (.grid ks n z), some j, some (.slice e) => (match sizeP P e with
      | some s => bif Nat.beq s ks.length then settle A facts nx (0 ≤ j ∧ j < n) (K ⟨.sv (.one (.rptr nx 0)), [(nx, .ro (rowCells (z j.toNat) ks 0))], nx + 1, []⟩) else A.fail
      | none => A.fail)
    | _, _, _ => A.fail)
  | _ => evSimple A P o get hp nx K
/-- A test that is met. -/
def meet (nx : Nat) (b : Bool) (K : Bool → R) : R :=
  match facts nx with
  | some (b', d) => A.eq (.bool b) (.bool b') (K d)
  | none => A.br nx b (K true) (K false)
/-- An equality that is to hold. -/
def evEq (o : Oper) (get : Operand → RV) (hp : Hp) (nx : Nat) (t : TypeId) (x y : Operand) (K : Out → R) : R :=
  match get x, get y with
  | .sv (.one (.val false (.bool b))), .sv (.one (.val true (.bool d'))) => meet A facts nx b fun d => (match P.underlying t with
      | some .bool => K (boolOut true (nx + 1) (d == d'))
      | _ => A.fail)
  | .sv (.one (.val true (.bool d'))), .sv (.one (.val false (.bool b))) => meet A facts nx b fun d => (match P.underlying t with
      | some .bool => K (boolOut true (nx + 1) (d' == d))
      | _ => A.fail)
  | .sv s, .sv s' => bif s.ids.isEmpty && s'.ids.isEmpty && !P.eqGuardType P.depth t then
      (match eqSym P 64 t (s.den env0) (s.den env0) with
      | some _ => A.eq (s.den env0) (s'.den env0) (K (boolOut true nx true))
      | none => A.fail) else A.fail
  | _, _ => A.fail
def evOp (call : CallF R) (am : Bool) (o : Oper) (get : Operand → RV) (hp : Hp) (nx : Nat) (K : Out → R) : R :=
  match o.op with
  | .call c => (match calleeOf get c with
    | some (g, caps) => bif goesIn P g then call g (c.args.toList.map get ++ caps.map ptrRV) hp nx K else A.fail
    | none => evSimple A P o get hp nx K)
  | .indexAddr t x i => evExt A P facts o get hp nx t x i K
  | .binOp .eql t x y _ => bif am then evEq A P facts o get hp nx t x y K else evSimple A P o get hp nx K
  | _ => evSimple A P o get hp nx K
def knownB (d : Bool) : RV := .sv (.one (.val true (.bool d)))
def decideRV (isG : Bool) (nx : Nat) (v : RV) (K : RV → Nat → R) : R :=
  match isG, v with
  | true, .sv (.one (.val false (.bool b))) => meet A facts nx b fun d => K (knownB d) (nx + 1)
  | _, _ => K v nx
def isGuard (ops : List Oper) (i : Nat) : Bool := ops.any fun o => match o.guard with | some (g, _) => Nat.beq g i | none => false
def boundOk (d : Option Nat) (n : Nat) : Bool := match d with | some d => Nat.blt d n | none => true
def evOps (call : CallF R) (am : Bool) (ops : Array Oper) : List Oper → List RV → Hp → Nat → List Tr → (List RV → Hp → Nat → List Tr → R) → R
  | [], fr, hp, nx, trs, K => K fr hp nx trs
  | o :: rest, fr, hp, nx, trs, K =>
    let run : R := fL fN (reach hp 400 (o.op.operands.toList.flatMap fun x => (opnd fr x).ids) []) fun Rs => evOp A P facts call am o (opnd fr) (restrict hp Rs) nx fun out =>
      fRV out.v fun ov => fL fE out.up fun oup => fN out.nx fun onx => fL fN out.W fun oW =>
      bif okOut (restrict hp Rs) nx ov oup onx oW && boundOk o.dst fr.length then
        decideRV A facts (isGuard ops.toList trs.length) onx ov fun v nx' => fL fId (putL fr o.dst v) fun fr' =>
          evOps call am ops rest fr' (oup ++ hp) nx' (⟨o.dst, v, oup, oW, Rs, nx, nx', looksOf ops o⟩ :: trs) K
      else A.fail
    match o.guard with
    | none => run
    | some (g, want) => match (ops[g]?).bind (·.dst) with
      | some s => (match fr.getD s RV.und with
        | .sv (.one (.val _ (.bool b))) => bif b == want then run else
          (bif boundOk o.dst fr.length then evOps call am ops rest (putL fr o.dst RV.und) hp nx (⟨o.dst, RV.und, [], [], [], nx, nx, looksOf ops o⟩ :: trs) K else A.fail)
        | .sv (.one (.val true (.tuple ⟨[]⟩))) =>
          (bif boundOk o.dst fr.length then evOps call am ops rest (putL fr o.dst RV.und) hp nx (⟨o.dst, RV.und, [], [], [], nx, nx, looksOf ops o⟩ :: trs) K else A.fail)
        | _ => A.fail)
      | none => A.fail
def decSt (st : St) (c : Operand) (d : Bool) : St := match c with
  | .tmp s => { st with fr := st.fr.set s (knownB d), nx := st.nx + 1 }
  | _ => { st with nx := st.nx + 1 }
def evLoop (body : St → (Ex → St → R) → R) : Nat → St → (Ex → St → R) → R
  | 0, _, _ => A.fail
  | n + 1, st, K => body st fun ex s => match ex with
    | .normal => evLoop body n s K
    | .exit i => K (.exit i) s
    | .ret => K .ret s
def evCode (call : CallF R) (hook : List Nat) (am : Bool) : Code → St → (Ex → St → R) → R
  | .skip, st, K => K .normal st
  | .label _, st, K => K .normal st
  | .exit id, st, K => K (.exit id) st
  | .ret, st, K => K .ret st
  | .region _ ops draw, st, K => evOps A P facts call am ops ops.toList st.fr st.hp st.nx [] fun fr hp nx trs =>
      bif !draw || (P.follows .mixedOrders && edgesBack ops.toList 0 && chkAll trs (masks ops.toList [])) then K .normal ⟨fr, hp, nx, wsT st.W trs⟩ else A.fail
  | .seq x y, st, K => evCode call hook am x st fun ex s => match ex with
    | .normal => evCode call hook am y s K
    | .exit i => K (.exit i) s
    | .ret => K .ret s
  | .cond c x y, st, K => match opnd st.fr c with
    | .sv (.one (.val k (.bool b))) => bif k then (bif b then evCode call hook am x st K else evCode call hook am y st K) else
        meet A facts st.nx b fun d => bif d then evCode call hook am x (decSt st c true) K else evCode call hook am y (decSt st c false) K
    | _ => A.fail
  | .block id c, st, K => bif hook.any (Nat.beq id) then A.hook P (.block id c) st K else
      evCode call hook am c st fun ex s => match ex with
        | .normal => K .normal s
        | .exit i => bif Nat.beq i id then K .normal s else K (.exit i) s
        | .ret => K .ret s
  | .loop c, st, K => evLoop A (evCode call hook am c) 300 st K
  | .scope c, st, K => evCode call hook am c st K
  | _, _, _ => A.fail
end
def resOne (P : Program) (fr : List RV) (hp : Hp) : ResultVar → Option SV
  | .tmp t => (match fr.getD t RV.und with
    | .sv s => some s
    | _ => none)
  | .cell a t => (match fr.getD a RV.und with
    | .sv (.one (.ptr id off)) => (match hlook hp id with
      | some (.cells cs _) => ldCells P t cs off
      | _ => none)
    | _ => none)
def resAll (P : Program) (fr : List RV) (hp : Hp) : List ResultVar → Option (List SV)
  | [] => some []
  | r :: l => match resOne P fr hp r, resAll P fr hp l with
    | some s, some l => some (s :: l)
    | _, _ => none
def oneOrTup : List SV → RV
  | [s] => .sv s
  | l => .tup l
def evRes {R : Type} (A : Alg R) (P : Program) (fn : Func) (s : St) (nx : Nat) (K : Out → R) : R :=
  match resAll P s.fr s.hp fn.results.toList with
  | some l => (fun (rv : RV) (W : List Nat) => K ⟨rv, restrict s.hp ((reach s.hp 400 (rv.ids ++ W) []).filter fun i => Nat.ble nx i || W.any (Nat.beq i)), s.nx, W⟩) (oneOrTup l) (s.W.filter fun i => Nat.blt i nx)
  | none => A.fail
def findCon {P : Program} : List (Con P) → FuncId → Option (Con P)
  | [], _ => none
  | c :: r, f => bif Nat.beq c.f f then some c else findCon r f
def evCall {R : Type} (A : Alg R) {P : Program} (C : Cfg P) : Nat → CallF R
  | 0 => fun _ _ _ _ _ => A.fail
  | n + 1 => fun f args hp nx K =>
    match findCon C.cons f with
    | some c => (match c.g args hp nx with
      | some out => K out
      | none => A.fail)
    | none => match P.funcs[f]? with
      | some fn => (match fn.body with
        | some c => evCode A P C.facts (evCall A C n) (C.hooks f) (C.am f) c ⟨args ++ List.replicate (fn.ntmps - args.length) RV.und, hp, nx, []⟩ fun ex s => match ex with
          | .normal => evRes A P fn s nx K
          | .ret => evRes A P fn s nx K
          | .exit _ => A.fail
        | none => A.fail)
      | none => A.fail
def algP : Alg Prop where
  fail := False
  ob _ p r := p ∧ r
  eq x y r := x = y ∧ r
  br _ b r r' := (b = true → r) ∧ (b = false → r')
  hook P c st K := ∃ ex s, CodeOk P c st ex s ∧ K ex s
/-- Two rows of values, side by side. -/
abbrev Two := List Value × List Value
def algT : Alg Two where
  fail := ([], [undef])
  ob n _ _ := ([.int .i64 n, .bool true], [undef])
  eq x y r := (x :: r.1, y :: r.2)
  br n b _ _ := ([.int .i64 n, .bool b], [undef])
  hook _ _ _ _ := ([.bool false], [undef])
end Go.Proofs.Ytaikocplcblnkab
