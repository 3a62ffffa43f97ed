/- A symbolic way through the code of a call: bytes and texts. No condition. -/
import Derived.Test.YthgneojhhocflaaEngW
set_option linter.unusedVariables false
namespace Go.Proofs.Ythgneojhhocflaa
open Go.RowKit

/-- The text of some bytes, the bytes of a text. -/
def strOf (l : List (List Ct)) : ByteArray := (l.map fun r => (r.getD 0 (.i 0)).int).foldl (fun r n => r.push (UInt8.ofNat n.toNat)) ByteArray.empty
def bytesOf (s : ByteArray) : List (List Ct) := s.data.toList.map fun b => [.i b.toNat]
def opConv (P : Program) (get : Operand → RV) (hp : Hp) (nx : Nat) (src dst : TypeId) (x : Operand) : Option (Bool × Out) :=
  match P.underlying src, P.underlying dst with
  | some (.slice e), some .string => (match P.underlying e, srcOf hp [.int .u8] (get x) with
    | some (.int .u8), some (_, _, l) => some (true, ⟨.sv (.one (.val false (.string (strOf l)))), [], nx, []⟩)
    | _, _ => none)
  | some .string, some (.slice e) => (match P.underlying e, get x with
    | some (.int .u8), .sv (.one (.val _ (.string s))) => some (decide (s.size ≤ 9223372036854775807), ⟨.sv (.one (.ext nx)), [(nx, .grid [.int .u8] (bytesOf s))], nx + 1, []⟩)
    | _, _ => none)
  | some (.slice e), some (.slice _) => bif Nat.beq src dst then (match P.underlying e, get x with
    | some (.int .u8), .sv (.one (.ext id)) => (match hlook hp id with
      | some (.row sh _ l) => bif shEqL sh [.int .u8] && Nat.blt id nx then some (decide (0 < l.length), ⟨.sv (.one (.ext nx)), [(nx, .grid [.int .u8] l), (id, .gone)], nx + 1, [id]⟩) else none
      | _ => none)
    | _, _ => none) else none
  | _, _ => none
theorem freeze_heap_other (w : World) (g n k : Nat) (h : k ≠ g) : (w.freeze ⟨g, n, none⟩ 1).heap[k]? = w.heap[k]? := by
  unfold World.freeze
  rw [if_neg (by decide)]
  simp only [Array.getElem?_modify]
  rw [if_neg fun h' => h h'.symm]
theorem freeze_cell (w : World) (g n : Nat) (a : Addr) : (w.freeze ⟨g, n, none⟩ 1).cell? a = w.cell? a := by
  by_cases h : a.block = g
  · unfold World.freeze
    rw [if_neg (by decide)]
    unfold World.cell?
    simp only [Array.getElem?_modify, h, if_true]
    cases w.heap[g]? with
    | none => rfl
    | some o => cases o <;> rfl
  · exact cell_of_heap (freeze_heap_other w g n a.block h)
theorem freeze_size (w : World) (g n : Nat) : (w.freeze ⟨g, n, none⟩ 1).heap.size = w.heap.size := by
  unfold World.freeze
  rw [if_neg (by decide)]
  simp
/-- A slice of bytes of one's own, taken for a text's: read alone from here on. -/
theorem convSelf_ok {P : Program} {o : Oper} {get : Operand → RV} {hp : Hp} {nx id : Nat} {src dst e0 : TypeId} {x : Operand} {t : TypeId} {l : List (List Ct)} (ho : o.op = .convert src dst x) (hsd : src = dst) (hs : P.underlying src = some (.slice e0)) (he : P.underlying e0 = some (.int .u8))
    (hg : get x = .sv (.one (.ext id))) (hl : hlook hp id = some (.row [.int .u8] t l)) (hlt : id < nx) (hb : 0 < l.length) : OpOk P o get hp nx ⟨.sv (.one (.ext nx)), [(nx, .grid [.int .u8] l), (id, .gone)], nx + 1, [id]⟩ := by
  subst hsd
  intro e a w hx hsat K Q hK
  have hx1 := hx x (by rw [ho]; simp [Op.operands])
  rw [hg] at hx1
  obtain ⟨⟨d, xs, hown, hc⟩, hφ⟩ := hsat.holds _ _ hl
  rcases hown.2 with ⟨hv, h0⟩ | ⟨g, cap, cur, hv, _, hgh, hnc, hcm, hcs, htake⟩
  · omega
  · have hx1' : a.eval x = .slice (some ⟨g, 0, none⟩) l.length cap := by rw [hx1]; exact hv
    have hblk : (e.slv id).ownBlock = some g := by rw [hv]; rfl
    have hglt := heap_some_lt hgh
    have hshape : w.shape? g = some (t, cur.size) := by unfold World.shape?; rw [hgh]
    refine wp_value (w' := w.freeze ⟨g, cur.size, none⟩ 1) (v := .slice (some ⟨g, 0, none⟩) l.length cap) ?_ ?_
    · simp [execOp, ho, hx1', convert, run_underlying hs, run_underlying he, markStringish, hshape]
    · have := hK (e.setS nx (some ⟨g, 0, none⟩, l.length, cap) fun b => b = g ∨ e.φ id b) (w.freeze ⟨g, cur.size, none⟩ 1) ⟨fun i hi => Env.setS_same (by simp only at hi; omega), rfl, rfl, rfl, by rw [freeze_size]; exact Nat.le_refl _, fun k hk hne => freeze_heap_other w g _ k fun h' => hne id (by simp) _ hl (by subst h'; exact hblk), ⟨fun id' o' ho' => ?_, fun id1 o1 ho1 id2 o2 ho2 hne b hbo => ?_⟩, fun id' o' b ho' hbo => ?_, fun id' o' b ho' hf => ?_⟩
      · simpa [RV.den, SV.den, CV.den, Env.setS_slv] using this
      · simp only [hlook] at ho'
        cases h1 : Nat.beq nx id' with
        | true =>
          rw [h1] at ho'
          cases ho'
          obtain rfl := Nat.eq_of_beq_eq_true h1
          refine ⟨⟨0, some ⟨g, 0, none⟩, cap, by rw [Env.setS_slv], hnc, by unfold maxLen at hcm; omega, fun h => (by cases h), fun i hi => ⟨g, 0, rfl, by rw [Env.setS_φ]; exact .inl rfl, fun j s hs' => ?_⟩⟩, fun b hb' => ?_⟩
          · obtain ⟨u, hu, hh⟩ := hc i hi j s hs'
            cases j with
            | zero =>
              simp only [List.getElem?_cons_zero, Option.some.injEq] at hs'
              subst hs'
              refine ⟨u, ?_, by cases d <;> exact hh⟩
              rw [freeze_cell]
              rw [← htake, List.getElem?_take] at hu
              split at hu
              · simp only [World.cell?, hgh]
                simpa using hu
              · cases hu
            | succ j => simp at hs'
          · rw [Env.setS_φ] at hb'
            rw [freeze_size]
            rcases hb' with rfl | hb'
            · exact hglt
            · exact (hφ b hb').1
        | false =>
          rw [h1] at ho'
          obtain ⟨_, rfl⟩ := hlook_one ho'
          trivial
      · simp only [hlook] at ho1
        cases h1 : Nat.beq nx id1 with
        | true => rw [h1] at ho1; cases ho1; exact False.elim hbo
        | false => rw [h1] at ho1; obtain ⟨_, rfl⟩ := hlook_one ho1; exact False.elim hbo
      · simp only [hlook] at ho'
        cases h1 : Nat.beq nx id' with
        | true => rw [h1] at ho'; cases ho'; exact False.elim hbo
        | false => rw [h1] at ho'; obtain ⟨_, rfl⟩ := hlook_one ho'; exact False.elim hbo
      · simp only [hlook] at ho'
        cases h1 : Nat.beq nx id' with
        | true =>
          rw [h1] at ho'
          cases ho'
          obtain rfl := Nat.eq_of_beq_eq_true h1
          have hf' : (e.setS nx (some ⟨g, 0, none⟩, l.length, cap) fun b => b = g ∨ e.φ id b).φ nx b := hf
          rw [Env.setS_φ] at hf'
          rcases hf' with rfl | hf'
          · exact .inr (.inl ⟨id, by simp, _, hl, hblk⟩)
          · exact .inr (.inr ⟨id, _, hl, .inr hf', (hφ b hf').2⟩)
        | false => rw [h1] at ho'; obtain ⟨_, rfl⟩ := hlook_one ho'; exact False.elim hf
theorem bytesOf_length (s : ByteArray) : (bytesOf s).length = s.size := by
  show (s.data.toList.map _).length = s.data.size
  rw [List.length_map, Array.length_toList]
theorem data_length (s : ByteArray) : s.data.toList.length = s.size := by
  rw [Array.length_toList]; rfl
theorem opConv_ok {P : Program} {o : Oper} {get : Operand → RV} {hp : Hp} {nx : Nat} {out : Out} {src dst : TypeId} {x : Operand} {b : Bool} (ho : o.op = .convert src dst x) (h : opConv P get hp nx src dst x = some (b, out)) (hb : b = true) : OpOk P o get hp nx out := by
  have hmem : x ∈ o.op.operands := by rw [ho]; simp [Op.operands]
  unfold opConv at h
  split at h
  · rename_i el hs hd
    split at h
    · rename_i C Y l he hS
      simp only [Option.some.injEq, Prod.mk.injEq] at h
      obtain ⟨rfl, rfl⟩ := h
      intro e a w hx hsat K Q hK
      have hx1 := hx x hmem
      obtain ⟨φ2, ⟨⟨d, ad, c, news, hv, ha, hnl, hcell, hcont⟩⟩, _⟩ := srcOf_ok (T := []) (vx := .slice none 0 0) hS (by simp) hsat (fun id h => by cases h) (fun b h => by cases h)
      rw [hv] at hx1
      refine wp_value (w' := w) (v := .string (strOf l)) ?_ (hK e w (PostOp.none e _ nx _ _ w))
      have hnews : news = (l.map fun r => (r.getD 0 (.i 0)).int).map (Value.int .u8) := by
        apply List.ext_getElem?
        intro q
        by_cases hq : q < l.length
        · obtain ⟨u, hu, hh⟩ := hcont q hq 0 (.int .u8) rfl
          have : u = .int .u8 (rd l q 0).int := by cases d <;> exact hh
          rw [show q * [Sh.int .u8].length + 0 = q by simp] at hu
          rw [hu, this]
          simp [rd, List.getD_eq_getElem?_getD, hq]
        · rw [List.getElem?_eq_none (by rw [hnl]; simp; omega), List.getElem?_eq_none (by simp; omega)]
      cases ad with
      | none =>
        obtain ⟨hl, _⟩ := ha rfl
        have : l = [] := List.eq_nil_of_length_eq_zero hl
        subst this
        simp only [execOp, ho, hx1, run_convert_bytes_string w src dst el none _ _ hs he hd, Conv.bytesToString, Sem.run_bind, Sem.run_pure, Result.andThen_ok]
        rfl
      | some ad =>
        have hload := run_loadCells_list (P := P) w ad news (fun j u hj => hcell ad rfl j u hj)
        rw [hnl, show l.length * [Sh.int .u8].length = l.length by simp] at hload
        have := run_bytesToString (P := P) w ad l.length c (l.map fun r => (r.getD 0 (.i 0)).int) (by rw [hload, hnews])
        simp only [execOp, ho, hx1, Sem.run_bind, run_convert_bytes_string w src dst el (some ad) _ _ hs he hd, this, Result.andThen_ok, Sem.run_pure]
        rfl
    · cases h
  · rename_i el hs hd
    split at h
    · rename_i k s he hg
      simp only [Option.some.injEq, Prod.mk.injEq] at h
      obtain ⟨rfl, rfl⟩ := h
      simp only [decide_eq_true_eq] at hb
      intro e a w hx hsat K Q hK
      have hx1 := hx x hmem
      rw [hg] at hx1
      have hx1' : a.eval x = .string s := hx1
      have hrun := Go.Lib.run_convert_string_bytes (P := P) w src dst el s hs hd he
      refine wp_value (w' := Go.Lib.bytesWorld w el s) (v := .slice (some ⟨w.heap.size, 0, none⟩) s.size (grownCap w s.size 0 el)) ?_ ?_
      · simp only [execOp, ho, hx1', Sem.run_bind, hrun, Result.andThen_ok, Sem.run_pure]
      · have hcells : ∀ j, j < s.size → (Go.Lib.bytesWorld w el s).cell? ⟨w.heap.size, j, none⟩ = some (.int .u8 (s.data.toList.getD j 0).toNat) := fun j hj => Go.Lib.bytesWorld_cell w el s j hj
        have hle := grownCap_ge w s.size 0 el
        have := hK (e.setS nx (some ⟨w.heap.size, 0, none⟩, s.size, grownCap w s.size 0 el) fun b => b = w.heap.size) (Go.Lib.bytesWorld w el s) ⟨fun id hid => Env.setS_same (by simp only at hid; omega), rfl, rfl, rfl, by rw [Go.Lib.bytesWorld_size]; omega, fun k hk _ => Go.Lib.bytesWorld_at_old w el s k hk, ⟨fun id o ho => ?_, fun id o ho id' o' ho' hne => absurd ((hlook_one ho).1.trans (hlook_one ho').1.symm) hne⟩, fun id o b ho hf => ?_, fun id o b ho hf => ?_⟩
        · simpa [RV.den, SV.den, CV.den, Env.setS_slv] using this
        · obtain ⟨rfl, rfl⟩ := hlook_one ho
          refine ⟨⟨0, some ⟨w.heap.size, 0, none⟩, grownCap w s.size 0 el, by rw [Env.setS_slv, bytesOf_length], by rw [bytesOf_length]; exact hle, ?_, fun h => (by cases h), fun i hi => ⟨w.heap.size, 0, rfl, by rw [Env.setS_φ], fun j sh hsh => ?_⟩⟩, fun b hb => ?_⟩
          · have hs63 : s.size ≤ maxLen := by simp only [maxLen]; omega
            have := grownCap_le_maxLen w s.size 0 el hs63
            simp only [maxLen] at this; omega
          · rw [bytesOf_length] at hi
            cases j with
            | zero =>
              simp only [List.getElem?_cons_zero, Option.some.injEq] at hsh
              subst hsh
              refine ⟨_, by rw [show 0 + i * [Sh.int .u8].length + 0 = i by simp]; exact hcells i hi, ?_⟩
              have hi' : i < s.data.toList.length := by rw [data_length]; exact hi
              simp [CtHolds, rd, bytesOf, List.getD_eq_getElem?_getD, List.getElem?_eq_getElem hi', Ct.int]
            | succ j => simp at hsh
          · rw [Env.setS_φ] at hb
            subst hb
            rw [Go.Lib.bytesWorld_size]; omega
        · obtain ⟨rfl, rfl⟩ := hlook_one ho
          exact False.elim hf
        · obtain ⟨rfl, rfl⟩ := hlook_one ho
          have hf' : (e.setS id (some ⟨w.heap.size, 0, none⟩, s.size, grownCap w s.size 0 el) fun b => b = w.heap.size).φ id b := hf
          rw [Env.setS_φ] at hf'
          exact .inl (Nat.le_of_eq hf'.symm)
    · cases h
  · rename_i el el' hs hd
    cases hbq : Nat.beq src dst with
    | false => rw [hbq] at h; cases h
    | true =>
      rw [hbq] at h
      simp only [cond_true] at h
      split at h
      · rename_i id he hg
        split at h
        · rename_i sh ty l hl
          cases hq : (shEqL sh [.int .u8] && Nat.blt id nx) with
          | false => rw [hq] at h; cases h
          | true =>
            rw [hq] at h
            simp only [cond_true, Option.some.injEq, Prod.mk.injEq] at h
            obtain ⟨rfl, rfl⟩ := h
            rw [Bool.and_eq_true] at hq
            have hsh := shEqL_spec hq.1
            subst hsh
            exact convSelf_ok ho (Nat.eq_of_beq_eq_true hbq) hs he hg hl (Nat.le_of_ble_eq_true hq.2) (of_decide_eq_true hb)
        · cases h
      · cases h
  · cases h

/-- Texts: one behind another, a byte of one. -/
def opStr (P : Program) (o : Oper) (get : Operand → RV) (nx : Nat) : Option (Bool × Out) :=
  match o.op with
  | .binOp .add _ x y _ => (match get x, get y with
    | .sv (.one (.val k (.string a))), .sv (.one (.val k' (.string b))) => some (decide (a.size + b.size ≤ 9223372036854775807), ⟨.sv (.one (.val (k && k') (.string (a ++ b)))), [], nx + 1, []⟩)
    | _, _ => none)
  | .index t x i => (match get x, intOfRV (get i), P.underlying t with
    | .sv (.one (.val _ (.string s))), some j, some .string => some (decide (0 ≤ j ∧ j < s.size), ⟨.sv (.one (.val false (.int .u8 (s.data.toList.getD j.toNat 0).toNat))), [], nx + 1, []⟩)
    | _, _, _ => none)
  | _ => none
theorem opStr_ok {P : Program} {o : Oper} {get : Operand → RV} {hp : Hp} {nx : Nat} {out : Out} {b : Bool} (h : opStr P o get nx = some (b, out)) (hb : b = true) : OpOk P o get hp nx out := by
  unfold opStr at h
  split at h
  · rename_i t x y yt ho
    split at h
    · rename_i k sa k' sb h1 h2
      simp only [Option.some.injEq, Prod.mk.injEq] at h
      obtain ⟨rfl, rfl⟩ := h
      simp only [decide_eq_true_eq] at hb
      intro e a w hx hsat K Q hK
      have hx1 := hx x (by rw [ho]; simp [Op.operands])
      have hx2 := hx y (by rw [ho]; simp [Op.operands])
      rw [h1] at hx1
      rw [h2] at hx2
      have hx1' : a.eval x = .string sa := hx1
      have hx2' : a.eval y = .string sb := hx2
      refine wp_value (w' := w) (v := .string (sa ++ sb)) ?_ (hK e w (PostOp.none e _ nx _ _ w))
      simp only [execOp, ho, hx1', hx2', Sem.run_bind]
      simp [eqGuard, binOp, run_string_add_sum w sa sb hb]
    · cases h
  · rename_i t x i ho
    split at h
    · rename_i k s j h1 h2 h3
      simp only [Option.some.injEq, Prod.mk.injEq] at h
      obtain ⟨rfl, rfl⟩ := h
      simp only [decide_eq_true_eq] at hb
      intro e a w hx hsat K Q hK
      have hx1 := hx x (by rw [ho]; simp [Op.operands])
      have hx2 := hx i (by rw [ho]; simp [Op.operands])
      rw [h1] at hx1
      have hx1' : a.eval x = .string s := hx1
      obtain ⟨kj, hkj⟩ := intOfRV_spec h2 e
      rw [hkj] at hx2
      refine wp_value (w' := w) (v := .int .u8 (s.data.toList.getD j.toNat 0).toNat) ?_ (hK e w (PostOp.none e _ nx _ _ w))
      have hlt : j.toNat < s.size := by omega
      have hget : s[j.toNat]? = some (s.data.toList.getD j.toNat 0) := by
        rw [getElem?_pos s j.toNat hlt]
        simp only [Option.some.injEq]
        have hlt' : j.toNat < s.data.toList.length := by rw [data_length]; exact hlt
        rw [List.getD_eq_getElem?_getD, List.getElem?_eq_getElem hlt']
        simp
        rfl
      simp only [execOp, ho, hx1', hx2, Instr.index, asIntOf, Sem.run_bind, run_underlying h3, Result.andThen_ok, Sem.run_pure, hb.1, if_true, hget]
    · cases h
  · cases h
/-- A quotient, a rest, by an open divisor. -/
def opDiv (o : Oper) (get : Operand → RV) (nx : Nat) : Option (Bool × Out) :=
  match o.op with
  | .binOp .quo _ x y _ => (match get x, get y with
    | .sv (.one (.val _ (.int k a))), .sv (.one (.val false (.int k' b))) => if k = k' then some (decide (b ≠ 0), ⟨.sv (.one (.val false (.int k (k.wrap (a.tdiv b))))), [], nx + 1, []⟩) else none
    | _, _ => none)
  | .binOp .rem _ x y _ => (match get x, get y with
    | .sv (.one (.val _ (.int k a))), .sv (.one (.val false (.int k' b))) => if k = k' then some (decide (b ≠ 0), ⟨.sv (.one (.val false (.int k (a.tmod b)))), [], nx + 1, []⟩) else none
    | _, _ => none)
  | _ => none
theorem opDiv_ok {P : Program} {o : Oper} {get : Operand → RV} {hp : Hp} {nx : Nat} {out : Out} {b : Bool} (h : opDiv o get nx = some (b, out)) (hb : b = true) : OpOk P o get hp nx out := by
  unfold opDiv at h
  split at h
  · rename_i t x y yt ho
    split at h
    · rename_i kn k a k' d h1 h2
      split at h
      · rename_i hk
        subst hk
        simp only [Option.some.injEq, Prod.mk.injEq] at h
        obtain ⟨rfl, rfl⟩ := h
        simp only [decide_eq_true_eq] at hb
        intro e ac w hx hsat K Q hK
        have hx1 := hx x (by rw [ho]; simp [Op.operands])
        have hx2 := hx y (by rw [ho]; simp [Op.operands])
        rw [h1] at hx1
        rw [h2] at hx2
        have hx1' : ac.eval x = .int k a := hx1
        have hx2' : ac.eval y = .int k d := hx2
        refine wp_value (w' := w) (v := .int k (k.wrap (a.tdiv d))) ?_ (hK e w (PostOp.none e _ nx _ _ w))
        simp only [execOp, ho, hx1', hx2', Sem.run_bind]
        simp [eqGuard, binOp, Op.intDiv, hb]
      · cases h
    · cases h
  · rename_i t x y yt ho
    split at h
    · rename_i kn k a k' d h1 h2
      split at h
      · rename_i hk
        subst hk
        simp only [Option.some.injEq, Prod.mk.injEq] at h
        obtain ⟨rfl, rfl⟩ := h
        simp only [decide_eq_true_eq] at hb
        intro e ac w hx hsat K Q hK
        have hx1 := hx x (by rw [ho]; simp [Op.operands])
        have hx2 := hx y (by rw [ho]; simp [Op.operands])
        rw [h1] at hx1
        rw [h2] at hx2
        have hx1' : ac.eval x = .int k a := hx1
        have hx2' : ac.eval y = .int k d := hx2
        refine wp_value (w' := w) (v := .int k (a.tmod d)) ?_ (hK e w (PostOp.none e _ nx _ _ w))
        simp only [execOp, ho, hx1', hx2', Sem.run_bind]
        simp [eqGuard, binOp, Op.intDiv, hb]
      · cases h
    · cases h
  · cases h
theorem ptr_nil {P : Program} {t el : TypeId} (h0 : P.underlying t = some (.pointer el)) (a : Addr) (w : World) : (Op.equal t (.pointer (some a)) (.pointer none)).run P w = .ok false w := by
  show (Op.equalIn (9999 + 1) t (.pointer (some a)) (.pointer none)).run P w = _
  unfold Op.equalIn
  simp only [Sem.run_bind, run_underlying h0, Result.andThen_ok, Sem.run_pure]
/-- A pointer that leads somewhere, beside nil. -/
def opNil (P : Program) (get : Operand → RV) (nx : Nat) (op : BinOp) (t : TypeId) (x y : Operand) : Option Out :=
  match op, P.underlying t, get x, get y with
  | .eql, some (.pointer _), .sv (.one (.ptr _ _)), .sv (.one (.val _ (.pointer none))) => some (boolOut true nx false)
  | .neq, some (.pointer _), .sv (.one (.ptr _ _)), .sv (.one (.val _ (.pointer none))) => some (boolOut true nx true)
  | _, _, _, _ => none
theorem opNil_ok {P : Program} {o : Oper} {get : Operand → RV} {hp : Hp} {nx : Nat} {out : Out} {op : BinOp} {t yt : TypeId} {x y : Operand} (ho : o.op = .binOp op t x y yt) (h : opNil P get nx op t x y = some out) : OpOk P o get hp nx out := by
  unfold opNil at h
  split at h
  · rename_i t' id off k h0 h1 h2
    cases h
    refine OpOk.val fun e a w hx hs => ?_
    have hx1 := hx x (by rw [ho]; simp [Op.operands])
    have hx2 := hx y (by rw [ho]; simp [Op.operands])
    rw [h1] at hx1
    rw [h2] at hx2
    have hx1' : a.eval x = .pointer (some ⟨e.ρ id, off, none⟩) := hx1
    have hx2' : a.eval y = .pointer none := hx2
    simp only [execOp, ho, hx1', hx2', Sem.run_bind]
    have e1 : binOp .eql t (.pointer (some ⟨e.ρ id, off, none⟩)) (.pointer none) = (do pure (.bool (← Op.equal t (.pointer (some ⟨e.ρ id, off, none⟩)) (.pointer none)))) := rfl
    simp only [eqGuard, e1, Sem.run_bind, ptr_nil h0, Result.andThen_ok, Sem.run_pure]
    rfl
  · rename_i t' id off k h0 h1 h2
    cases h
    refine OpOk.val fun e a w hx hs => ?_
    have hx1 := hx x (by rw [ho]; simp [Op.operands])
    have hx2 := hx y (by rw [ho]; simp [Op.operands])
    rw [h1] at hx1
    rw [h2] at hx2
    have hx1' : a.eval x = .pointer (some ⟨e.ρ id, off, none⟩) := hx1
    have hx2' : a.eval y = .pointer none := hx2
    simp only [execOp, ho, hx1', hx2', Sem.run_bind]
    have e1 : binOp .neq t (.pointer (some ⟨e.ρ id, off, none⟩)) (.pointer none) = (do pure (.bool (!(← Op.equal t (.pointer (some ⟨e.ρ id, off, none⟩)) (.pointer none))))) := rfl
    simp only [eqGuard, e1, Sem.run_bind, ptr_nil h0, Result.andThen_ok, Sem.run_pure]
    rfl
  · cases h
/-- A slice that is written out, as a row of its own. -/
def opBuildRow (P : Program) (get : Operand → RV) (nx : Nat) (t : TypeId) (len : Nat) (parts : Array (Nat × Operand)) : Option Out :=
  match opBuildSlice P get nx t len parts with
  | some ⟨.sv (.one (.sl i 0 n c)), [(i', .cells cs e)], nx', []⟩ => (match shT P 8 e with
    | some sh => (match tgtOf [(nx, .cells cs e)] sh e (.sv (.one (.sl nx 0 n c))) with
      | some (_, l) => bif Nat.beq i nx && Nat.beq i' nx && Nat.beq nx' (nx + 1) && cs.all (fun c => c.ids.isEmpty) then some ⟨.sv (.one (.ext nx)), [(nx, .row sh e l)], nx + 1, []⟩ else none
      | none => none)
    | none => none)
  | _ => none
theorem opBuildRow_ok {P : Program} {o : Oper} {get : Operand → RV} {hp : Hp} {nx : Nat} {out : Out} {t : TypeId} {len : Nat} {parts : Array (Nat × Operand)} (hwf : WfOp get o hp nx) (ho : o.op = .buildSlice t len parts) (h : opBuildRow P get nx t len parts = some out) : OpOk P o get hp nx out := by
  unfold opBuildRow at h
  split at h
  · rename_i i n c i' cs e nx' hb
    split at h
    · rename_i sh hsh
      split at h
      · rename_i T l htg
        cases hq : (Nat.beq i nx && Nat.beq i' nx && Nat.beq nx' (nx + 1) && cs.all (fun c => c.ids.isEmpty)) with
        | false => rw [hq] at h; cases h
        | true =>
          rw [hq] at h
          simp only [cond_true, Option.some.injEq] at h
          simp only [Bool.and_eq_true] at hq
          obtain ⟨⟨⟨q1, q2⟩, q3⟩, q4⟩ := hq
          obtain rfl := Nat.eq_of_beq_eq_true q1
          obtain rfl := Nat.eq_of_beq_eq_true q2
          obtain rfl := Nat.eq_of_beq_eq_true q3
          subst h
          have hop := opBuildSlice_ok hwf (fun cs' ty hl j hj => by
            simp only [hlook, Nat.beq_refl, cond_true, Option.some.injEq, HO.cells.injEq] at hl
            obtain ⟨rfl, rfl⟩ := hl
            obtain ⟨c', hc', hj'⟩ := List.mem_flatMap.1 hj
            have := List.all_eq_true.1 q4 c' hc'
            simp only [List.isEmpty_iff] at this
            rw [this] at hj'; cases hj') ho hb
          intro en a w hx hsat K Q hK
          refine hop en a w hx hsat K Q fun e1 w' hp1 => ?_
          have hs1 : Sat e1 (hlook [(i', .cells cs e)]) w' := hp1.sat
          obtain ⟨φ1, h1, h2, h3⟩ := tgtOf_ok htg hs1 []
          obtain ⟨⟨d, xs, hown, hc⟩, _, a', m', c', hv⟩ := h1
          have hone : ∀ id o', hlook [(i', HO.cells cs e)] id = some o' → id = i' ∧ o' = .cells cs e := fun id o' hh => hlook_one hh
          have hv' : (RV.sv (.one (.sl i' 0 n c))).den e1 = .slice (some ⟨e1.ρ i', 0, none⟩) n c := rfl
          have hno : ∀ b, ¬ φ1 b := by
            intro b hb'
            obtain ⟨_, g1, g2⟩ := h2 b hb'
            rcases g2 with ⟨id0, _, o0, g3, g4⟩ | ⟨id0, o0, g3, g4, g5⟩
            · obtain ⟨rfl, rfl⟩ := hone _ _ g3
              exact g1 (by rw [hv']; exact congrArg some (show b = _ from g4).symm)
            · obtain ⟨rfl, rfl⟩ := hone _ _ g3
              exact g5 g4
          have := hK (e1.setS i' (some ⟨e1.ρ i', 0, none⟩, n, c) fun _ => False) w' ⟨fun id hid => ?_, hp1.os, hp1.tape, hp1.output, hp1.size, fun k hk hne => hp1.fr k hk (fun id hid => by cases hid), ⟨fun id o' ho' => ?_, fun id o' ho' id' o'' ho'' hne => ?_⟩, fun id o' b ho' hb' => ?_, fun id o' b ho' hb' => ?_⟩
          · have h5 : (RV.sv (.one (.ext i'))).den (e1.setS i' (some ⟨e1.ρ i', 0, none⟩, n, c) fun _ => False) = (RV.sv (.one (.sl i' 0 n c))).den e1 := by
              simp only [RV.den, SV.den, CV.den, Env.setS_slv]
            rw [h5] at this
            exact this
          · exact (hp1.agree id hid).trans (Env.setS_same (by simp only at hid; omega))
          · obtain ⟨rfl, rfl⟩ := hlook_one ho'
            refine ⟨⟨d, xs, ?_, fun q hq j s hs => ?_⟩, fun b hb' => ?_⟩
            · rw [Env.setS_slv, ← hv']; exact hown
            · obtain ⟨u, hu, hh⟩ := hc q hq j s hs
              exact ⟨u, hu, hh.mono fun b hb' => absurd hb' (hno b)⟩
            · rw [Env.setS_φ] at hb'; exact False.elim hb'
          · exact absurd ((hlook_one ho').1.trans (hlook_one ho'').1.symm) hne
          · obtain ⟨rfl, rfl⟩ := hlook_one ho'
            have hb'' : (Env.slv (e1.setS id (some ⟨e1.ρ id, 0, none⟩, n, c) fun _ => False) id).ownBlock = some b := hb'
            rw [Env.setS_slv] at hb''
            have e5 : b = e1.ρ id := by simpa [Value.ownBlock] using hb''.symm
            rcases hp1.own id (.cells cs e) b (by simp [hlook, Nat.beq_refl]) e5 with g | ⟨id0, g, _⟩
            · exact .inl g
            · cases g
          · obtain ⟨rfl, rfl⟩ := hlook_one ho'
            rcases hb' with hb' | hb'
            · rw [Env.setS_slv] at hb'
              have e5 : b = e1.ρ id := by simpa [Value.ownBlock] using hb'.symm
              rcases hp1.own id (.cells cs e) b (by simp [hlook, Nat.beq_refl]) e5 with g | ⟨id0, g, _⟩
              · exact .inl g
              · cases g
            · rw [Env.setS_φ] at hb'; exact False.elim hb'
      · cases h
    · cases h
  · cases h
/-- Nothing, copied into a slice of one's own. -/
def opCopyN (P : Program) (get : Operand → RV) (nx : Nat) (t : TypeId) (x y : Operand) : Option Out :=
  match get x, get y, P.underlying t with
  | .sv (.one (.sl id off len cap)), .sv (.one (.val _ (.slice none 0 0))), some (.slice e) => (match sizeP P e with
    | some _ => some (.val nx (.sv (.one (.val true (.int .i64 0)))))
    | none => none)
  | _, _, _ => none
theorem opCopyN_ok {P : Program} {o : Oper} {get : Operand → RV} {hp : Hp} {nx : Nat} {out : Out} {t t' : TypeId} {x y : Operand} {c : Call} (ho : o.op = .call c) (hc : c.callee = .builtin .copy) (ha : c.args.toList = [x, y]) (hat : c.argTypes.toList = [t, t'])
    (h : opCopyN P get nx t x y = some out) : OpOk P o get hp nx out := by
  have ha' : c.args = #[x, y] := by apply Array.ext'; simpa using ha
  have hat' : c.argTypes = #[t, t'] := by apply Array.ext'; simpa using hat
  have hop : o.op.operands = #[x, y] := by rw [ho]; simp [Op.operands, Call.operands, hc, ha']
  unfold opCopyN at h
  split at h
  · rename_i id off len cap k e hgx hgy hu
    split at h
    · rename_i s hs
      cases h
      refine OpOk.val fun en a w hx hsat => ?_
      have hx1 := hx x (by rw [hop]; simp)
      have hx2 := hx y (by rw [hop]; simp)
      rw [hgx] at hx1
      rw [hgy] at hx2
      have hx1' : a.eval x = .slice (some ⟨en.ρ id, off, none⟩) len cap := hx1
      have hx2' : a.eval y = .slice none 0 0 := hx2
      have hrun := run_copy_nil (P := P) w t t' o.type e ⟨en.ρ id, off, none⟩ len cap hu (by unfold sizeP at hs; rw [hs]; rfl)
      simp only [execOp, ho, resolve, hc, ha', hat', List.map_toArray, List.map_cons, List.map_nil, hx1', hx2', Sem.run_bind, Sem.run_pure, Result.andThen_ok, invoke, builtin, hrun]
      rfl
    · cases h
  · cases h
end Go.Proofs.Ythgneojhhocflaa
