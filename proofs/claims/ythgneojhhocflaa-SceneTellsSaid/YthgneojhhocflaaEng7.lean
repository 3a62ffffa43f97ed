/- A symbolic way through the code of a call: a region in whatever order its edges allow. No condition. -/
import Derived.Test.YthgneojhhocflaaEng6
import Derived.StillTail
set_option linter.unusedVariables false
namespace Go.Proofs.Ythgneojhhocflaa
open Go.RowKit

def hasBit (m i : Nat) : Bool := Nat.beq (Nat.land (Nat.shiftRight m i) 1) 1
/-- Which operations must be done ahead (a bit each). -/
def maskOf (o : Oper) (acc : List Nat) : Nat :=
  o.after.toList.foldl (fun m e => bif Region.binds .any e then Nat.lor (Nat.lor m (Nat.shiftLeft 1 e.on)) (bif Nat.blt e.on acc.length then acc.getD (acc.length - 1 - e.on) 0 else 0) else m) 0
def masks : List Oper → List Nat → List Nat
  | [], acc => acc
  | o :: r, acc => masks r (maskOf o acc :: acc)
def edgesBack : List Oper → Nat → Bool
  | [], _ => true
  | o :: r, k => o.after.toList.all (fun e => !Region.binds .any e || Nat.blt e.on k) && edgesBack r (k + 1)
def outside (t : Tr) (id : Nat) : Bool := Nat.blt id t.nx0 || Nat.ble t.nx1 id
/-- t, done earlier in the text, and u may change places. -/
def indep (t u : Tr) : Bool :=
  (match t.dst with | some d => !u.looks.any (Nat.beq d) && !dstIs u d | none => true) &&
  (match u.dst with | some d => !t.looks.any (Nat.beq d) | none => true) &&
  t.up.all (fun p => !u.R.any (Nat.beq p.1) && (hlook u.up p.1).isNone) && u.up.all (fun p => !t.R.any (Nat.beq p.1) && (hlook t.up p.1).isNone) &&
  u.v.ids.all (outside t) && u.up.all (fun p => outside t p.1 && p.2.ids.all (outside t))
def chk1 (t : Tr) (m : Nat) : List Tr → Bool
  | [] => true
  | u :: us => (hasBit m us.length || indep u t) && chk1 t m us
def chkAll : List Tr → List Nat → Bool
  | [], _ => true
  | t :: ts, m :: ms => chk1 t m ts && chkAll ts ms
  | _ :: _, [] => false

/-- j must be done ahead of i. -/
inductive Anc (ops : Array Oper) : Nat → Nat → Prop
  | step {i j : Nat} {o : Oper} {e : Edge} : ops[i]? = some o → e ∈ o.after → Region.binds .any e = true → e.on = j → Anc ops i j
  | far {i j k : Nat} {o : Oper} {e : Edge} : ops[i]? = some o → e ∈ o.after → Region.binds .any e = true → e.on = k → Anc ops k j → Anc ops i j

theorem hasBit_spec {m i : Nat} : hasBit m i = m.testBit i := by
  unfold hasBit
  show Nat.beq (m >>> i &&& 1) 1 = _
  simp only [Nat.testBit]
  rw [Nat.and_comm]
  have : 1 &&& (m >>> i) = 0 ∨ 1 &&& (m >>> i) = 1 := by
    have := Nat.and_le_left (n := 1) (m := m >>> i)
    omega
  rcases this with h | h <;> rw [h] <;> rfl
theorem maskOf_spec {ops : Array Oper} {i : Nat} {o : Oper} (ho : ops[i]? = some o) {acc : List Nat} (hacc : ∀ k m, acc.reverse[k]? = some m → ∀ j, m.testBit j = true → Anc ops k j) : ∀ j, (maskOf o acc).testBit j = true → Anc ops i j := by
  have key : ∀ (l : List Edge), (∀ e ∈ l, e ∈ o.after) → ∀ m, (∀ j, m.testBit j = true → Anc ops i j) → ∀ j,
      (l.foldl (fun m e => bif Region.binds .any e then Nat.lor (Nat.lor m (Nat.shiftLeft 1 e.on)) (bif Nat.blt e.on acc.length then acc.getD (acc.length - 1 - e.on) 0 else 0) else m) m).testBit j = true → Anc ops i j := by
    intro l
    induction l with
    | nil => intro _ m hm j hj; exact hm j hj
    | cons e l ih =>
      intro hl m hm j hj
      refine ih (fun e' he' => hl e' (List.mem_cons_of_mem _ he')) _ ?_ j hj
      intro j' hj'
      dsimp only at hj'
      cases hb : Region.binds .any e with
      | false => rw [hb] at hj'; exact hm j' hj'
      | true =>
        rw [hb] at hj'
        simp only [cond_true] at hj'
        change ((m ||| 1 <<< e.on) ||| _).testBit j' = true at hj'
        rw [Nat.testBit_or, Nat.testBit_or, Bool.or_eq_true, Bool.or_eq_true] at hj'
        rcases hj' with (h | h) | h
        · exact hm j' h
        · rw [Nat.testBit_shiftLeft] at h
          simp only [ge_iff_le, Bool.and_eq_true, decide_eq_true_eq, Nat.testBit_one_eq_true_iff_self_eq_zero] at h
          exact .step ho (hl e List.mem_cons_self) hb (by omega)
        · cases hlt : Nat.blt e.on acc.length with
          | false => rw [hlt] at h; simp at h
          | true =>
            rw [hlt] at h
            simp only [cond_true] at h
            have hlt' : e.on < acc.length := Nat.le_of_ble_eq_true hlt
            have hget : acc.reverse[e.on]? = some (acc.getD (acc.length - 1 - e.on) 0) := by
              rw [List.getElem?_reverse hlt', List.getD_eq_getElem?_getD, List.getElem?_eq_getElem (by omega)]
              rfl
            exact .far ho (hl e List.mem_cons_self) hb rfl (hacc _ _ hget j' h)
  exact key o.after.toList (fun e he => by simpa using he) 0 (fun j hj => by simp at hj)
theorem masks_spec {ops : Array Oper} : ∀ (l : List Oper) (acc : List Nat), (∀ k o, l[k]? = some o → ops[acc.length + k]? = some o) → (∀ k m, acc.reverse[k]? = some m → ∀ j, m.testBit j = true → Anc ops k j) →
    ∀ k m, (masks l acc).reverse[k]? = some m → ∀ j, m.testBit j = true → Anc ops k j := by
  intro l
  induction l with
  | nil => intro acc _ h; exact h
  | cons o l ih =>
    intro acc hl hacc
    refine ih (maskOf o acc :: acc) (fun k o' hk => ?_) ?_
    · have := hl (k + 1) o' (by simpa using hk)
      simpa [Nat.add_assoc, Nat.add_comm 1 k] using this
    · intro k m hk
      rw [List.reverse_cons, List.getElem?_append] at hk
      split at hk
      · exact hacc k m hk
      · rename_i hge
        simp only [List.length_reverse] at hge hk
        have hk0 : k = acc.length := by
          rcases Nat.lt_or_ge (k - acc.length) 1 with h | h
          · omega
          · rw [List.getElem?_eq_none (by simpa using h)] at hk; cases hk
        subst hk0
        simp only [Nat.sub_self, List.getElem?_cons_zero, Option.some.injEq] at hk
        subst hk
        exact maskOf_spec (by simpa using hl 0 o rfl) hacc
theorem chk_spec {ops : Array Oper} : ∀ (trs : List Tr) (ms : List Nat), chkAll trs ms = true → (∀ k m, ms.reverse[k]? = some m → ∀ j, m.testBit j = true → Anc ops k j) → ms.length = trs.length →
    ∀ i j t u, At trs i t → At trs j u → i < j → ¬ Anc ops j i → indep t u = true := by
  intro trs
  induction trs with
  | nil => intro ms _ _ _ i j t u h; exact absurd h.lt (by simp)
  | cons p trs ih =>
    intro ms h hms hlen i j t u hi hj hlt hanc
    cases ms with
    | nil => simp [chkAll] at h
    | cons m ms =>
      simp only [chkAll, Bool.and_eq_true] at h
      simp only [List.length_cons, Nat.add_right_cancel_iff] at hlen
      rcases At.cons.1 hj with ⟨rfl, rfl⟩ | hj'
      · rcases At.cons.1 hi with ⟨rfl, _⟩ | hi'
        · omega
        · have hm : ∀ j, m.testBit j = true → Anc ops trs.length j := hms trs.length m (by
            rw [List.reverse_cons, List.getElem?_append_right (by simp; omega)]; simp [hlen])
          have key : ∀ l : List Tr, chk1 u m l = true → ∀ i t, At l i t → ¬ Anc ops trs.length i → indep t u = true := by
            intro l
            induction l with
            | nil => intro _ i t h; exact absurd h.lt (by simp)
            | cons q l ihl =>
              intro hc i t hat hna
              simp only [chk1, Bool.and_eq_true, Bool.or_eq_true] at hc
              rcases At.cons.1 hat with ⟨rfl, rfl⟩ | hat'
              · rcases hc.1 with hb | hb
                · exact absurd (hm _ (by rw [← hasBit_spec]; exact hb)) hna
                · exact hb
              · exact ihl hc.2 i t hat' hna
          exact key trs h.1 i t hi' hanc
      · have hi' : At trs i t := by
          rcases At.cons.1 hi with ⟨rfl, _⟩ | hi'
          · have := hj'.lt; omega
          · exact hi'
        refine ih ms h.2 (fun k m' hk => hms k m' ?_) hlen i j t u hi' hj' hlt hanc
        rw [List.reverse_cons, List.getElem?_append_left]
        · exact hk
        · rcases Nat.lt_or_ge k ms.reverse.length with h' | h'
          · exact h'
          · rw [List.getElem?_eq_none h'] at hk; cases hk
structure Indep (t u : Tr) : Prop where
  d1 : ∀ d, t.dst = some d → d ∉ u.looks ∧ u.dst ≠ some d
  d2 : ∀ d, u.dst = some d → d ∉ t.looks
  up1 : ∀ id, hlook t.up id ≠ none → id ∉ u.R ∧ hlook u.up id = none
  up2 : ∀ id, hlook u.up id ≠ none → id ∉ t.R ∧ hlook t.up id = none
  v : ∀ id ∈ u.v.ids, id < t.nx0 ∨ t.nx1 ≤ id
  ups : ∀ p ∈ u.up, (p.1 < t.nx0 ∨ t.nx1 ≤ p.1) ∧ ∀ id ∈ p.2.ids, id < t.nx0 ∨ t.nx1 ≤ id
theorem outside_spec {t : Tr} {id : Nat} (h : outside t id = true) : id < t.nx0 ∨ t.nx1 ≤ id := by
  simp only [outside, Bool.or_eq_true] at h
  exact h.imp Nat.le_of_ble_eq_true Nat.le_of_ble_eq_true
theorem any_beq {l : List Nat} {d : Nat} (h : (!l.any (Nat.beq d)) = true) : d ∉ l := by
  intro hm
  have : l.any (Nat.beq d) = true := List.any_eq_true.2 ⟨d, hm, Nat.beq_refl d⟩
  rw [this] at h; cases h
theorem indep_spec {t u : Tr} (h : indep t u = true) : Indep t u := by
  simp only [indep, Bool.and_eq_true, List.all_eq_true] at h
  obtain ⟨⟨⟨⟨⟨h1, h2⟩, h3⟩, h4⟩, h5⟩, h6⟩ := h
  have mem : ∀ (hp : Hp) id, hlook hp id ≠ none → ∃ o, (id, o) ∈ hp := by
    intro hp id hne
    cases hh : hlook hp id with
    | none => exact absurd hh hne
    | some o => exact ⟨o, hlook_mem hh⟩
  refine ⟨fun d hd => ?_, fun d hd => ?_, fun id hid => ?_, fun id hid => ?_, fun id hid => outside_spec (h5 id hid), fun p hp => ⟨outside_spec (h6 p hp).1, fun id hid => outside_spec ((h6 p hp).2 id hid)⟩⟩
  · rw [hd] at h1
    simp only [Bool.and_eq_true] at h1
    refine ⟨any_beq h1.1, fun h' => ?_⟩
    rw [dstIs_spec.2 h'] at h1
    simp at h1
  · rw [hd] at h2
    exact any_beq h2
  · obtain ⟨o, ho⟩ := mem _ _ hid
    have := h3 _ ho
    exact ⟨any_beq this.1, by simpa using this.2⟩
  · obtain ⟨o, ho⟩ := mem _ _ hid
    have := h4 _ ho
    exact ⟨any_beq this.1, by simpa using this.2⟩
theorem edgesBack_spec {ops : Array Oper} : ∀ (l : List Oper) (k : Nat), edgesBack l k = true → (∀ j o, l[j]? = some o → ops[k + j]? = some o) → ∀ j o, l[j]? = some o → ∀ e ∈ o.after, Region.binds .any e = true → e.on < k + j := by
  intro l
  induction l with
  | nil => intro k _ _ j o h; simp at h
  | cons p l ih =>
    intro k h hl j o hj e he hb
    simp only [edgesBack, Bool.and_eq_true, List.all_eq_true, Bool.or_eq_true] at h
    cases j with
    | zero =>
      simp only [List.getElem?_cons_zero, Option.some.injEq] at hj
      subst hj
      rcases h.1 e (by simpa using he) with h' | h'
      · rw [hb] at h'; cases h'
      · exact Nat.le_of_ble_eq_true h'
    | succ j =>
      have := ih (k + 1) h.2 (fun j' o' hj' => by have := hl (j' + 1) o' (by simpa using hj'); simpa [Nat.add_assoc, Nat.add_comm 1 j'] using this) j o (by simpa using hj) e he hb
      omega

theorem filter_set_lt : ∀ (l : List Bool) (i : Nat) (h : i < l.length), l[i] = false → ((l.set i true).filter (· == false)).length + 1 ≤ (l.filter (· == false)).length := by
  intro l
  induction l with
  | nil => intro i h; simp at h
  | cons b l ih =>
    intro i h hb
    cases i with
    | zero =>
      simp only [List.getElem_cons_zero] at hb
      subst hb
      simp
    | succ i =>
      have := ih i (by simpa using h) (by simpa using hb)
      cases b <;> simp at this ⊢ <;> omega
section
variable {P : Program} {ops : Array Oper} {fr0 : List RV} {hp0 : Hp} {nx0 : Nat} {trs : List Tr} {e0 : Env} {w0 : World} {Q : Exit → Act → World → Prop}
theorem wpAny_inv (hn : Names fr0 hp0 nx0) (htr : TrsOk P ops fr0 hp0 nx0 trs) (hlen : trs.length = ops.size) (hback : edgesBack ops.toList 0 = true) (hchk : chkAll trs (masks ops.toList []) = true)
    (hml : (masks ops.toList []).length = trs.length) (hQ : ∀ L a w e, (∀ j, j < ops.size → L j = true) → Inv fr0 hp0 nx0 trs e0 w0 L a w e → Q .normal a w) :
    ∀ (f : Nat) (listed : Array Bool) (a : Act) (w : World) (e : Env), listed.size = ops.size → (listed.toList.filter (· == false)).length ≤ f →
      (∀ i, listed.getD i false = true → ∀ o, ops[i]? = some o → ∀ ed ∈ o.after, Region.binds .any ed = true → listed.getD ed.on false = true) →
      Inv fr0 hp0 nx0 trs e0 w0 (fun i => listed.getD i false) a w e → wpAny P .any ops Q f listed a w := by
  have hanc := masks_spec (ops := ops) ops.toList [] (fun k o h => by simpa using h) (fun k m h => by simp at h)
  have hind : ∀ i j t u, At trs i t → At trs j u → i < j → ¬ Anc ops j i → Indep t u := fun i j t u h1 h2 h3 h4 => indep_spec (chk_spec trs _ hchk hanc hml i j t u h1 h2 h3 h4)
  have hb := edgesBack_spec (ops := ops) ops.toList 0 hback (fun j o h => by simpa using h)
  have down : ∀ listed : Array Bool, (∀ i, listed.getD i false = true → ∀ o, ops[i]? = some o → ∀ ed ∈ o.after, Region.binds .any ed = true → listed.getD ed.on false = true) → ∀ i j, Anc ops i j → listed.getD i false = true → listed.getD j false = true := by
    intro listed hd i j h
    induction h with
    | step ho he hbi hon => intro hi; rw [← hon]; exact hd _ hi _ ho _ he hbi
    | far ho he hbi hon _ ih => intro hi; exact ih (by rw [← hon]; exact hd _ hi _ ho _ he hbi)
  -- where nothing is ready all is done
  have fin : ∀ listed : Array Bool, listed.size = ops.size → Region.ready .any ops listed = [] → ∀ j, j < ops.size → listed.getD j false = true := by
    intro listed hs hr j
    induction j using Nat.strongRecOn with
    | _ j ih =>
      intro hj
      cases hl : listed.getD j false with
      | true => rfl
      | false =>
        exfalso
        have : j ∈ Region.ready .any ops listed := by
          unfold Region.ready
          refine List.mem_filter.2 ⟨List.mem_range.2 hj, ?_⟩
          have h1 : listed.getD j true = false := by
            rw [Array.getD_eq_getD_getElem?] at hl ⊢
            rw [Array.getElem?_eq_getElem (by omega)] at hl ⊢
            exact hl
          have h2 : ops[j]? = some ops[j] := Array.getElem?_eq_getElem hj
          rw [h1, h2]
          simp only [Bool.not_false, Option.map_some, Option.getD_some, Bool.true_and]
          rw [Array.all_eq_true_iff_forall_mem]
          intro ed hed
          cases hbd : Region.binds .any ed with
          | false => rfl
          | true =>
            have := hb j ops[j] (by simp [hj]) ed hed hbd
            rw [ih ed.on (by omega) (by omega)]; rfl
        rw [hr] at this
        cases this
  intro f
  induction f with
  | zero =>
    intro listed a w e hs hf hd hinv
    have hall : ∀ j, j < ops.size → listed.getD j false = true := by
      intro j hj
      cases hl : listed.getD j false with
      | true => rfl
      | false =>
        exfalso
        have hm : listed[j]'(by omega) ∈ listed.toList.filter (· == false) := by
          rw [Array.getD_eq_getD_getElem?, Array.getElem?_eq_getElem (by omega)] at hl
          simp only [Option.getD_some] at hl
          rw [hl]
          refine List.mem_filter.2 ⟨?_, rfl⟩
          have h3 : listed[j]'(by omega) ∈ listed.toList := by simp
          rw [hl] at h3; exact h3
        rw [List.length_eq_zero_iff.1 (Nat.le_zero.1 hf)] at hm
        cases hm
    refine ⟨?_, hQ _ _ _ e hall hinv⟩
    unfold Region.ready
    rw [List.filter_eq_nil_iff]
    intro i hi
    have hi' := List.mem_range.1 hi
    have h1 := hall i hi'
    rw [Array.getD_eq_getD_getElem?, Array.getElem?_eq_getElem (by omega)] at h1 ⊢
    simp only [Option.getD_some] at h1 ⊢
    rw [h1]; simp
  | succ f ih =>
    intro listed a w e hs hf hd hinv
    refine ⟨fun hr => hQ _ _ _ e (fin listed hs hr) hinv, fun i hi => ?_⟩
    obtain ⟨hun, o, ho, hall⟩ := mem_ready.1 hi
    have hilt : i < ops.size := by
      rcases Nat.lt_or_ge i ops.size with h | h
      · exact h
      · rw [Array.getElem?_eq_none h] at ho; cases ho
    have hif : listed.getD i false = false := by
      rw [Array.getD_eq_getD_getElem?] at hun ⊢
      rw [Array.getElem?_eq_getElem (by omega)] at hun ⊢
      exact hun
    obtain ⟨t, ht⟩ := At.of_lt (trs := trs) (j := i) (by omega)
    have hdown := down listed hd
    have hanci : ∀ j, Anc ops i j → listed.getD j false = true := by
      intro j hj
      cases hj with
      | step ho' he hbi hon => rw [ho] at ho'; cases ho'; rw [← hon]; exact hall _ he hbi
      | far ho' he hbi hon hk => rw [ho] at ho'; cases ho'; exact hdown _ _ hk (by rw [← hon]; exact hall _ he hbi)
    -- whatever is done and stands behind it in the text may change places with it
    have hlater : ∀ j u, At trs j u → listed.getD j false = true → i < j → Indep t u := fun j u hu hl hlt => hind i j t u ht hu hlt fun hA => by rw [hdown _ _ hA hl] at hif; cases hif
    have hearlier : ∀ j u, At trs j u → listed.getD j false = false → j < i → Indep u t := fun j u hu hl hlt => hind j i u t hu ht hlt fun hA => by rw [hanci _ hA] at hl; cases hl
    have hsetL : (fun j => (listed.setIfInBounds i true).getD j false) = setAt (fun j => listed.getD j false) i := by
      funext j
      by_cases h : j = i
      · subst h
        rw [setAt_same, Array.getD_eq_getD_getElem?, Array.getElem?_setIfInBounds_self_of_lt (by omega)]
        rfl
      · rw [setAt_ne h, getD_set_ne false (fun h' => h h'.symm)]
    refine step_op hn htr ht hif ⟨fun j u hu hne d hd' hm => ?_, fun j u hu hne id hid hup => ?_, fun j u hu hl hlt d hd' => ?_, fun j u hu hl hlt id hid => ?_, fun j u hu hl hlt => ?_, fun j u hu hl hlt => ?_⟩ hinv fun a' w' e' hinv' => ?_
    · constructor
      · intro hl
        rcases Nat.lt_or_gt_of_ne hne with h | h
        · exact h
        · exact absurd hm ((hlater j u hu hl h).d2 d hd')
      · intro hlt
        cases hl : listed.getD j false with
        | true => rfl
        | false => exact absurd hm ((hearlier j u hu hl hlt).d1 d hd').1
    · constructor
      · intro hl
        rcases Nat.lt_or_gt_of_ne hne with h | h
        · exact h
        · exact absurd hid ((hlater j u hu hl h).up2 id hup).1
      · intro hlt
        cases hl : listed.getD j false with
        | true => rfl
        | false => exact absurd hid ((hearlier j u hu hl hlt).up1 id hup).1
    · exact ((hlater j u hu hl hlt).d1 d hd').2
    · exact ((hlater j u hu hl hlt).up1 id hid).2
    · exact (hlater j u hu hl hlt).v
    · exact (hlater j u hu hl hlt).ups
    · refine ih _ _ _ e' (by simp [hs]) ?_ ?_ (by rw [hsetL]; exact hinv')
      · have hlt : i < listed.toList.length := by simpa using (show i < listed.size by omega)
        have h1 : listed.toList[i] = false := by
          rw [Array.getD_eq_getD_getElem?, Array.getElem?_eq_getElem (by omega)] at hif
          simpa using hif
        have h2 : (listed.setIfInBounds i true).toList = listed.toList.set i true := by simp
        rw [h2]
        have := filter_set_lt listed.toList i hlt h1
        omega
      · intro k hk o' ho' ed hed hbd
        by_cases hki : k = i
        · subst hki
          rw [ho] at ho'; cases ho'
          have := hall ed hed hbd
          by_cases he : ed.on = k
          · rw [he]; exact hk
          · rw [getD_set_ne false (fun h' => he h'.symm)]; exact this
        · rw [getD_set_ne false (fun h' => hki h'.symm)] at hk
          have := hd k hk o' ho' ed hed hbd
          by_cases he : ed.on = i
          · rw [he, hif] at this; cases this
          · rw [getD_set_ne false (fun h' => he h'.symm)]; exact this
end
end Go.Proofs.Ythgneojhhocflaa
