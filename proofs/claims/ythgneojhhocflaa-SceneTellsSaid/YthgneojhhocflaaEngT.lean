/- A symbolic way through the code of a call: slices of an open length: rows laid behind. No condition. -/
import Derived.Test.YthgneojhhocflaaEngS
set_option linter.unusedVariables false
namespace Go.Proofs.Ythgneojhhocflaa
open Go.RowKit

def shEq : Nat → Sh → Sh → Bool
  | _, .int k, .int k' => decide (k = k')
  | _, .bool, .bool => true
  | _, .str, .str => true
  | d + 1, .sl a, .sl b => Nat.beq a.length b.length && (a.zip b).all fun p => shEq d p.1 p.2
  | _, _, _ => false
def shEqL (a b : List Sh) : Bool := Nat.beq a.length b.length && (a.zip b).all fun p => shEq 8 p.1 p.2
theorem zip_eq {d : Nat} (hd : ∀ x y : Sh, shEq d x y = true → x = y) : ∀ {a b : List Sh}, Nat.beq a.length b.length = true → ((a.zip b).all fun p => shEq d p.1 p.2) = true → a = b := by
  intro a
  induction a with
  | nil =>
    intro b h _
    cases b with
    | nil => rfl
    | cons y b => cases h
  | cons x a ih =>
    intro b h h2
    cases b with
    | nil => cases h
    | cons y b =>
      simp only [List.zip_cons_cons, List.all_cons, Bool.and_eq_true] at h2
      rw [hd _ _ h2.1, ih h h2.2]
theorem shEq_spec : ∀ {d : Nat} {a b : Sh}, shEq d a b = true → a = b := by
  intro d
  induction d with
  | zero => intro a b h; cases a <;> cases b <;> simp_all [shEq]
  | succ d ih =>
    intro a b h
    cases a <;> cases b <;> first | (simp_all [shEq]; done) | skip
    rename_i x y
    simp only [shEq, Bool.and_eq_true] at h
    rw [zip_eq (fun _ _ h => ih h) h.1 h.2]
theorem shEqL_spec {a b : List Sh} (h : shEqL a b = true) : a = b := by
  simp only [shEqL, Bool.and_eq_true] at h
  exact zip_eq (fun _ _ h => shEq_spec h) h.1 h.2
/-- What a cell holds. -/
def ctOf (hp : Hp) : CV → Sh → Option Ct
  | .val _ (.int k n), .int k' => if k = k' then some (.i n) else none
  | .val _ (.bool b), .bool => some (.b b)
  | .val _ (.string s), .str => some (.s s)
  | .val _ (.slice none 0 0), .sl _ => some (.l [])
  | .ext id, .sl el => (match (hlook hp id).bind HO.ls with
    | some p => bif shEqL p.1 el then some (.l p.2) else none
    | none => none)
  | _, _ => none
def ctsOf (hp : Hp) : List CV → List Sh → Option (List Ct)
  | [], [] => some []
  | c :: cs, s :: sh => (match ctOf hp c s, ctsOf hp cs sh with
    | some a, some l => some (a :: l)
    | _, _ => none)
  | _, _ => none
def rowsOf (hp : Hp) (sh : List Sh) : Nat → List CV → Option (List (List Ct))
  | 0, [] => some []
  | 0, _ :: _ => none
  | m + 1, cs => match ctsOf hp (cs.take sh.length) sh, rowsOf hp sh m (cs.drop sh.length) with
    | some r, some l => some (r :: l)
    | _, _ => none
/-- What cells that are slices hang on. -/
def Nest (hp : Hp) (e : Env) (cs : List CV) (b : Nat) : Prop := ∃ id ∈ cs.flatMap CV.ids, ∃ o, hlook hp id = some o ∧ o.foot e id b
theorem Nest.mono {hp : Hp} {e : Env} {cs cs' : List CV} (h : ∀ c ∈ cs, c ∈ cs') {b : Nat} (hn : Nest hp e cs b) : Nest hp e cs' b := by
  obtain ⟨id, hid, o, h1, h2⟩ := hn
  obtain ⟨c, hc, hi⟩ := List.mem_flatMap.1 hid
  exact ⟨id, List.mem_flatMap.2 ⟨c, h c hc, hi⟩, o, h1, h2⟩
theorem ctOf_ok {hp : Hp} {c : CV} {s : Sh} {ct : Ct} (h : ctOf hp c s = some ct) {e : Env} {w : World} (hsat : Sat e (hlook hp) w) : ∃ d, CtHolds w (Nest hp e [c]) d s ct (c.den e) := by
  unfold ctOf at h
  split at h
  · split at h
    · rename_i hk; cases h; subst hk; exact ⟨0, rfl⟩
    · cases h
  · cases h; exact ⟨0, rfl⟩
  · cases h; exact ⟨0, rfl⟩
  · cases h; exact ⟨1, none, 0, rfl, Nat.le_refl _, by omega, fun _ => rfl, fun i hi => absurd hi (by simp [Ct.rows])⟩
  · rename_i id el
    split at h
    · rename_i p hp'
      cases hb : shEqL p.1 el with
      | false => rw [hb] at h; cases h
      | true =>
        rw [hb] at h
        cases h
        obtain rfl := shEqL_spec hb
        obtain ⟨ob, hob, hls⟩ := Option.bind_eq_some_iff.1 hp'
        have hh := hsat.holds _ _ hob
        obtain ⟨d, hr⟩ := HO.rowsAt hh hls
        refine ⟨d + 1, RowsAt.mono (fun b hb => ⟨⟨id, by simp [CV.ids], ob, hob, hb⟩, rfl⟩) (fun _ _ _ => CtHolds.mono fun b hb => ⟨⟨id, by simp [CV.ids], ob, hob, ?_⟩, rfl⟩) hr⟩
        cases ob with
        | cells _ _ => cases hls
        | grid _ _ => exact hb
        | row _ _ _ => exact .inr hb
        | elem _ _ _ => cases hls
        | gone => cases hls
    · cases h
  · cases h
theorem ctsOf_ok {hp : Hp} {e : Env} {w : World} (hsat : Sat e (hlook hp) w) : ∀ {cs : List CV} {sh : List Sh} {r : List Ct}, ctsOf hp cs sh = some r → cs.length = sh.length ∧ r.length = sh.length ∧ ∃ d, ∀ (j : Nat) s, sh[j]? = some s → ∃ c, cs[j]? = some c ∧ CtHolds w (Nest hp e cs) d s (r.getD j (.i 0)) (c.den e) := by
  intro cs
  induction cs with
  | nil =>
    intro sh r h
    cases sh with
    | nil => cases h; exact ⟨rfl, rfl, 0, fun j s h => by simp at h⟩
    | cons s sh => cases h
  | cons c cs ih =>
    intro sh r h
    cases sh with
    | nil => cases h
    | cons s sh =>
      simp only [ctsOf] at h
      split at h
      · rename_i a l h1 h2
        cases h
        obtain ⟨g1, g2, d, g3⟩ := ih h2
        obtain ⟨d', g4⟩ := ctOf_ok h1 hsat
        refine ⟨by simp [g1], by simp [g2], max d d', fun j s' hs => ?_⟩
        cases j with
        | zero =>
          simp only [List.getElem?_cons_zero, Option.some.injEq] at hs
          subst hs
          exact ⟨c, rfl, (g4.mono fun b hb => ⟨hb.mono (by simp), rfl⟩).deeper (Nat.le_max_right _ _)⟩
        | succ j =>
          obtain ⟨c', hc', hh⟩ := g3 j s' (by simpa using hs)
          exact ⟨c', by simpa using hc', by simpa using (hh.mono fun b hb => ⟨hb.mono fun x hx => List.mem_cons_of_mem _ hx, rfl⟩).deeper (Nat.le_max_left _ _)⟩
      · cases h
theorem rd_cons_zero (r : List Ct) (l : List (List Ct)) (j : Nat) : rd (r :: l) 0 j = r.getD j (.i 0) := rfl
theorem rd_cons_succ (r : List Ct) (l : List (List Ct)) (i j : Nat) : rd (r :: l) (i + 1) j = rd l i j := rfl
theorem rowsOf_ok {hp : Hp} {e : Env} {w : World} (hsat : Sat e (hlook hp) w) {sh : List Sh} : ∀ {m : Nat} {cs : List CV} {l : List (List Ct)}, rowsOf hp sh m cs = some l → cs.length = m * sh.length ∧ l.length = m ∧
    ∃ d, ∀ i, i < m → ∀ (j : Nat) s, sh[j]? = some s → ∃ c, cs[i * sh.length + j]? = some c ∧ CtHolds w (Nest hp e cs) d s (rd l i j) (c.den e) := by
  intro m
  induction m with
  | zero =>
    intro cs l h
    cases cs with
    | nil => cases h; exact ⟨by simp, rfl, 0, fun i hi => by omega⟩
    | cons c cs => cases h
  | succ m ih =>
    intro cs l h
    simp only [rowsOf] at h
    split at h
    · rename_i r l' h1 h2
      cases h
      obtain ⟨g1, g2, d, g3⟩ := ctsOf_ok hsat h1
      obtain ⟨k1, k2, d', k3⟩ := ih h2
      have hlen : cs.length = (m + 1) * sh.length := by
        simp only [List.length_drop, List.length_take] at k1 g1
        rw [Nat.succ_mul]
        omega
      refine ⟨hlen, by simp [k2], max d d', fun i hi j s hs => ?_⟩
      have hj : j < sh.length := by
        rcases Nat.lt_or_ge j sh.length with h | h
        · exact h
        · rw [List.getElem?_eq_none h] at hs; cases hs
      cases i with
      | zero =>
        obtain ⟨c, hc, hh⟩ := g3 j s hs
        rw [List.getElem?_take, if_pos hj] at hc
        exact ⟨c, by simpa using hc, (hh.mono fun b hb => ⟨hb.mono fun x hx => List.mem_of_mem_take hx, rfl⟩).deeper (Nat.le_max_left _ _)⟩
      | succ i =>
        obtain ⟨c, hc, hh⟩ := k3 i (by omega) j s hs
        rw [List.getElem?_drop] at hc
        refine ⟨c, ?_, (hh.mono fun b hb => ⟨hb.mono fun x hx => List.mem_of_mem_drop hx, rfl⟩).deeper (Nat.le_max_right _ _)⟩
        rw [← hc, Nat.succ_mul]
        congr 1
        omega
    · cases h
/-- A cell of a row that names something names a slice of an open length. -/
theorem ctOf_ext {hp : Hp} {c : CV} {s : Sh} {ct : Ct} (h : ctOf hp c s = some ct) : ∀ id ∈ c.ids, ∃ p, (hlook hp id).bind HO.ls = some p := by
  unfold ctOf at h
  split at h
  all_goals first | (intro id hid; simp [CV.ids] at hid; done) | skip
  · intro id hid
    simp only [CV.ids, List.mem_singleton] at hid
    subst hid
    split at h
    · rename_i p hp'; exact ⟨p, hp'⟩
    · cases h
  · cases h
theorem ctsOf_ext {hp : Hp} : ∀ {cs : List CV} {sh : List Sh} {r : List Ct}, ctsOf hp cs sh = some r → ∀ c ∈ cs, ∀ id ∈ c.ids, ∃ p, (hlook hp id).bind HO.ls = some p := by
  intro cs
  induction cs with
  | nil => intro sh r _ c hc; cases hc
  | cons c cs ih =>
    intro sh r h
    cases sh with
    | nil => cases h
    | cons s sh =>
      simp only [ctsOf] at h
      split at h
      · rename_i a l h1 h2
        intro c' hc'
        rcases List.mem_cons.1 hc' with rfl | hc'
        · exact ctOf_ext h1
        · exact ih h2 c' hc'
      · cases h
theorem rowsOf_ext {hp : Hp} {sh : List Sh} : ∀ {m : Nat} {cs : List CV} {l : List (List Ct)}, rowsOf hp sh m cs = some l → ∀ c ∈ cs, ∀ id ∈ c.ids, ∃ p, (hlook hp id).bind HO.ls = some p := by
  intro m
  induction m with
  | zero =>
    intro cs l h
    cases cs with
    | nil => intro c hc; cases hc
    | cons c cs => cases h
  | succ m ih =>
    intro cs l h
    simp only [rowsOf] at h
    split at h
    · rename_i r l' h1 h2
      intro c hc
      rw [← List.take_append_drop sh.length cs] at hc
      rcases List.mem_append.1 hc with hc | hc
      · exact ctsOf_ext h1 c hc
      · exact ih h2 c hc
    · cases h
theorem CtHolds.one {w : World} {φ : Nat → Prop} {d : Nat} {s : Sh} {c : Ct} {v : Value} (h : CtHolds w φ d s c v) : v.oneCell' = true := by
  cases s with
  | int k => have : v = .int k c.int := by cases d <;> exact h
             rw [this]; rfl
  | bool => have : v = .bool c.bool := by cases d <;> exact h
            rw [this]; rfl
  | str => have : v = .string c.str := by cases d <;> exact h
           rw [this]; rfl
  | sl el =>
    cases d with
    | zero => exact False.elim h
    | succ d =>
      have h' : RowsAt w φ (CtHolds w φ d) el c.rows v := h
      obtain ⟨a, cap, hv, _⟩ := h'
      rw [hv]; rfl
theorem rd_append {l1 l2 : List (List Ct)} {i j : Nat} : rd (l1 ++ l2) i j = if i < l1.length then rd l1 i j else rd l2 (i - l1.length) j := by
  unfold rd
  simp only [List.getD_eq_getElem?_getD (l := l1 ++ l2), List.getElem?_append]
  split <;> simp [List.getD_eq_getElem?_getD]
def gones (C : List Nat) : Hp := C.map fun id => (id, .gone)
theorem hlook_gones {C : List Nat} {id : Nat} : hlook (gones C) id = if id ∈ C then some .gone else none := by
  induction C with
  | nil => simp [gones, hlook]
  | cons i C ih =>
    simp only [gones, List.map_cons, hlook]
    cases hb : Nat.beq i id with
    | true => simp [Nat.eq_of_beq_eq_true hb]
    | false =>
      have : id ≠ i := fun h => by rw [h, Nat.beq_refl] at hb; cases hb
      simp only [cond_false]
      have ih' := ih
      unfold gones at ih'
      rw [ih']
      simp [this]
theorem run_append_any {P : Program} {w : World} {t ty e : TypeId} {i : TypeInfo} {z : Value} {size : Nat} (ht : P.underlying t = some (.slice e)) (hi : P.info? e = some i) (hz : i.zero = some z) (hsize : i.size = size) (hzs : z.cells.size = size) (hsz : 0 < size)
    {v : Value} {n : Nat} {xs : List Value} (hown : w.ownsRow 0 e size v n xs) {a : Option Addr} {m c : Nat} {news : List Value} (hl : news.length = m * size) (ha : a = none → m = 0 ∧ c = 0)
    (hnews : ∀ ad, a = some ad → ∀ j u, news[j]? = some u → w.cell? (ad.add j) = some u) (h1 : ∀ u ∈ news, u.oneCell' = true) (h63 : n + m ≤ 9223372036854775807) (hbytes : (n + m) * i.bytes ≤ 140737488355328) :
    ∃ v' w', (Builtin.append_ #[t, t] ty #[v, .slice a m c]).run P w = .ok v' w' ∧ w'.ownsRow 0 e size v' (n + m) (xs ++ news) ∧ w.grownBy w' v.ownBlock ∧ (v'.ownBlock = v.ownBlock ∨ v'.ownBlock = some w.heap.size) := by
  cases a with
  | none =>
    obtain ⟨rfl, rfl⟩ := ha rfl
    have hn : news = [] := List.eq_nil_of_length_eq_zero (by simpa using hl)
    subst hn
    have := run_append_owned_none (P := P) w 0 t ty e i size ht hi v n xs hown
    exact ⟨v, w, this, by simpa using hown, ⟨rfl, rfl, rfl, Nat.le_refl _, fun _ _ _ => rfl⟩, .inl rfl⟩
  | some ad =>
    obtain ⟨v', w', g1, g2, g3, _, g5⟩ := run_append_own_at (P := P) w 0 t ty e i z size i.bytes ht hi hz hsize rfl hzs hsz v n xs hown ad m c news hl (hnews ad rfl) h1 (by simp only [maxLen]; omega) hbytes (Nat.zero_le _)
    exact ⟨v', w', g1, g2, g3, g5⟩
/-- A row that may be laid behind: whose it is, what it holds. -/
structure Tgt (hp : Hp) (e : Env) (w : World) (sh : List Sh) (t : TypeId) (C : List Nat) (v : Value) (l : List (List Ct)) (φ1 : Nat → Prop) : Prop where
  own : ∃ d xs, w.ownsRow 0 t sh.length v l.length xs ∧ ∀ i, i < l.length → ∀ (j : Nat) s, sh[j]? = some s → ∃ u, xs[i * sh.length + j]? = some u ∧ CtHolds w φ1 d s (rd l i j) u
  blk : ∀ b, v.ownBlock = some b → ∃ id0 ∈ C, ∃ o0, hlook hp id0 = some o0 ∧ o0.owns e id0 b
  sl : ∃ a m c, v = .slice a m c
/-- What it hangs on: there, not the row's own block; used up, or read alone. -/
def Fine (hp : Hp) (e : Env) (w : World) (C : List Nat) (v : Value) (φ : Nat → Prop) : Prop :=
  ∀ b, φ b → b < w.heap.size ∧ v.ownBlock ≠ some b ∧ ((∃ id0 ∈ C, ∃ o0, hlook hp id0 = some o0 ∧ o0.owns e id0 b) ∨ ∃ id0 o0, hlook hp id0 = some o0 ∧ o0.foot e id0 b ∧ ¬ o0.owns e id0 b)
structure Srce (w : World) (sh : List Sh) (v : Value) (l : List (List Ct)) (φ2 : Nat → Prop) : Prop where
  own : ∃ d a c, ∃ news : List Value, v = .slice a l.length c ∧ (a = none → l.length = 0 ∧ c = 0) ∧ news.length = l.length * sh.length ∧ (∀ ad, a = some ad → ∀ (j : Nat) u, news[j]? = some u → w.cell? (ad.add j) = some u) ∧
    ∀ i, i < l.length → ∀ (j : Nat) s, sh[j]? = some s → ∃ u, news[i * sh.length + j]? = some u ∧ CtHolds w φ2 d s (rd l i j) u
theorem append_core {P : Program} {hp : Hp} {e : Env} {w : World} {sh : List Sh} {t ty el : TypeId} {i : TypeInfo} {z : Value} {C : List Nat} {nx : Nat} {vx vy : Value} {l1 l2 : List (List Ct)} {φ1 φ2 : Nat → Prop} (hsat : Sat e (hlook hp) w)
    (ht : P.underlying t = some (.slice el)) (hi : P.info? el = some i) (hz : i.zero = some z) (hsize : i.size = sh.length) (hzs : z.cells.size = sh.length) (hsz : 0 < sh.length) (hC : ∀ id ∈ C, id < nx)
    (hx : Tgt hp e w sh el C vx l1 φ1) (hf1 : Fine hp e w C vx φ1) (hy : Srce w sh vy l2 φ2) (hf2 : Fine hp e w C vx φ2)
    (h63 : l1.length + l2.length ≤ 9223372036854775807) (hbytes : (l1.length + l2.length) * i.bytes ≤ 140737488355328) :
    ∃ v' w' e', (Builtin.append_ #[t, t] ty #[vx, vy]).run P w = .ok v' w' ∧ v' = e'.slv nx ∧ PostOp e e' (hlook hp) nx ⟨.sv (.one (.ext nx)), (nx, .row sh el (l1 ++ l2)) :: gones C, nx + 1, C⟩ w w' := by
  obtain ⟨⟨d1, xs, hown, hc1⟩, hblk, _⟩ := hx
  obtain ⟨d2, a, c, news, rfl, ha, hnl, hcell, hc2⟩ := hy.own
  have hcov : ∀ (l : List (List Ct)) (ys : List Value) (φ : Nat → Prop) (d : Nat), ys.length = l.length * sh.length → (∀ i, i < l.length → ∀ (j : Nat) s, sh[j]? = some s → ∃ u, ys[i * sh.length + j]? = some u ∧ CtHolds w φ d s (rd l i j) u) → ∀ u ∈ ys, u.oneCell' = true := by
    intro l ys φ d hl hc u hu
    obtain ⟨q, hq⟩ := List.mem_iff_getElem?.1 hu
    have hlt : q < l.length * sh.length := by
      obtain ⟨h, _⟩ := List.getElem?_eq_some_iff.1 hq
      omega
    have hj : q % sh.length < sh.length := Nat.mod_lt _ hsz
    have hi' : q / sh.length < l.length := Nat.div_lt_of_lt_mul (by rw [Nat.mul_comm]; exact hlt)
    obtain ⟨u', hu', hh⟩ := hc (q / sh.length) hi' (q % sh.length) sh[q % sh.length] (List.getElem?_eq_getElem hj)
    rw [show q / sh.length * sh.length + q % sh.length = q from Nat.div_add_mod' q sh.length, hq] at hu'
    cases hu'
    exact hh.one
  obtain ⟨v', w', g1, g2, g3, g4⟩ := run_append_any (P := P) (ty := ty) ht hi hz hsize hzs hsz hown (a := a) (m := l2.length) (c := c) hnl ha hcell (hcov l2 news φ2 d2 hnl hc2) h63 hbytes
  have hsl : ∃ a' m' c', v' = .slice a' m' c' := by
    rcases g2.2 with ⟨h, _⟩ | ⟨g, cap, cur, h, _⟩
    · exact ⟨_, _, _, h⟩
    · exact ⟨_, _, _, h⟩
  obtain ⟨a', m', c', rfl⟩ := hsl
  have keep : ∀ (φ : Nat → Prop), Fine hp e w C vx φ → ∀ b, φ b → w'.heap[b]? = w.heap[b]? := fun φ hf b hb => g3.block b (hf b hb).1 (fun h => (hf b hb).2.1 h.symm)
  have hne : ∀ (φ : Nat → Prop), Fine hp e w C vx φ → ∀ b, φ b → (Value.slice a' m' c').ownBlock ≠ some b := by
    intro φ hf b hb h
    rcases g4 with g4 | g4
    · rw [g4] at h; exact (hf b hb).2.1 h
    · rw [g4] at h
      cases h
      have := (hf _ hb).1
      omega
  refine ⟨_, w', e.setS nx (a', m', c') (fun b => φ1 b ∨ φ2 b), g1, by rw [Env.setS_slv], ⟨fun id hid => Env.setS_same (by simp only at hid; omega), g3.os, g3.tape, g3.output, g3.size, fun k hk hnn => ?_, ⟨fun id o ho => ?_, fun id o ho id' o' ho' hne' b hb hf => ?_⟩, fun id o b ho hb => ?_, fun id o b ho hb => ?_⟩⟩
  · refine g3.block k hk fun h => ?_
    obtain ⟨id0, h1, o0, h2, h3⟩ := hblk k h.symm
    exact hnn id0 h1 o0 h2 h3
  · simp only [hlook] at ho
    cases hb : Nat.beq nx id with
    | true =>
      rw [hb] at ho
      cases ho
      obtain rfl := Nat.eq_of_beq_eq_true hb
      refine ⟨⟨max d1 d2, xs ++ news, ?_, fun q hq j s hs => ?_⟩, fun b hb' => ?_⟩
      · rw [Env.setS_slv, List.length_append]; exact g2
      · rw [Env.setS_φ, rd_append]
        have hj : j < sh.length := by
          rcases Nat.lt_or_ge j sh.length with h | h
          · exact h
          · rw [List.getElem?_eq_none h] at hs; cases hs
        by_cases hq1 : q < l1.length
        · obtain ⟨u, hu, hh⟩ := hc1 q hq1 j s hs
          refine ⟨u, ?_, ?_⟩
          · obtain ⟨hlt, _⟩ := List.getElem?_eq_some_iff.1 hu
            rw [List.getElem?_append_left hlt]; exact hu
          · rw [if_pos hq1]
            exact (hh.mono fun b hb => ⟨.inl hb, keep φ1 hf1 b hb⟩).deeper (Nat.le_max_left _ _)
        · have hq' : q - l1.length < l2.length := by rw [List.length_append] at hq; omega
          obtain ⟨u, hu, hh⟩ := hc2 (q - l1.length) hq' j s hs
          refine ⟨u, ?_, ?_⟩
          · have hxl := hown.1
            have : l1.length * sh.length ≤ q * sh.length := Nat.mul_le_mul_right _ (by omega)
            rw [List.getElem?_append_right (by omega), hxl, ← hu, Nat.sub_mul]
            congr 1
            omega
          · rw [if_neg hq1]
            exact (hh.mono fun b hb => ⟨.inr hb, keep φ2 hf2 b hb⟩).deeper (Nat.le_max_right _ _)
      · rw [Env.setS_φ] at hb'
        rw [Env.setS_slv]
        rcases hb' with hb' | hb'
        · exact ⟨Nat.lt_of_lt_of_le (hf1 b hb').1 g3.size, hne φ1 hf1 b hb'⟩
        · exact ⟨Nat.lt_of_lt_of_le (hf2 b hb').1 g3.size, hne φ2 hf2 b hb'⟩
    | false =>
      rw [hb] at ho
      simp only [cond_false, hlook_gones] at ho
      split at ho
      · cases ho; trivial
      · cases ho
  · simp only [hlook] at ho ho'
    cases hb1 : Nat.beq nx id with
    | true =>
      cases hb2 : Nat.beq nx id' with
      | true => exact hne' ((Nat.eq_of_beq_eq_true hb1).symm.trans (Nat.eq_of_beq_eq_true hb2))
      | false =>
        rw [hb2] at ho'
        simp only [cond_false, hlook_gones] at ho'
        split at ho'
        · cases ho'; exact hf
        · cases ho'
    | false =>
      rw [hb1] at ho
      simp only [cond_false, hlook_gones] at ho
      split at ho
      · cases ho; exact hb
      · cases ho
  · simp only [hlook] at ho
    cases hb1 : Nat.beq nx id with
    | true =>
      rw [hb1] at ho
      cases ho
      obtain rfl := Nat.eq_of_beq_eq_true hb1
      have hb' : (Env.slv (e.setS nx (a', m', c') fun b => φ1 b ∨ φ2 b) nx).ownBlock = some b := hb
      rw [Env.setS_slv] at hb'
      rcases g4 with g4 | g4
      · rw [g4] at hb'; exact .inr (hblk b hb')
      · rw [g4] at hb'; cases hb'; exact .inl (Nat.le_refl _)
    | false =>
      rw [hb1] at ho
      simp only [cond_false, hlook_gones] at ho
      split at ho
      · cases ho; exact False.elim hb
      · cases ho
  · simp only [hlook] at ho
    cases hb1 : Nat.beq nx id with
    | true =>
      rw [hb1] at ho
      cases ho
      obtain rfl := Nat.eq_of_beq_eq_true hb1
      rcases hb with hb | hb
      · rw [Env.setS_slv] at hb
        rcases g4 with g4 | g4
        · rw [g4] at hb; exact .inr (.inl (hblk b hb))
        · rw [g4] at hb; cases hb; exact .inl (Nat.le_refl _)
      · rw [Env.setS_φ] at hb
        rcases hb with hb | hb
        · exact .inr ((hf1 b hb).2.2)
        · exact .inr ((hf2 b hb).2.2)
    | false =>
      rw [hb1] at ho
      simp only [cond_false, hlook_gones] at ho
      split at ho
      · cases ho; exact False.elim hb
      · cases ho
end Go.Proofs.Ythgneojhhocflaa
