/- Both readers, side by side, in plain numbers. No condition. -/
import Derived.Test.YtcpbiijegbbafaaReelB
import Derived.Test.YtcpbiijegbbafaaReaderB
set_option linter.unusedVariables false
set_option linter.unusedSimpArgs false
namespace Go.Proofs.Ytcpbiijegbbafaa
open Go.RowKit

theorem bif_eq0 {α : Type} {e : Int} {x y : α} : (bif e == 0 then x else y) = if e = 0 then x else y := by
  by_cases h : e = 0
  · subst h; rfl
  · rw [show (e == 0) = false by simpa using h, if_neg h]; rfl
theorem bif_ne0 {α : Type} {e : Int} {x y : α} : (bif e != 0 then x else y) = if e = 0 then y else x := by
  by_cases h : e = 0
  · subst h; rfl
  · rw [show (e != 0) = true by simpa using h, if_neg h]; rfl
theorem mrw_it {B : List (List Ct)} {E : Int} {a n : Nat} (hB : B.length ≤ 1048576) (h : a + n ≤ B.length) : ∀ (d i : Nat) (vl : List (List Ct)), i + d = n → vl.length = i → col vl = ((col B).drop a).take i →
    ∃ c u, iter (mrw_L0_step B (a : Int) E (n : Int)) (d + 1) ((i : Int), vl) = some (c, u) ∧ col u = ((col B).drop a).take n := by
  intro d
  induction d with
  | zero =>
    intro i vl hi hl hc
    obtain rfl : i = n := by omega
    exact ⟨(i : Int), vl, iter_inr (by simp only [mrw_L0_step, Int.lt_irrefl, decide_false, cond_false]), hc⟩
  | succ d ih =>
    intro i vl hi hl hc
    have q : ((i : Int) < (n : Int)) := by omega
    have w : IntKind.i64.wrap ((a : Int) + (i : Int)) = ((a + i : Nat) : Int) := by rw [wrap_in (by omega) (by omega)]; omega
    have w1 : IntKind.i64.wrap ((i : Int) + 1) = ((i + 1 : Nat) : Int) := by rw [wrap_in (by omega) (by omega)]; omega
    have q2 : (0 : Int) ≤ ((a + i : Nat) : Int) ∧ ((a + i : Nat) : Int) < (B.length : Int) := by omega
    have hst : mrw_L0_step B (a : Int) E (n : Int) ((i : Int), vl) = some (.inl (((i + 1 : Nat) : Int), vl ++ [[Ct.i (rd B (a + i) 0).int]])) := by
      simp only [mrw_L0_step, cond_dec q, w, cond_dec q2, w1, Int.toNat_natCast]
      rw [cond_dec]
      simp only [List.length_cons, List.length_nil]; omega
    rw [iter_inl hst]
    refine ih (i + 1) _ (by omega) (by simp [hl]) ?_
    have hil : a + i < (col B).length := by rw [col_length]; omega
    rw [col_app, hc, List.take_add_one, List.getElem?_drop, col_cons, col_nil, rd_col]
    simp [Ct.int, List.getD, hil]
theorem mrw_is {B : List (List Ct)} {At E : Int} {n : Nat} (hB : B.length ≤ 1048576) (hn : n ≤ 1099511627776) :
    (E ≠ 0 → mrw_res B At E (n : Int) = some (At, E, []) ∧ mrw_v B At E (n : Int) = (At, E, [])) ∧
    (E = 0 → ∀ a : Nat, At = a → a ≤ B.length → (B.length < a + n → mrw_res B At E (n : Int) = some ((a : Int), 9, []) ∧ mrw_v B At E (n : Int) = ((a : Int), 9, [])) ∧
      (a + n ≤ B.length → ∃ p, mrw_res B At E (n : Int) = some (((a + n : Nat) : Int), 0, p) ∧ mrw_v B At E (n : Int) = (((a + n : Nat) : Int), 0, p) ∧ col p = ((col B).drop a).take n)) := by
  have hv : ∀ x, mrw_res B At E (n : Int) = some x → mrw_v B At E (n : Int) = x := fun x h => by unfold mrw_v; rw [h]; rfl
  refine ⟨fun he => ?_, fun he a ha hal => ⟨fun hs => ?_, fun hs => ?_⟩⟩
  · have : (E != 0) = true := by simpa using he
    have h : mrw_res B At E (n : Int) = some (At, E, []) := by unfold mrw_res; rw [this]; rfl
    exact ⟨h, hv _ h⟩
  · subst he; subst ha
    have w : IntKind.i64.wrap ((B.length : Int) - (a : Int)) = (B.length : Int) - (a : Int) := wrap_in (by omega) (by omega)
    have q : (B.length : Int) - (a : Int) < (n : Int) := by omega
    have h : mrw_res B (a : Int) 0 (n : Int) = some ((a : Int), 9, []) := by unfold mrw_res; rw [w, cond_dec q]; rfl
    exact ⟨h, hv _ h⟩
  · subst he; subst ha
    have w : IntKind.i64.wrap ((B.length : Int) - (a : Int)) = (B.length : Int) - (a : Int) := wrap_in (by omega) (by omega)
    have q : ¬ (B.length : Int) - (a : Int) < (n : Int) := by omega
    have w1 : IntKind.i64.wrap ((a : Int) + (n : Int)) = ((a + n : Nat) : Int) := by rw [wrap_in (by omega) (by omega)]; omega
    obtain ⟨c, u, h1, h2⟩ := mrw_it (E := 0) hB hs n 0 [] (by omega) rfl rfl
    rw [show ((0 : Nat) : Int) = 0 from rfl] at h1
    have p1 : mrw_L0_p B (a : Int) 0 (n : Int) = true := by unfold mrw_L0_p; rw [Int.toNat_natCast, h1]; rfl
    have p2 : (mrw_L0_v B (a : Int) 0 (n : Int)).2 = u := by unfold mrw_L0_v loopRes; rw [Int.toNat_natCast, h1]; rfl
    have h : mrw_res B (a : Int) 0 (n : Int) = some (((a + n : Nat) : Int), 0, u) := by unfold mrw_res; rw [w, cond_not q, w1, p1, p2]; rfl
    exact ⟨u, h, hv _ h, h2⟩
theorem num_cons_drop {s : List Int} {i : Nat} (h : i < s.length) : num (s.drop i) = s.getD i 0 + 256 * num (s.drop (i + 1)) := by
  rw [List.drop_eq_getElem_cons h]
  simp [num, List.getD, h]
theorem mnu_it {B p : List (List Ct)} {At E x1 : Int} (hp : (mrw_v B At E x1).snd.snd = p) (hB : Byt (col p)) (hl : p.length ≤ 8) : ∀ (d fuel : Nat), d ≤ p.length → d < fuel →
    ∃ c, iter (mnu_L0_step B At E x1) fuel (num ((col p).drop d), (d : Int) - 1) = some (num (col p), c) := by
  intro d
  induction d with
  | zero =>
    intro fuel hd hf
    obtain ⟨fuel, rfl⟩ : ∃ k, fuel = k + 1 := ⟨fuel - 1, by omega⟩
    have q : ¬ (((0 : Nat) : Int) - 1 ≥ 0) := by omega
    exact ⟨((0 : Nat) : Int) - 1, iter_inr (by simp only [mnu_L0_step, hp, cond_not q, List.drop_zero])⟩
  | succ d ih =>
    intro fuel hd hf
    obtain ⟨fuel, rfl⟩ : ∃ k, fuel = k + 1 := ⟨fuel - 1, by omega⟩
    have e : ((d + 1 : Nat) : Int) - 1 = (d : Int) := by omega
    have q : (d : Int) ≥ 0 := by omega
    have q2 : (0 : Int) ≤ (d : Int) ∧ (d : Int) < (p.length : Int) := by omega
    have w : IntKind.i64.wrap ((d : Int) - 1) = (d : Int) - 1 := wrap_in (by omega) (by omega)
    have hdl : d < (col p).length := by rw [col_length]; omega
    have hr := num_range (hB.drop (d + 1))
    have hlen : ((col p).drop (d + 1)).length = p.length - (d + 1) := by simp [col_length]
    rw [hlen] at hr
    have hpow : (256 : Int) ^ (p.length - (d + 1)) ≤ 72057594037927936 := by
      have : (256 : Nat) ^ (p.length - (d + 1)) ≤ 256 ^ 7 := Nat.pow_le_pow_right (by omega) (by omega)
      have h2 : (((256 : Nat) ^ (p.length - (d + 1)) : Nat) : Int) ≤ ((256 ^ 7 : Nat) : Int) := by omega
      rw [Int.natCast_pow] at h2
      exact h2
    have hx := hB ((col p).getD d 0) (by simp [List.getD, hdl])
    have hst : mnu_L0_step B At E x1 (num ((col p).drop (d + 1)), ((d + 1 : Nat) : Int) - 1) = some (.inl (num ((col p).drop d), (d : Int) - 1)) := by
      simp only [mnu_L0_step, hp, e, cond_dec q, cond_dec q2, w, Int.toNat_natCast, rd_col]
      rw [u64_in (x := num ((col p).drop (d + 1)) * 256) (by omega) (by omega), u64_in (x := (col p).getD d 0) (by omega) (by omega), u64_in (by omega) (by omega), num_cons_drop hdl]
      rw [show num ((col p).drop (d + 1)) * 256 + (col p).getD d 0 = (col p).getD d 0 + 256 * num ((col p).drop (d + 1)) by omega]
    rw [iter_inl hst]
    exact ih fuel (by omega) (by omega)
theorem mnu_is {B p : List (List Ct)} {At E x1 : Int} {At' E' : Int} (h1 : mrw_res B At E x1 = some (At', E', p)) (h2 : mrw_v B At E x1 = (At', E', p)) (hB : Byt (col p)) (hl : p.length ≤ 8) : mnu_res B At E x1 = some (num (col p), At', E') ∧ mnu_v B At E x1 = (num (col p), At', E') := by
  obtain ⟨c, hc⟩ := mnu_it (p := p) (by rw [h2]) hB hl p.length 1000 (Nat.le_refl _) (by omega)
  have e : num ((col p).drop p.length) = 0 := by rw [List.drop_eq_nil_of_le (by rw [col_length]; omega)]; rfl
  have w : IntKind.i64.wrap ((p.length : Int) - 1) = (p.length : Int) - 1 := wrap_in (by omega) (by omega)
  rw [e] at hc
  have q1 : mnu_L0_p B At E x1 = true := by unfold mnu_L0_p; rw [h2]; simp only [w]; rw [hc]; rfl
  have q2 : (mnu_L0_v B At E x1).1 = num (col p) := by unfold mnu_L0_v loopRes; rw [h2]; simp only [w]; rw [hc]; rfl
  have h : mnu_res B At E x1 = some (num (col p), At', E') := by unfold mnu_res; rw [h1, h2, q1, q2]; rfl
  exact ⟨h, by unfold mnu_v; rw [h]; rfl⟩

/-- Both readers stand alike. -/
structure Like (B b : List (List Ct)) (e At E : Int) : Prop where
  e : e = E
  ok : E = 0 → ∃ a : Nat, At = a ∧ a ≤ B.length ∧ col b = (col B).drop a
  bad : E ≠ 0 → b = []
theorem take_like {B b : List (List Ct)} {e At E : Int} (hl : B.length ≤ 1048576) (h : Like B b e At E) {n : Nat} (hn : n ≤ 1099511627776) :
    ∃ e' b' p At' E' q, (rtk_res b e (n : Int) = some (e', b', p) ∧ rtk_v b e (n : Int) = (e', b', p)) ∧ (mrw_res B At E (n : Int) = some (At', E', q) ∧ mrw_v B At E (n : Int) = (At', E', q)) ∧ col p = col q ∧ (col p = [] ∨ ∃ a, col p = ((col B).drop a).take n ∧ p.length = n) ∧ Like B b' e' At' E' := by
  obtain ⟨rfl, hok, hbad⟩ := h
  obtain ⟨m1, m2⟩ := mrw_is (At := At) (E := e) hl hn
  have ht := rtk_is (b := b) (e := e) (n := n)
  have hv : ∀ x, rtk_res b e (n : Int) = some x → rtk_v b e (n : Int) = x := fun x h => by unfold rtk_v; rw [h]; rfl
  by_cases he : e = 0
  · subst he
    obtain ⟨a, rfl, hal, hc⟩ := hok rfl
    rw [if_neg (by simp)] at ht
    have hbl : b.length = B.length - a := by rw [← col_length, hc, List.length_drop, col_length]
    obtain ⟨k1, k2⟩ := m2 rfl a rfl hal
    by_cases hs : b.length < n
    · rw [if_pos hs] at ht
      refine ⟨9, [], [], (a : Int), 9, [], ⟨ht, hv _ ht⟩, k1 (by omega), rfl, .inl rfl, ⟨rfl, fun h => (by cases h), fun _ => rfl⟩⟩
    · rw [if_neg hs] at ht
      obtain ⟨q, g1, g2, g3⟩ := k2 (by omega)
      have hpl : (partOf b (0 : Int) (n : Int)).length = n := by have := part_length (l := b) (a := 0) (b := n) (by omega); simpa using this
      refine ⟨0, _, _, _, 0, q, ⟨ht, hv _ ht⟩, ⟨g1, g2⟩, by rw [part_all, hc, g3], .inr ⟨a, by rw [part_all, hc], hpl⟩, ⟨rfl, fun _ => ⟨a + n, rfl, by omega, ?_⟩, fun h => absurd rfl h⟩⟩
      rw [part_rest, hc, List.drop_drop]
  · rw [if_pos he] at ht
    exact ⟨e, b, [], At, e, [], ⟨ht, hv _ ht⟩, m1 he, rfl, .inl rfl, ⟨rfl, fun h => absurd h he, hbad⟩⟩
theorem raw_like {B b : List (List Ct)} {e At E : Int} (hB : Byt (col B)) (hl : B.length ≤ 1048576) (h : Like B b e At E) {n : Nat} (hn : n ≤ 8) :
    ∃ v e' b' At' E', (rrw_res b e (n : Int) = some (v, e', b') ∧ rrw_v b e (n : Int) = (v, e', b')) ∧ (mnu_res B At E (n : Int) = some (v, At', E') ∧ mnu_v B At E (n : Int) = (v, At', E')) ∧ (0 ≤ v ∧ v < (256 : Int) ^ n) ∧ Like B b' e' At' E' := by
  have hBb : Byt (col b) := by
    by_cases hE : E = 0
    · obtain ⟨a, _, _, hc⟩ := h.ok hE; rw [hc]; exact hB.drop a
    · rw [h.bad hE]; intro y hy; cases hy
  obtain ⟨e', b', p, At', E', q, ⟨t1, t2⟩, ⟨m1, m2⟩, hpq, hp, hL⟩ := take_like hl h (n := n) (by omega)
  have hBp : Byt (col p) := by
    rcases hp with hp | ⟨a, hp, _⟩
    · rw [hp]; intro y hy; cases hy
    · rw [hp]; exact (hB.drop a).take n
  have hpl : p.length ≤ n := by
    rcases hp with hp | ⟨a, _, hp⟩
    · rw [← col_length, hp]; simp
    · omega
  have hql : q.length = p.length := by rw [← col_length, ← hpq, col_length]
  obtain ⟨k1, k2⟩ := mnu_is m1 m2 (by rw [← hpq]; exact hBp) (by omega)
  rw [← hpq] at k1 k2
  have hr := num_range hBp
  have hit := rrw_it (b := b) (e := e) (x1 := (n : Int)) (p := p) (by rw [t2]) hBp (by omega) p.length 0 1000 (by omega) (by omega)
  rw [show num ((col p).take 0) = 0 from rfl, show ((0 : Nat) : Int) = 0 from rfl] at hit
  have p1 : rrw_L0_p b e (n : Int) = true := by unfold rrw_L0_p; rw [hit]; rfl
  have p2 : (rrw_L0_v b e (n : Int)).1 = num (col p) := by unfold rrw_L0_v loopRes; rw [hit]; rfl
  have hrr : rrw_res b e (n : Int) = some (num (col p), e', b') := by unfold rrw_res; rw [t1, t2, p1, p2]; rfl
  refine ⟨num (col p), e', b', At', E', ⟨hrr, by unfold rrw_v; rw [hrr]; rfl⟩, ⟨k1, k2⟩, ⟨hr.1, ?_⟩, hL⟩
  refine Int.lt_of_lt_of_le hr.2 ?_
  rw [col_length]
  have : (256 : Nat) ^ p.length ≤ 256 ^ n := Nat.pow_le_pow_right (by omega) hpl
  have h2 : (((256 : Nat) ^ p.length : Nat) : Int) ≤ (((256 : Nat) ^ n : Nat) : Int) := by omega
  rw [Int.natCast_pow, Int.natCast_pow] at h2
  exact h2
theorem fix_like {B b : List (List Ct)} {e At E : Int} (hB : Byt (col B)) (hl : B.length ≤ 1048576) (h : Like B b e At E) :
    ∃ v e' b' At' E', (rfx_res b e = some (v, e', b') ∧ rfx_v b e = (v, e', b')) ∧ (mfx_res B At E = some (v, At', E') ∧ mfx_v B At E = (v, At', E')) ∧ Like B b' e' At' E' := by
  obtain ⟨v, e', b', At', E', ⟨r1, r2⟩, ⟨m1, m2⟩, hv, hL⟩ := raw_like hB hl h (n := 5) (by omega)
  rw [show ((5 : Nat) : Int) = 5 from rfl] at r1 r2 m1 m2
  rw [show (256 : Int) ^ 5 = 1099511627776 from rfl] at hv
  obtain ⟨he, hok, hbad⟩ := hL
  subst he
  have hV : ∀ x, rfx_res b e = some x → rfx_v b e = x := fun x h => by unfold rfx_v; rw [h]; rfl
  have hM : ∀ x, mfx_res B At E = some x → mfx_v B At E = x := fun x h => by unfold mfx_v; rw [h]; rfl
  have w : IntKind.i64.wrap v = v := wrap_in (by omega) (by omega)
  have w2 : IntKind.i64.wrap (v - 1099511627776) = v - 1099511627776 := wrap_in (by omega) (by omega)
  -- the number, its sign drawn out
  generalize hs : (if v ≥ 549755813888 then v - 1099511627776 else v) = s
  have hsx : (IntKind.i64.wrap (IntKind.u64.wrap (v * (2 : Int) ^ min (Int.toNat (24 : Int)) IntKind.u64.bits))).fdiv ((2 : Int) ^ min (Int.toNat (24 : Int)) IntKind.i64.bits) = s := by
    rw [show (2 : Int) ^ min (Int.toNat (24 : Int)) IntKind.u64.bits = 16777216 from rfl, show (2 : Int) ^ min (Int.toNat (24 : Int)) IntKind.i64.bits = 16777216 from rfl]
    rw [u64_in (by omega) (by omega), Int.fdiv_eq_ediv_of_nonneg _ (by omega), wrap_eq, ← hs]
    unfold RowKit.wrap64
    split <;> omega
  have hm : mfx_res B At E = (if s > 2147483648 ∨ s < -2147483648 then some (0, At', if e' = 0 then 33 else e') else some (s, At', e')) := by
    unfold mfx_res
    simp only [m1, m2, w, w2, Option.isSome_some, cond_true]
    by_cases hg : v ≥ 549755813888
    · rw [if_pos hg] at hs
      subst hs
      rw [cond_dec hg]
      by_cases h1 : v - 1099511627776 > 2147483648
      · rw [cond_dec h1, if_pos (.inl h1)]; by_cases h0 : e' = 0 <;> simp [h0, bif_eq0]
      · rw [cond_not h1]
        by_cases h2 : v - 1099511627776 < -2147483648
        · rw [cond_dec h2, if_pos (.inr h2)]; by_cases h0 : e' = 0 <;> simp [h0, bif_eq0]
        · rw [cond_not h2, if_neg (by omega)]
    · rw [if_neg hg] at hs
      subst hs
      rw [cond_not hg]
      by_cases h1 : v > 2147483648
      · rw [cond_dec h1, if_pos (.inl h1)]; by_cases h0 : e' = 0 <;> simp [h0, bif_eq0]
      · rw [cond_not h1]
        by_cases h2 : v < -2147483648
        · rw [cond_dec h2, if_pos (.inr h2)]; by_cases h0 : e' = 0 <;> simp [h0, bif_eq0]
        · rw [cond_not h2, if_neg (by omega)]
  have hr : rfx_res b e = (if s > 2147483648 ∨ s < -2147483648 then some (0, if e' = 0 then 33 else e', if e' = 0 then [] else b') else some (s, e', b')) := by
    unfold rfx_res
    simp only [r1, r2, hsx, Option.isSome_some, cond_true]
    by_cases h1 : s > 2147483648
    · rw [cond_dec h1, if_pos (.inl h1)]; by_cases h0 : e' = 0 <;> simp [h0, bif_eq0]
    · rw [cond_not h1]
      by_cases h2 : s < -2147483648
      · rw [cond_dec h2, if_pos (.inr h2)]; by_cases h0 : e' = 0 <;> simp [h0, bif_eq0]
      · rw [cond_not h2, if_neg (by omega)]
  by_cases hbig : s > 2147483648 ∨ s < -2147483648
  · rw [if_pos hbig] at hm hr
    by_cases h0 : e' = 0
    · rw [if_pos h0] at hm
      rw [if_pos h0, if_pos h0] at hr
      exact ⟨0, 33, [], At', 33, ⟨hr, hV _ hr⟩, ⟨hm, hM _ hm⟩, ⟨rfl, fun h => (by cases h), fun _ => rfl⟩⟩
    · rw [if_neg h0] at hm
      rw [if_neg h0, if_neg h0] at hr
      exact ⟨0, e', b', At', e', ⟨hr, hV _ hr⟩, ⟨hm, hM _ hm⟩, ⟨rfl, fun h => absurd h h0, hbad⟩⟩
  · rw [if_neg hbig] at hm hr
    exact ⟨s, e', b', At', e', ⟨hr, hV _ hr⟩, ⟨hm, hM _ hm⟩, ⟨rfl, hok, hbad⟩⟩
theorem vec_like {B b : List (List Ct)} {e At E : Int} (hB : Byt (col B)) (hl : B.length ≤ 1048576) (h : Like B b e At E) :
    ∃ x y z e' b' At' E', (rvc_res b e = some (e', x, y, z, b') ∧ rvc_v b e = (e', x, y, z, b')) ∧ (rhu_res b e = some (e', x, y, z, b') ∧ rhu_v b e = (e', x, y, z, b')) ∧ (mvc_res B At E = some (At', E', x, y, z) ∧ mvc_v B At E = (At', E', x, y, z)) ∧ Like B b' e' At' E' := by
  obtain ⟨v1, e1, b1, A1, E1, ⟨r1, r1'⟩, ⟨m1, m1'⟩, L1⟩ := fix_like hB hl h
  obtain ⟨v2, e2, b2, A2, E2, ⟨r2, r2'⟩, ⟨m2, m2'⟩, L2⟩ := fix_like hB hl L1
  obtain ⟨v3, e3, b3, A3, E3, ⟨r3, r3'⟩, ⟨m3, m3'⟩, L3⟩ := fix_like hB hl L2
  obtain ⟨he, hok, hbad⟩ := L3
  subst he
  have hr : rvc_res b e = some (e3, if e3 = 0 then v1 else 0, if e3 = 0 then v2 else 0, if e3 = 0 then v3 else 0, b3) := by
    unfold rvc_res
    simp only [r1, r1', r2, r2', r3, r3', Option.isSome_some, cond_true]
    by_cases h0 : e3 = 0 <;> simp [h0, bif_ne0]
  have hu : rhu_res b e = some (e3, if e3 = 0 then v1 else 0, if e3 = 0 then v2 else 0, if e3 = 0 then v3 else 0, b3) := by
    unfold rhu_res
    simp only [r1, r1', r2, r2', r3, r3', Option.isSome_some, cond_true]
    by_cases h0 : e3 = 0 <;> simp [h0, bif_ne0]
  have hm : mvc_res B At E = some (A3, e3, if e3 = 0 then v1 else 0, if e3 = 0 then v2 else 0, if e3 = 0 then v3 else 0) := by
    unfold mvc_res
    simp only [m1, m1', m2, m2', m3, m3', Option.isSome_some, cond_true]
    by_cases h0 : e3 = 0 <;> simp [h0, bif_ne0]
  exact ⟨_, _, _, e3, b3, A3, e3, ⟨hr, by unfold rvc_v; rw [hr]; rfl⟩, ⟨hu, by unfold rhu_v; rw [hu]; rfl⟩, ⟨hm, by unfold mvc_v; rw [hm]; rfl⟩, ⟨rfl, hok, hbad⟩⟩
theorem small_like {B b : List (List Ct)} {e At E : Int} (hB : Byt (col B)) (hl : B.length ≤ 1048576) (h : Like B b e At E) :
    ∃ v e' b' At' E', (rsl_res b e = some (v, e', b') ∧ rsl_v b e = (v, e', b')) ∧ (msl_res B At E = some (v, At', E') ∧ msl_v B At E = (v, At', E')) ∧ Like B b' e' At' E' := by
  obtain ⟨v, e', b', At', E', ⟨r1, r2⟩, ⟨m1, m2⟩, hv, hL⟩ := raw_like hB hl h (n := 2) (by omega)
  rw [show ((2 : Nat) : Int) = 2 from rfl] at r1 r2 m1 m2
  rw [show (256 : Int) ^ 2 = 65536 from rfl] at hv
  have w : IntKind.i64.wrap v = v := wrap_in (by omega) (by omega)
  have w2 : IntKind.i64.wrap (v - 65536) = v - 65536 := wrap_in (by omega) (by omega)
  have hi : IntKind.i16.wrap v = if v ≥ 32768 then v - 65536 else v := by
    simp only [IntKind.wrap, IntKind.bits, IntKind.signed, Bool.true_and]
    split <;> rename_i h1 <;> simp at h1 <;> split <;> omega
  have w3 : IntKind.i64.wrap (if v ≥ 32768 then v - 65536 else v) = if v ≥ 32768 then v - 65536 else v := by split <;> exact wrap_in (by omega) (by omega)
  have hr : rsl_res b e = some (if v ≥ 32768 then v - 65536 else v, e', b') := by unfold rsl_res; rw [r1, r2, hi, w3]; rfl
  have hm : msl_res B At E = some (if v ≥ 32768 then v - 65536 else v, At', E') := by
    unfold msl_res
    simp only [m1, m2, w, w2, Option.isSome_some, cond_true]
    by_cases h1 : v ≥ 32768
    · rw [cond_dec h1, if_pos h1]
    · rw [cond_not h1, if_neg h1]
  exact ⟨_, e', b', At', E', ⟨hr, by unfold rsl_v; rw [hr]; rfl⟩, ⟨hm, by unfold msl_v; rw [hm]; rfl⟩, hL⟩
end Go.Proofs.Ytcpbiijegbbafaa
