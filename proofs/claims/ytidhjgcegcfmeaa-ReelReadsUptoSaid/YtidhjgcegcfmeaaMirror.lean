/- Both readers, side by side, in plain numbers. No condition. -/
import Derived.Test.YtidhjgcegcfmeaaEngReelA
import Derived.Test.YtidhjgcegcfmeaaReader
set_option linter.unusedVariables false
set_option linter.unusedSimpArgs false
namespace Go.Proofs.Ytidhjgcegcfmeaa
open Go.RowKit

theorem bif_eq0 {α : Type} {e : Int} {x y : α} : (bif e == 0 then x else y) = if e = 0 then x else y := by
  by_cases h : e = 0
  · subst h; rfl
  · rw [show (e == 0) = false by simpa using h, if_neg h]; rfl
theorem bif_ne0 {α : Type} {e : Int} {x y : α} : (bif e != 0 then x else y) = if e = 0 then y else x := by
  by_cases h : e = 0
  · subst h; rfl
  · rw [show (e != 0) = true by simpa using h, if_neg h]; rfl
theorem mrw_it {B : List (List Ct)} {E : Int} {a n : Nat} (hB : B.length ≤ 1048576) (h : a + n ≤ B.length) : ∀ (d i : Nat) (vl : List (List Ct)), i + d = n → vl.length = i → col vl = ((col B).drop a).take i →
    ∃ c u, iter (mrw_L0_step B (a : Int) E (n : Int)) (d + 1) ((i : Int), vl) = some (c, u) ∧ col u = ((col B).drop a).take n := by
  intro d
  induction d with
  | zero =>
    intro i vl hi hl hc
    obtain rfl : i = n := by omega
    exact ⟨(i : Int), vl, iter_inr (by simp only [mrw_L0_step, Int.lt_irrefl, decide_false, cond_false]), hc⟩
  | succ d ih =>
    intro i vl hi hl hc
    have q : ((i : Int) < (n : Int)) := by omega
    have w : IntKind.i64.wrap ((a : Int) + (i : Int)) = ((a + i : Nat) : Int) := by rw [wrap_in (by omega) (by omega)]; omega
    have w1 : IntKind.i64.wrap ((i : Int) + 1) = ((i + 1 : Nat) : Int) := by rw [wrap_in (by omega) (by omega)]; omega
    have q2 : (0 : Int) ≤ ((a + i : Nat) : Int) ∧ ((a + i : Nat) : Int) < (B.length : Int) := by omega
    have hst : mrw_L0_step B (a : Int) E (n : Int) ((i : Int), vl) = some (.inl (((i + 1 : Nat) : Int), vl ++ [[Ct.i (rd B (a + i) 0).int]])) := by
      simp only [mrw_L0_step, cond_dec q, w, cond_dec q2, w1, Int.toNat_natCast]
      rw [cond_dec]
      simp only [List.length_cons, List.length_nil]; omega
    rw [iter_inl hst]
    refine ih (i + 1) _ (by omega) (by simp [hl]) ?_
    have hil : a + i < (col B).length := by rw [col_length]; omega
    rw [col_app, hc, List.take_add_one, List.getElem?_drop, col_cons, col_nil, rd_col]
    simp [Ct.int, List.getD, hil]
theorem mrw_is {B : List (List Ct)} {At E : Int} {n : Nat} (hB : B.length ≤ 1048576) (hn : n ≤ 1099511627776) :
    (E ≠ 0 → mrw_res B At E (n : Int) = some (At, E, []) ∧ mrw_v B At E (n : Int) = (At, E, [])) ∧
    (E = 0 → ∀ a : Nat, At = a → a ≤ B.length → (B.length < a + n → mrw_res B At E (n : Int) = some ((a : Int), 9, []) ∧ mrw_v B At E (n : Int) = ((a : Int), 9, [])) ∧
      (a + n ≤ B.length → ∃ p, mrw_res B At E (n : Int) = some (((a + n : Nat) : Int), 0, p) ∧ mrw_v B At E (n : Int) = (((a + n : Nat) : Int), 0, p) ∧ col p = ((col B).drop a).take n)) := by
  have hv : ∀ x, mrw_res B At E (n : Int) = some x → mrw_v B At E (n : Int) = x := fun x h => by unfold mrw_v; rw [h]; rfl
  refine ⟨fun he => ?_, fun he a ha hal => ⟨fun hs => ?_, fun hs => ?_⟩⟩
  · have : (E != 0) = true := by simpa using he
    have h : mrw_res B At E (n : Int) = some (At, E, []) := by unfold mrw_res; rw [this]; rfl
    exact ⟨h, hv _ h⟩
  · subst he; subst ha
    have w : IntKind.i64.wrap ((B.length : Int) - (a : Int)) = (B.length : Int) - (a : Int) := wrap_in (by omega) (by omega)
    have q : (B.length : Int) - (a : Int) < (n : Int) := by omega
    have h : mrw_res B (a : Int) 0 (n : Int) = some ((a : Int), 9, []) := by unfold mrw_res; rw [w, cond_dec q]; rfl
    exact ⟨h, hv _ h⟩
  · subst he; subst ha
    have w : IntKind.i64.wrap ((B.length : Int) - (a : Int)) = (B.length : Int) - (a : Int) := wrap_in (by omega) (by omega)
    have q : ¬ (B.length : Int) - (a : Int) < (n : Int) := by omega
    have w1 : IntKind.i64.wrap ((a : Int) + (n : Int)) = ((a + n : Nat) : Int) := by rw [wrap_in (by omega) (by omega)]; omega
    obtain ⟨c, u, h1, h2⟩ := mrw_it (E := 0) hB hs n 0 [] (by omega) rfl rfl
    rw [show ((0 : Nat) : Int) = 0 from rfl] at h1
    have p1 : mrw_L0_p B (a : Int) 0 (n : Int) = true := by unfold mrw_L0_p; rw [Int.toNat_natCast, h1]; rfl
    have p2 : (mrw_L0_v B (a : Int) 0 (n : Int)).2 = u := by unfold mrw_L0_v loopRes; rw [Int.toNat_natCast, h1]; rfl
    have h : mrw_res B (a : Int) 0 (n : Int) = some (((a + n : Nat) : Int), 0, u) := by unfold mrw_res; rw [w, cond_not q, w1, p1, p2]; rfl
    exact ⟨u, h, hv _ h, h2⟩
theorem num_cons_drop {s : List Int} {i : Nat} (h : i < s.length) : num (s.drop i) = s.getD i 0 + 256 * num (s.drop (i + 1)) := by
  rw [List.drop_eq_getElem_cons h]
  simp [num, List.getD, h]
theorem mnu_it {B p : List (List Ct)} {At E x1 : Int} (hp : (mrw_v B At E x1).snd.snd = p) (hB : Byt (col p)) (hl : p.length ≤ 8) : ∀ (d fuel : Nat), d ≤ p.length → d < fuel →
    ∃ c, iter (mnu_L0_step B At E x1) fuel (num ((col p).drop d), (d : Int) - 1) = some (num (col p), c) := by
  intro d
  induction d with
  | zero =>
    intro fuel hd hf
    obtain ⟨fuel, rfl⟩ : ∃ k, fuel = k + 1 := ⟨fuel - 1, by omega⟩
    have q : ¬ (((0 : Nat) : Int) - 1 ≥ 0) := by omega
    exact ⟨((0 : Nat) : Int) - 1, iter_inr (by simp only [mnu_L0_step, hp, cond_not q, List.drop_zero])⟩
  | succ d ih =>
    intro fuel hd hf
    obtain ⟨fuel, rfl⟩ : ∃ k, fuel = k + 1 := ⟨fuel - 1, by omega⟩
    have e : ((d + 1 : Nat) : Int) - 1 = (d : Int) := by omega
    have q : (d : Int) ≥ 0 := by omega
    have q2 : (0 : Int) ≤ (d : Int) ∧ (d : Int) < (p.length : Int) := by omega
    have w : IntKind.i64.wrap ((d : Int) - 1) = (d : Int) - 1 := wrap_in (by omega) (by omega)
    have hdl : d < (col p).length := by rw [col_length]; omega
    have hr := num_range (hB.drop (d + 1))
    have hlen : ((col p).drop (d + 1)).length = p.length - (d + 1) := by simp [col_length]
    rw [hlen] at hr
    have hpow : (256 : Int) ^ (p.length - (d + 1)) ≤ 72057594037927936 := by
      have : (256 : Nat) ^ (p.length - (d + 1)) ≤ 256 ^ 7 := Nat.pow_le_pow_right (by omega) (by omega)
      have h2 : (((256 : Nat) ^ (p.length - (d + 1)) : Nat) : Int) ≤ ((256 ^ 7 : Nat) : Int) := by omega
      rw [Int.natCast_pow] at h2
      exact h2
    have hx := hB ((col p).getD d 0) (by simp [List.getD, hdl])
    have hst : mnu_L0_step B At E x1 (num ((col p).drop (d + 1)), ((d + 1 : Nat) : Int) - 1) = some (.inl (num ((col p).drop d), (d : Int) - 1)) := by
      simp only [mnu_L0_step, hp, e, cond_dec q, cond_dec q2, w, Int.toNat_natCast, rd_col]
      rw [u64_in (x := num ((col p).drop (d + 1)) * 256) (by omega) (by omega), u64_in (x := (col p).getD d 0) (by omega) (by omega), u64_in (by omega) (by omega), num_cons_drop hdl]
      rw [show num ((col p).drop (d + 1)) * 256 + (col p).getD d 0 = (col p).getD d 0 + 256 * num ((col p).drop (d + 1)) by omega]
    rw [iter_inl hst]
    exact ih fuel (by omega) (by omega)
theorem mnu_is {B p : List (List Ct)} {At E x1 : Int} {At' E' : Int} (h1 : mrw_res B At E x1 = some (At', E', p)) (h2 : mrw_v B At E x1 = (At', E', p)) (hB : Byt (col p)) (hl : p.length ≤ 8) : mnu_res B At E x1 = some (num (col p), At', E') ∧ mnu_v B At E x1 = (num (col p), At', E') := by
  obtain ⟨c, hc⟩ := mnu_it (p := p) (by rw [h2]) hB hl p.length 1000 (Nat.le_refl _) (by omega)
  have e : num ((col p).drop p.length) = 0 := by rw [List.drop_eq_nil_of_le (by rw [col_length]; omega)]; rfl
  have w : IntKind.i64.wrap ((p.length : Int) - 1) = (p.length : Int) - 1 := wrap_in (by omega) (by omega)
  rw [e] at hc
  have q1 : mnu_L0_p B At E x1 = true := by unfold mnu_L0_p; rw [h2]; simp only [w]; rw [hc]; rfl
  have q2 : (mnu_L0_v B At E x1).1 = num (col p) := by unfold mnu_L0_v loopRes; rw [h2]; simp only [w]; rw [hc]; rfl
  have h : mnu_res B At E x1 = some (num (col p), At', E') := by unfold mnu_res; rw [h1, h2, q1, q2]; rfl
  exact ⟨h, by unfold mnu_v; rw [h]; rfl⟩

/-- Both readers stand alike. -/
structure Like (B b : List (List Ct)) (e At E : Int) : Prop where
  e : e = E
  ok : E = 0 → ∃ a : Nat, At = a ∧ a ≤ B.length ∧ col b = (col B).drop a
  bad : E ≠ 0 → b = []
theorem take_like {B b : List (List Ct)} {e At E : Int} (hl : B.length ≤ 1048576) (h : Like B b e At E) {n : Nat} (hn : n ≤ 1099511627776) :
    ∃ e' b' p At' E' q, (rtk_res b e (n : Int) = some (e', b', p) ∧ rtk_v b e (n : Int) = (e', b', p)) ∧ (mrw_res B At E (n : Int) = some (At', E', q) ∧ mrw_v B At E (n : Int) = (At', E', q)) ∧ col p = col q ∧ (col p = [] ∨ ∃ a, col p = ((col B).drop a).take n ∧ p.length = n) ∧ Like B b' e' At' E' := by
  obtain ⟨rfl, hok, hbad⟩ := h
  obtain ⟨m1, m2⟩ := mrw_is (At := At) (E := e) hl hn
  have ht := rtk_is (b := b) (e := e) (n := n)
  have hv : ∀ x, rtk_res b e (n : Int) = some x → rtk_v b e (n : Int) = x := fun x h => by unfold rtk_v; rw [h]; rfl
  by_cases he : e = 0
  · subst he
    obtain ⟨a, rfl, hal, hc⟩ := hok rfl
    rw [if_neg (by simp)] at ht
    have hbl : b.length = B.length - a := by rw [← col_length, hc, List.length_drop, col_length]
    obtain ⟨k1, k2⟩ := m2 rfl a rfl hal
    by_cases hs : b.length < n
    · rw [if_pos hs] at ht
      refine ⟨9, [], [], (a : Int), 9, [], ⟨ht, hv _ ht⟩, k1 (by omega), rfl, .inl rfl, ⟨rfl, fun h => (by cases h), fun _ => rfl⟩⟩
    · rw [if_neg hs] at ht
      obtain ⟨q, g1, g2, g3⟩ := k2 (by omega)
      have hpl : (partOf b (0 : Int) (n : Int)).length = n := by have := part_length (l := b) (a := 0) (b := n) (by omega); simpa using this
      refine ⟨0, _, _, _, 0, q, ⟨ht, hv _ ht⟩, ⟨g1, g2⟩, by rw [part_all, hc, g3], .inr ⟨a, by rw [part_all, hc], hpl⟩, ⟨rfl, fun _ => ⟨a + n, rfl, by omega, ?_⟩, fun h => absurd rfl h⟩⟩
      rw [part_rest, hc, List.drop_drop]
  · rw [if_pos he] at ht
    exact ⟨e, b, [], At, e, [], ⟨ht, hv _ ht⟩, m1 he, rfl, .inl rfl, ⟨rfl, fun h => absurd h he, hbad⟩⟩
theorem raw_like {B b : List (List Ct)} {e At E : Int} (hB : Byt (col B)) (hl : B.length ≤ 1048576) (h : Like B b e At E) {n : Nat} (hn : n ≤ 8) :
    ∃ v e' b' At' E', (rrw_res b e (n : Int) = some (v, e', b') ∧ rrw_v b e (n : Int) = (v, e', b')) ∧ (mnu_res B At E (n : Int) = some (v, At', E') ∧ mnu_v B At E (n : Int) = (v, At', E')) ∧ (0 ≤ v ∧ v < (256 : Int) ^ n) ∧ Like B b' e' At' E' := by
  have hBb : Byt (col b) := by
    by_cases hE : E = 0
    · obtain ⟨a, _, _, hc⟩ := h.ok hE; rw [hc]; exact hB.drop a
    · rw [h.bad hE]; intro y hy; cases hy
  obtain ⟨e', b', p, At', E', q, ⟨t1, t2⟩, ⟨m1, m2⟩, hpq, hp, hL⟩ := take_like hl h (n := n) (by omega)
  have hBp : Byt (col p) := by
    rcases hp with hp | ⟨a, hp, _⟩
    · rw [hp]; intro y hy; cases hy
    · rw [hp]; exact (hB.drop a).take n
  have hpl : p.length ≤ n := by
    rcases hp with hp | ⟨a, _, hp⟩
    · rw [← col_length, hp]; simp
    · omega
  have hql : q.length = p.length := by rw [← col_length, ← hpq, col_length]
  obtain ⟨k1, k2⟩ := mnu_is m1 m2 (by rw [← hpq]; exact hBp) (by omega)
  rw [← hpq] at k1 k2
  have hr := num_range hBp
  have hit := rrw_it (b := b) (e := e) (x1 := (n : Int)) (p := p) (by rw [t2]) hBp (by omega) p.length 0 1000 (by omega) (by omega)
  rw [show num ((col p).take 0) = 0 from rfl, show ((0 : Nat) : Int) = 0 from rfl] at hit
  have p1 : rrw_L0_p b e (n : Int) = true := by unfold rrw_L0_p; rw [hit]; rfl
  have p2 : (rrw_L0_v b e (n : Int)).1 = num (col p) := by unfold rrw_L0_v loopRes; rw [hit]; rfl
  have hrr : rrw_res b e (n : Int) = some (num (col p), e', b') := by unfold rrw_res; rw [t1, t2, p1, p2]; rfl
  refine ⟨num (col p), e', b', At', E', ⟨hrr, by unfold rrw_v; rw [hrr]; rfl⟩, ⟨k1, k2⟩, ⟨hr.1, ?_⟩, hL⟩
  refine Int.lt_of_lt_of_le hr.2 ?_
  rw [col_length]
  have : (256 : Nat) ^ p.length ≤ 256 ^ n := Nat.pow_le_pow_right (by omega) hpl
  have h2 : (((256 : Nat) ^ p.length : Nat) : Int) ≤ (((256 : Nat) ^ n : Nat) : Int) := by omega
  rw [Int.natCast_pow, Int.natCast_pow] at h2
  exact h2
theorem fix_like {B b : List (List Ct)} {e At E : Int} (hB : Byt (col B)) (hl : B.length ≤ 1048576) (h : Like B b e At E) :
    ∃ v e' b' At' E', (rfx_res b e = some (v, e', b') ∧ rfx_v b e = (v, e', b')) ∧ (mfx_res B At E = some (v, At', E') ∧ mfx_v B At E = (v, At', E')) ∧ Like B b' e' At' E' := by
  obtain ⟨v, e', b', At', E', ⟨r1, r2⟩, ⟨m1, m2⟩, hv, hL⟩ := raw_like hB hl h (n := 5) (by omega)
  rw [show ((5 : Nat) : Int) = 5 from rfl] at r1 r2 m1 m2
  rw [show (256 : Int) ^ 5 = 1099511627776 from rfl] at hv
  obtain ⟨he, hok, hbad⟩ := hL
  subst he
  have hV : ∀ x, rfx_res b e = some x → rfx_v b e = x := fun x h => by unfold rfx_v; rw [h]; rfl
  have hM : ∀ x, mfx_res B At E = some x → mfx_v B At E = x := fun x h => by unfold mfx_v; rw [h]; rfl
  have w : IntKind.i64.wrap v = v := wrap_in (by omega) (by omega)
  have w2 : IntKind.i64.wrap (v - 1099511627776) = v - 1099511627776 := wrap_in (by omega) (by omega)
  -- the number, its sign drawn out
  generalize hs : (if v ≥ 549755813888 then v - 1099511627776 else v) = s
  have hsx : (IntKind.i64.wrap (IntKind.u64.wrap (v * (2 : Int) ^ min (Int.toNat (24 : Int)) IntKind.u64.bits))).fdiv ((2 : Int) ^ min (Int.toNat (24 : Int)) IntKind.i64.bits) = s := by
    rw [show (2 : Int) ^ min (Int.toNat (24 : Int)) IntKind.u64.bits = 16777216 from rfl, show (2 : Int) ^ min (Int.toNat (24 : Int)) IntKind.i64.bits = 16777216 from rfl]
    rw [u64_in (by omega) (by omega), Int.fdiv_eq_ediv_of_nonneg _ (by omega), wrap_eq, ← hs]
    unfold RowKit.wrap64
    split <;> omega
  have hm : mfx_res B At E = (if s > 2147483648 ∨ s < -2147483648 then some (0, At', if e' = 0 then 33 else e') else some (s, At', e')) := by
    unfold mfx_res
    simp only [m1, m2, w, w2, Option.isSome_some, cond_true]
    by_cases hg : v ≥ 549755813888
    · rw [if_pos hg] at hs
      subst hs
      rw [cond_dec hg]
      by_cases h1 : v - 1099511627776 > 2147483648
      · rw [cond_dec h1, if_pos (.inl h1)]; by_cases h0 : e' = 0 <;> simp [h0, bif_eq0]
      · rw [cond_not h1]
        by_cases h2 : v - 1099511627776 < -2147483648
        · rw [cond_dec h2, if_pos (.inr h2)]; by_cases h0 : e' = 0 <;> simp [h0, bif_eq0]
        · rw [cond_not h2, if_neg (by omega)]
    · rw [if_neg hg] at hs
      subst hs
      rw [cond_not hg]
      by_cases h1 : v > 2147483648
      · rw [cond_dec h1, if_pos (.inl h1)]; by_cases h0 : e' = 0 <;> simp [h0, bif_eq0]
      · rw [cond_not h1]
        by_cases h2 : v < -2147483648
        · rw [cond_dec h2, if_pos (.inr h2)]; by_cases h0 : e' = 0 <;> simp [h0, bif_eq0]
        · rw [cond_not h2, if_neg (by omega)]
  have hr : rfx_res b e = (if s > 2147483648 ∨ s < -2147483648 then some (0, if e' = 0 then 33 else e', if e' = 0 then [] else b') else some (s, e', b')) := by
    unfold rfx_res
    simp only [r1, r2, hsx, Option.isSome_some, cond_true]
    by_cases h1 : s > 2147483648
    · rw [cond_dec h1, if_pos (.inl h1)]; by_cases h0 : e' = 0 <;> simp [h0, bif_eq0]
    · rw [cond_not h1]
      by_cases h2 : s < -2147483648
      · rw [cond_dec h2, if_pos (.inr h2)]; by_cases h0 : e' = 0 <;> simp [h0, bif_eq0]
      · rw [cond_not h2, if_neg (by omega)]
  by_cases hbig : s > 2147483648 ∨ s < -2147483648
  · rw [if_pos hbig] at hm hr
    by_cases h0 : e' = 0
    · rw [if_pos h0] at hm
      rw [if_pos h0, if_pos h0] at hr
      exact ⟨0, 33, [], At', 33, ⟨hr, hV _ hr⟩, ⟨hm, hM _ hm⟩, ⟨rfl, fun h => (by cases h), fun _ => rfl⟩⟩
    · rw [if_neg h0] at hm
      rw [if_neg h0, if_neg h0] at hr
      exact ⟨0, e', b', At', e', ⟨hr, hV _ hr⟩, ⟨hm, hM _ hm⟩, ⟨rfl, fun h => absurd h h0, hbad⟩⟩
  · rw [if_neg hbig] at hm hr
    exact ⟨s, e', b', At', e', ⟨hr, hV _ hr⟩, ⟨hm, hM _ hm⟩, ⟨rfl, hok, hbad⟩⟩
theorem vec_like {B b : List (List Ct)} {e At E : Int} (hB : Byt (col B)) (hl : B.length ≤ 1048576) (h : Like B b e At E) :
    ∃ x y z e' b' At' E', (rvc_res b e = some (e', x, y, z, b') ∧ rvc_v b e = (e', x, y, z, b')) ∧ (rhu_res b e = some (e', x, y, z, b') ∧ rhu_v b e = (e', x, y, z, b')) ∧ (mvc_res B At E = some (At', E', x, y, z) ∧ mvc_v B At E = (At', E', x, y, z)) ∧ Like B b' e' At' E' := by
  obtain ⟨v1, e1, b1, A1, E1, ⟨r1, r1'⟩, ⟨m1, m1'⟩, L1⟩ := fix_like hB hl h
  obtain ⟨v2, e2, b2, A2, E2, ⟨r2, r2'⟩, ⟨m2, m2'⟩, L2⟩ := fix_like hB hl L1
  obtain ⟨v3, e3, b3, A3, E3, ⟨r3, r3'⟩, ⟨m3, m3'⟩, L3⟩ := fix_like hB hl L2
  obtain ⟨he, hok, hbad⟩ := L3
  subst he
  have hr : rvc_res b e = some (e3, if e3 = 0 then v1 else 0, if e3 = 0 then v2 else 0, if e3 = 0 then v3 else 0, b3) := by
    unfold rvc_res
    simp only [r1, r1', r2, r2', r3, r3', Option.isSome_some, cond_true]
    by_cases h0 : e3 = 0 <;> simp [h0, bif_ne0]
  have hu : rhu_res b e = some (e3, if e3 = 0 then v1 else 0, if e3 = 0 then v2 else 0, if e3 = 0 then v3 else 0, b3) := by
    unfold rhu_res
    simp only [r1, r1', r2, r2', r3, r3', Option.isSome_some, cond_true]
    by_cases h0 : e3 = 0 <;> simp [h0, bif_ne0]
  have hm : mvc_res B At E = some (A3, e3, if e3 = 0 then v1 else 0, if e3 = 0 then v2 else 0, if e3 = 0 then v3 else 0) := by
    unfold mvc_res
    simp only [m1, m1', m2, m2', m3, m3', Option.isSome_some, cond_true]
    by_cases h0 : e3 = 0 <;> simp [h0, bif_ne0]
  exact ⟨_, _, _, e3, b3, A3, e3, ⟨hr, by unfold rvc_v; rw [hr]; rfl⟩, ⟨hu, by unfold rhu_v; rw [hu]; rfl⟩, ⟨hm, by unfold mvc_v; rw [hm]; rfl⟩, ⟨rfl, hok, hbad⟩⟩
theorem small_like {B b : List (List Ct)} {e At E : Int} (hB : Byt (col B)) (hl : B.length ≤ 1048576) (h : Like B b e At E) :
    ∃ v e' b' At' E', (rsl_res b e = some (v, e', b') ∧ rsl_v b e = (v, e', b')) ∧ (msl_res B At E = some (v, At', E') ∧ msl_v B At E = (v, At', E')) ∧ Like B b' e' At' E' := by
  obtain ⟨v, e', b', At', E', ⟨r1, r2⟩, ⟨m1, m2⟩, hv, hL⟩ := raw_like hB hl h (n := 2) (by omega)
  rw [show ((2 : Nat) : Int) = 2 from rfl] at r1 r2 m1 m2
  rw [show (256 : Int) ^ 2 = 65536 from rfl] at hv
  have w : IntKind.i64.wrap v = v := wrap_in (by omega) (by omega)
  have w2 : IntKind.i64.wrap (v - 65536) = v - 65536 := wrap_in (by omega) (by omega)
  have hi : IntKind.i16.wrap v = if v ≥ 32768 then v - 65536 else v := by
    simp only [IntKind.wrap, IntKind.bits, IntKind.signed, Bool.true_and]
    split <;> rename_i h1 <;> simp at h1 <;> split <;> omega
  have w3 : IntKind.i64.wrap (if v ≥ 32768 then v - 65536 else v) = if v ≥ 32768 then v - 65536 else v := by split <;> exact wrap_in (by omega) (by omega)
  have hr : rsl_res b e = some (if v ≥ 32768 then v - 65536 else v, e', b') := by unfold rsl_res; rw [r1, r2, hi, w3]; rfl
  have hm : msl_res B At E = some (if v ≥ 32768 then v - 65536 else v, At', E') := by
    unfold msl_res
    simp only [m1, m2, w, w2, Option.isSome_some, cond_true]
    by_cases h1 : v ≥ 32768
    · rw [cond_dec h1, if_pos h1]
    · rw [cond_not h1, if_neg h1]
  exact ⟨_, e', b', At', E', ⟨hr, by unfold rsl_v; rw [hr]; rfl⟩, ⟨hm, by unfold msl_v; rw [hm]; rfl⟩, hL⟩
theorem blob_like {B b : List (List Ct)} {e At E most : Int} (hB : Byt (col B)) (hl : B.length ≤ 1048576) (h : Like B b e At E) :
    ∃ e' p b' At' E' q, (rbl_res b e most = some (e', p, b') ∧ rbl_v b e most = (e', p, b')) ∧ (mbl_res B At E most = some (At', E', q) ∧ mbl_v B At E most = (At', E', q)) ∧ col p = col q ∧ Like B b' e' At' E' := by
  obtain ⟨v, e1, b1, A1, E1, ⟨r1, r2⟩, ⟨m1, m2⟩, hv, hL⟩ := raw_like hB hl h (n := 4) (by omega)
  rw [show ((4 : Nat) : Int) = 4 from rfl] at r1 r2 m1 m2
  rw [show (256 : Int) ^ 4 = 4294967296 from rfl] at hv
  have w : IntKind.i64.wrap v = v := wrap_in (by omega) (by omega)
  obtain ⟨n, rfl⟩ := Int.eq_ofNat_of_zero_le hv.1
  have hmost : (bif decide (most < (0 : Int)) then (0 : Int) else most) = (if (0 : Int) > most then (0 : Int) else most) := by
    by_cases hz : most < 0
    · rw [cond_dec hz, if_pos hz]
    · rw [cond_not hz, if_neg (by omega)]
  have hBb : ∀ {b' : List (List Ct)} {e' A' E' : Int}, Like B b' e' A' E' → b'.length ≤ 1048576 := fun {b' e' A' E'} hh => by
    by_cases hE : E' = 0
    · obtain ⟨a, _, _, hc⟩ := hh.ok hE
      have := congrArg List.length hc
      simp only [col_length, List.length_drop] at this
      omega
    · rw [hh.bad hE]; simp
  have hpl : ∀ {p : List (List Ct)}, (col p = [] ∨ ∃ a, col p = ((col B).drop a).take n ∧ p.length = n) → p.length ≤ 1048576 := fun {p} hp => by
    rcases hp with hp | ⟨a, hp, _⟩
    · rw [← col_length, hp]; simp
    · rw [← col_length, hp]; simp [col_length]; omega
  obtain ⟨he, hok, hbad⟩ := hL
  subst he
  by_cases hg : (n : Int) > (if (0 : Int) > most then (0 : Int) else most)
  · by_cases h0 : e1 = 0
    · subst h0
      have hr : rbl_res b e most = some (8, [] ++ [], []) := by
        unfold rbl_res
        simp only [r1, r2, w, cond_dec hg, Option.isSome_some, cond_true]
        rfl
      have hm1 := (mrw_is (At := A1) (E := 8) hl (n := n) (by omega)).1 (by omega)
      have hm : mbl_res B At E most = some (A1, 8, []) := by
        unfold mbl_res
        simp only [m1, m2, w, hmost, cond_dec hg, Option.isSome_some, cond_true, beq_self_eq_true, hm1.1, hm1.2]
      exact ⟨8, _, [], A1, 8, [], ⟨hr, by unfold rbl_v; rw [hr]; rfl⟩, ⟨hm, by unfold mbl_v; rw [hm]; rfl⟩, rfl, ⟨rfl, fun h => (by cases h), fun _ => rfl⟩⟩
    · have hb0 : (e1 == 0) = false := by simpa using h0
      obtain ⟨e', b', p, At', E', q, ⟨t1, t2⟩, ⟨k1, k2⟩, hpq, hp, hL⟩ := take_like hl (b := b1) (e := e1) (At := A1) (E := e1) ⟨rfl, hok, hbad⟩ (n := n) (by omega)
      have := hpl hp
      have hr : rbl_res b e most = some (e', [] ++ p, b') := by
        unfold rbl_res
        simp only [r1, r2, w, cond_dec hg, Option.isSome_some, cond_true, hb0, cond_false, t1, t2]
        exact ob_step (by omega) rfl
      have hm : mbl_res B At E most = some (At', E', q) := by
        unfold mbl_res
        simp only [m1, m2, w, hmost, cond_dec hg, Option.isSome_some, cond_true, hb0, cond_false, k1, k2]
      exact ⟨e', _, b', At', E', q, ⟨hr, by unfold rbl_v; rw [hr]; rfl⟩, ⟨hm, by unfold mbl_v; rw [hm]; rfl⟩, by rw [List.nil_append]; exact hpq, hL⟩
  · obtain ⟨e', b', p, At', E', q, ⟨t1, t2⟩, ⟨k1, k2⟩, hpq, hp, hL⟩ := take_like hl (b := b1) (e := e1) (At := A1) (E := e1) ⟨rfl, hok, hbad⟩ (n := n) (by omega)
    have := hpl hp
    have hr : rbl_res b e most = some (e', [] ++ p, b') := by
      unfold rbl_res
      simp only [r1, r2, w, cond_not hg, Option.isSome_some, cond_true, t1, t2]
      exact ob_step (by omega) rfl
    have hm : mbl_res B At E most = some (At', E', q) := by
      unfold mbl_res
      simp only [m1, m2, w, hmost, cond_not hg, Option.isSome_some, cond_true, k1, k2]
    exact ⟨e', _, b', At', E', q, ⟨hr, by unfold rbl_v; rw [hr]; rfl⟩, ⟨hm, by unfold mbl_v; rw [hm]; rfl⟩, by rw [List.nil_append]; exact hpq, hL⟩
theorem msm_0 {B q : List (List Ct)} {At E : Int} (hq : (mrw_v B At E 32).snd.snd = q) (hl : q.length = 32) (a0 a1 a2 a3 a4 a5 a6 a7 a8 a9 a10 a11 a12 a13 a14 a15 a16 a17 a18 a19 a20 a21 a22 a23 a24 a25 a26 a27 a28 a29 a30 a31 : Int) : msm_L0_step B At E ((0 : Int), a0, a1, a2, a3, a4, a5, a6, a7, a8, a9, a10, a11, a12, a13, a14, a15, a16, a17, a18, a19, a20, a21, a22, a23, a24, a25, a26, a27, a28, a29, a30, a31) = some (.inl ((1 : Int), (rd q 0 0).int, a1, a2, a3, a4, a5, a6, a7, a8, a9, a10, a11, a12, a13, a14, a15, a16, a17, a18, a19, a20, a21, a22, a23, a24, a25, a26, a27, a28, a29, a30, a31)) := by
  have w : IntKind.i64.wrap ((0 : Int) + 1) = 1 := wrap_in (by decide) (by decide)
  have q1 : (0 : Int) < (32 : Int) := by decide
  have q2 : (0 : Int) ≤ 0 ∧ (0 : Int) < (32 : Int) := by decide
  have l32 : ((32 : Nat) : Int) = 32 := rfl
  simp only [msm_L0_step, hq, hl, l32, w, cond_dec q1, cond_dec q2]
  rfl
theorem msm_1 {B q : List (List Ct)} {At E : Int} (hq : (mrw_v B At E 32).snd.snd = q) (hl : q.length = 32) (a0 a1 a2 a3 a4 a5 a6 a7 a8 a9 a10 a11 a12 a13 a14 a15 a16 a17 a18 a19 a20 a21 a22 a23 a24 a25 a26 a27 a28 a29 a30 a31 : Int) : msm_L0_step B At E ((1 : Int), a0, a1, a2, a3, a4, a5, a6, a7, a8, a9, a10, a11, a12, a13, a14, a15, a16, a17, a18, a19, a20, a21, a22, a23, a24, a25, a26, a27, a28, a29, a30, a31) = some (.inl ((2 : Int), a0, (rd q 1 0).int, a2, a3, a4, a5, a6, a7, a8, a9, a10, a11, a12, a13, a14, a15, a16, a17, a18, a19, a20, a21, a22, a23, a24, a25, a26, a27, a28, a29, a30, a31)) := by
  have w : IntKind.i64.wrap ((1 : Int) + 1) = 2 := wrap_in (by decide) (by decide)
  have q1 : (1 : Int) < (32 : Int) := by decide
  have q2 : (0 : Int) ≤ 1 ∧ (1 : Int) < (32 : Int) := by decide
  have l32 : ((32 : Nat) : Int) = 32 := rfl
  simp only [msm_L0_step, hq, hl, l32, w, cond_dec q1, cond_dec q2]
  rfl
theorem msm_2 {B q : List (List Ct)} {At E : Int} (hq : (mrw_v B At E 32).snd.snd = q) (hl : q.length = 32) (a0 a1 a2 a3 a4 a5 a6 a7 a8 a9 a10 a11 a12 a13 a14 a15 a16 a17 a18 a19 a20 a21 a22 a23 a24 a25 a26 a27 a28 a29 a30 a31 : Int) : msm_L0_step B At E ((2 : Int), a0, a1, a2, a3, a4, a5, a6, a7, a8, a9, a10, a11, a12, a13, a14, a15, a16, a17, a18, a19, a20, a21, a22, a23, a24, a25, a26, a27, a28, a29, a30, a31) = some (.inl ((3 : Int), a0, a1, (rd q 2 0).int, a3, a4, a5, a6, a7, a8, a9, a10, a11, a12, a13, a14, a15, a16, a17, a18, a19, a20, a21, a22, a23, a24, a25, a26, a27, a28, a29, a30, a31)) := by
  have w : IntKind.i64.wrap ((2 : Int) + 1) = 3 := wrap_in (by decide) (by decide)
  have q1 : (2 : Int) < (32 : Int) := by decide
  have q2 : (0 : Int) ≤ 2 ∧ (2 : Int) < (32 : Int) := by decide
  have l32 : ((32 : Nat) : Int) = 32 := rfl
  simp only [msm_L0_step, hq, hl, l32, w, cond_dec q1, cond_dec q2]
  rfl
theorem msm_3 {B q : List (List Ct)} {At E : Int} (hq : (mrw_v B At E 32).snd.snd = q) (hl : q.length = 32) (a0 a1 a2 a3 a4 a5 a6 a7 a8 a9 a10 a11 a12 a13 a14 a15 a16 a17 a18 a19 a20 a21 a22 a23 a24 a25 a26 a27 a28 a29 a30 a31 : Int) : msm_L0_step B At E ((3 : Int), a0, a1, a2, a3, a4, a5, a6, a7, a8, a9, a10, a11, a12, a13, a14, a15, a16, a17, a18, a19, a20, a21, a22, a23, a24, a25, a26, a27, a28, a29, a30, a31) = some (.inl ((4 : Int), a0, a1, a2, (rd q 3 0).int, a4, a5, a6, a7, a8, a9, a10, a11, a12, a13, a14, a15, a16, a17, a18, a19, a20, a21, a22, a23, a24, a25, a26, a27, a28, a29, a30, a31)) := by
  have w : IntKind.i64.wrap ((3 : Int) + 1) = 4 := wrap_in (by decide) (by decide)
  have q1 : (3 : Int) < (32 : Int) := by decide
  have q2 : (0 : Int) ≤ 3 ∧ (3 : Int) < (32 : Int) := by decide
  have l32 : ((32 : Nat) : Int) = 32 := rfl
  simp only [msm_L0_step, hq, hl, l32, w, cond_dec q1, cond_dec q2]
  rfl
theorem msm_4 {B q : List (List Ct)} {At E : Int} (hq : (mrw_v B At E 32).snd.snd = q) (hl : q.length = 32) (a0 a1 a2 a3 a4 a5 a6 a7 a8 a9 a10 a11 a12 a13 a14 a15 a16 a17 a18 a19 a20 a21 a22 a23 a24 a25 a26 a27 a28 a29 a30 a31 : Int) : msm_L0_step B At E ((4 : Int), a0, a1, a2, a3, a4, a5, a6, a7, a8, a9, a10, a11, a12, a13, a14, a15, a16, a17, a18, a19, a20, a21, a22, a23, a24, a25, a26, a27, a28, a29, a30, a31) = some (.inl ((5 : Int), a0, a1, a2, a3, (rd q 4 0).int, a5, a6, a7, a8, a9, a10, a11, a12, a13, a14, a15, a16, a17, a18, a19, a20, a21, a22, a23, a24, a25, a26, a27, a28, a29, a30, a31)) := by
  have w : IntKind.i64.wrap ((4 : Int) + 1) = 5 := wrap_in (by decide) (by decide)
  have q1 : (4 : Int) < (32 : Int) := by decide
  have q2 : (0 : Int) ≤ 4 ∧ (4 : Int) < (32 : Int) := by decide
  have l32 : ((32 : Nat) : Int) = 32 := rfl
  simp only [msm_L0_step, hq, hl, l32, w, cond_dec q1, cond_dec q2]
  rfl
theorem msm_5 {B q : List (List Ct)} {At E : Int} (hq : (mrw_v B At E 32).snd.snd = q) (hl : q.length = 32) (a0 a1 a2 a3 a4 a5 a6 a7 a8 a9 a10 a11 a12 a13 a14 a15 a16 a17 a18 a19 a20 a21 a22 a23 a24 a25 a26 a27 a28 a29 a30 a31 : Int) : msm_L0_step B At E ((5 : Int), a0, a1, a2, a3, a4, a5, a6, a7, a8, a9, a10, a11, a12, a13, a14, a15, a16, a17, a18, a19, a20, a21, a22, a23, a24, a25, a26, a27, a28, a29, a30, a31) = some (.inl ((6 : Int), a0, a1, a2, a3, a4, (rd q 5 0).int, a6, a7, a8, a9, a10, a11, a12, a13, a14, a15, a16, a17, a18, a19, a20, a21, a22, a23, a24, a25, a26, a27, a28, a29, a30, a31)) := by
  have w : IntKind.i64.wrap ((5 : Int) + 1) = 6 := wrap_in (by decide) (by decide)
  have q1 : (5 : Int) < (32 : Int) := by decide
  have q2 : (0 : Int) ≤ 5 ∧ (5 : Int) < (32 : Int) := by decide
  have l32 : ((32 : Nat) : Int) = 32 := rfl
  simp only [msm_L0_step, hq, hl, l32, w, cond_dec q1, cond_dec q2]
  rfl
theorem msm_6 {B q : List (List Ct)} {At E : Int} (hq : (mrw_v B At E 32).snd.snd = q) (hl : q.length = 32) (a0 a1 a2 a3 a4 a5 a6 a7 a8 a9 a10 a11 a12 a13 a14 a15 a16 a17 a18 a19 a20 a21 a22 a23 a24 a25 a26 a27 a28 a29 a30 a31 : Int) : msm_L0_step B At E ((6 : Int), a0, a1, a2, a3, a4, a5, a6, a7, a8, a9, a10, a11, a12, a13, a14, a15, a16, a17, a18, a19, a20, a21, a22, a23, a24, a25, a26, a27, a28, a29, a30, a31) = some (.inl ((7 : Int), a0, a1, a2, a3, a4, a5, (rd q 6 0).int, a7, a8, a9, a10, a11, a12, a13, a14, a15, a16, a17, a18, a19, a20, a21, a22, a23, a24, a25, a26, a27, a28, a29, a30, a31)) := by
  have w : IntKind.i64.wrap ((6 : Int) + 1) = 7 := wrap_in (by decide) (by decide)
  have q1 : (6 : Int) < (32 : Int) := by decide
  have q2 : (0 : Int) ≤ 6 ∧ (6 : Int) < (32 : Int) := by decide
  have l32 : ((32 : Nat) : Int) = 32 := rfl
  simp only [msm_L0_step, hq, hl, l32, w, cond_dec q1, cond_dec q2]
  rfl
theorem msm_7 {B q : List (List Ct)} {At E : Int} (hq : (mrw_v B At E 32).snd.snd = q) (hl : q.length = 32) (a0 a1 a2 a3 a4 a5 a6 a7 a8 a9 a10 a11 a12 a13 a14 a15 a16 a17 a18 a19 a20 a21 a22 a23 a24 a25 a26 a27 a28 a29 a30 a31 : Int) : msm_L0_step B At E ((7 : Int), a0, a1, a2, a3, a4, a5, a6, a7, a8, a9, a10, a11, a12, a13, a14, a15, a16, a17, a18, a19, a20, a21, a22, a23, a24, a25, a26, a27, a28, a29, a30, a31) = some (.inl ((8 : Int), a0, a1, a2, a3, a4, a5, a6, (rd q 7 0).int, a8, a9, a10, a11, a12, a13, a14, a15, a16, a17, a18, a19, a20, a21, a22, a23, a24, a25, a26, a27, a28, a29, a30, a31)) := by
  have w : IntKind.i64.wrap ((7 : Int) + 1) = 8 := wrap_in (by decide) (by decide)
  have q1 : (7 : Int) < (32 : Int) := by decide
  have q2 : (0 : Int) ≤ 7 ∧ (7 : Int) < (32 : Int) := by decide
  have l32 : ((32 : Nat) : Int) = 32 := rfl
  simp only [msm_L0_step, hq, hl, l32, w, cond_dec q1, cond_dec q2]
  rfl
theorem msm_8 {B q : List (List Ct)} {At E : Int} (hq : (mrw_v B At E 32).snd.snd = q) (hl : q.length = 32) (a0 a1 a2 a3 a4 a5 a6 a7 a8 a9 a10 a11 a12 a13 a14 a15 a16 a17 a18 a19 a20 a21 a22 a23 a24 a25 a26 a27 a28 a29 a30 a31 : Int) : msm_L0_step B At E ((8 : Int), a0, a1, a2, a3, a4, a5, a6, a7, a8, a9, a10, a11, a12, a13, a14, a15, a16, a17, a18, a19, a20, a21, a22, a23, a24, a25, a26, a27, a28, a29, a30, a31) = some (.inl ((9 : Int), a0, a1, a2, a3, a4, a5, a6, a7, (rd q 8 0).int, a9, a10, a11, a12, a13, a14, a15, a16, a17, a18, a19, a20, a21, a22, a23, a24, a25, a26, a27, a28, a29, a30, a31)) := by
  have w : IntKind.i64.wrap ((8 : Int) + 1) = 9 := wrap_in (by decide) (by decide)
  have q1 : (8 : Int) < (32 : Int) := by decide
  have q2 : (0 : Int) ≤ 8 ∧ (8 : Int) < (32 : Int) := by decide
  have l32 : ((32 : Nat) : Int) = 32 := rfl
  simp only [msm_L0_step, hq, hl, l32, w, cond_dec q1, cond_dec q2]
  rfl
theorem msm_9 {B q : List (List Ct)} {At E : Int} (hq : (mrw_v B At E 32).snd.snd = q) (hl : q.length = 32) (a0 a1 a2 a3 a4 a5 a6 a7 a8 a9 a10 a11 a12 a13 a14 a15 a16 a17 a18 a19 a20 a21 a22 a23 a24 a25 a26 a27 a28 a29 a30 a31 : Int) : msm_L0_step B At E ((9 : Int), a0, a1, a2, a3, a4, a5, a6, a7, a8, a9, a10, a11, a12, a13, a14, a15, a16, a17, a18, a19, a20, a21, a22, a23, a24, a25, a26, a27, a28, a29, a30, a31) = some (.inl ((10 : Int), a0, a1, a2, a3, a4, a5, a6, a7, a8, (rd q 9 0).int, a10, a11, a12, a13, a14, a15, a16, a17, a18, a19, a20, a21, a22, a23, a24, a25, a26, a27, a28, a29, a30, a31)) := by
  have w : IntKind.i64.wrap ((9 : Int) + 1) = 10 := wrap_in (by decide) (by decide)
  have q1 : (9 : Int) < (32 : Int) := by decide
  have q2 : (0 : Int) ≤ 9 ∧ (9 : Int) < (32 : Int) := by decide
  have l32 : ((32 : Nat) : Int) = 32 := rfl
  simp only [msm_L0_step, hq, hl, l32, w, cond_dec q1, cond_dec q2]
  rfl
theorem msm_10 {B q : List (List Ct)} {At E : Int} (hq : (mrw_v B At E 32).snd.snd = q) (hl : q.length = 32) (a0 a1 a2 a3 a4 a5 a6 a7 a8 a9 a10 a11 a12 a13 a14 a15 a16 a17 a18 a19 a20 a21 a22 a23 a24 a25 a26 a27 a28 a29 a30 a31 : Int) : msm_L0_step B At E ((10 : Int), a0, a1, a2, a3, a4, a5, a6, a7, a8, a9, a10, a11, a12, a13, a14, a15, a16, a17, a18, a19, a20, a21, a22, a23, a24, a25, a26, a27, a28, a29, a30, a31) = some (.inl ((11 : Int), a0, a1, a2, a3, a4, a5, a6, a7, a8, a9, (rd q 10 0).int, a11, a12, a13, a14, a15, a16, a17, a18, a19, a20, a21, a22, a23, a24, a25, a26, a27, a28, a29, a30, a31)) := by
  have w : IntKind.i64.wrap ((10 : Int) + 1) = 11 := wrap_in (by decide) (by decide)
  have q1 : (10 : Int) < (32 : Int) := by decide
  have q2 : (0 : Int) ≤ 10 ∧ (10 : Int) < (32 : Int) := by decide
  have l32 : ((32 : Nat) : Int) = 32 := rfl
  simp only [msm_L0_step, hq, hl, l32, w, cond_dec q1, cond_dec q2]
  rfl
theorem msm_11 {B q : List (List Ct)} {At E : Int} (hq : (mrw_v B At E 32).snd.snd = q) (hl : q.length = 32) (a0 a1 a2 a3 a4 a5 a6 a7 a8 a9 a10 a11 a12 a13 a14 a15 a16 a17 a18 a19 a20 a21 a22 a23 a24 a25 a26 a27 a28 a29 a30 a31 : Int) : msm_L0_step B At E ((11 : Int), a0, a1, a2, a3, a4, a5, a6, a7, a8, a9, a10, a11, a12, a13, a14, a15, a16, a17, a18, a19, a20, a21, a22, a23, a24, a25, a26, a27, a28, a29, a30, a31) = some (.inl ((12 : Int), a0, a1, a2, a3, a4, a5, a6, a7, a8, a9, a10, (rd q 11 0).int, a12, a13, a14, a15, a16, a17, a18, a19, a20, a21, a22, a23, a24, a25, a26, a27, a28, a29, a30, a31)) := by
  have w : IntKind.i64.wrap ((11 : Int) + 1) = 12 := wrap_in (by decide) (by decide)
  have q1 : (11 : Int) < (32 : Int) := by decide
  have q2 : (0 : Int) ≤ 11 ∧ (11 : Int) < (32 : Int) := by decide
  have l32 : ((32 : Nat) : Int) = 32 := rfl
  simp only [msm_L0_step, hq, hl, l32, w, cond_dec q1, cond_dec q2]
  rfl
theorem msm_12 {B q : List (List Ct)} {At E : Int} (hq : (mrw_v B At E 32).snd.snd = q) (hl : q.length = 32) (a0 a1 a2 a3 a4 a5 a6 a7 a8 a9 a10 a11 a12 a13 a14 a15 a16 a17 a18 a19 a20 a21 a22 a23 a24 a25 a26 a27 a28 a29 a30 a31 : Int) : msm_L0_step B At E ((12 : Int), a0, a1, a2, a3, a4, a5, a6, a7, a8, a9, a10, a11, a12, a13, a14, a15, a16, a17, a18, a19, a20, a21, a22, a23, a24, a25, a26, a27, a28, a29, a30, a31) = some (.inl ((13 : Int), a0, a1, a2, a3, a4, a5, a6, a7, a8, a9, a10, a11, (rd q 12 0).int, a13, a14, a15, a16, a17, a18, a19, a20, a21, a22, a23, a24, a25, a26, a27, a28, a29, a30, a31)) := by
  have w : IntKind.i64.wrap ((12 : Int) + 1) = 13 := wrap_in (by decide) (by decide)
  have q1 : (12 : Int) < (32 : Int) := by decide
  have q2 : (0 : Int) ≤ 12 ∧ (12 : Int) < (32 : Int) := by decide
  have l32 : ((32 : Nat) : Int) = 32 := rfl
  simp only [msm_L0_step, hq, hl, l32, w, cond_dec q1, cond_dec q2]
  rfl
theorem msm_13 {B q : List (List Ct)} {At E : Int} (hq : (mrw_v B At E 32).snd.snd = q) (hl : q.length = 32) (a0 a1 a2 a3 a4 a5 a6 a7 a8 a9 a10 a11 a12 a13 a14 a15 a16 a17 a18 a19 a20 a21 a22 a23 a24 a25 a26 a27 a28 a29 a30 a31 : Int) : msm_L0_step B At E ((13 : Int), a0, a1, a2, a3, a4, a5, a6, a7, a8, a9, a10, a11, a12, a13, a14, a15, a16, a17, a18, a19, a20, a21, a22, a23, a24, a25, a26, a27, a28, a29, a30, a31) = some (.inl ((14 : Int), a0, a1, a2, a3, a4, a5, a6, a7, a8, a9, a10, a11, a12, (rd q 13 0).int, a14, a15, a16, a17, a18, a19, a20, a21, a22, a23, a24, a25, a26, a27, a28, a29, a30, a31)) := by
  have w : IntKind.i64.wrap ((13 : Int) + 1) = 14 := wrap_in (by decide) (by decide)
  have q1 : (13 : Int) < (32 : Int) := by decide
  have q2 : (0 : Int) ≤ 13 ∧ (13 : Int) < (32 : Int) := by decide
  have l32 : ((32 : Nat) : Int) = 32 := rfl
  simp only [msm_L0_step, hq, hl, l32, w, cond_dec q1, cond_dec q2]
  rfl
theorem msm_14 {B q : List (List Ct)} {At E : Int} (hq : (mrw_v B At E 32).snd.snd = q) (hl : q.length = 32) (a0 a1 a2 a3 a4 a5 a6 a7 a8 a9 a10 a11 a12 a13 a14 a15 a16 a17 a18 a19 a20 a21 a22 a23 a24 a25 a26 a27 a28 a29 a30 a31 : Int) : msm_L0_step B At E ((14 : Int), a0, a1, a2, a3, a4, a5, a6, a7, a8, a9, a10, a11, a12, a13, a14, a15, a16, a17, a18, a19, a20, a21, a22, a23, a24, a25, a26, a27, a28, a29, a30, a31) = some (.inl ((15 : Int), a0, a1, a2, a3, a4, a5, a6, a7, a8, a9, a10, a11, a12, a13, (rd q 14 0).int, a15, a16, a17, a18, a19, a20, a21, a22, a23, a24, a25, a26, a27, a28, a29, a30, a31)) := by
  have w : IntKind.i64.wrap ((14 : Int) + 1) = 15 := wrap_in (by decide) (by decide)
  have q1 : (14 : Int) < (32 : Int) := by decide
  have q2 : (0 : Int) ≤ 14 ∧ (14 : Int) < (32 : Int) := by decide
  have l32 : ((32 : Nat) : Int) = 32 := rfl
  simp only [msm_L0_step, hq, hl, l32, w, cond_dec q1, cond_dec q2]
  rfl
theorem msm_15 {B q : List (List Ct)} {At E : Int} (hq : (mrw_v B At E 32).snd.snd = q) (hl : q.length = 32) (a0 a1 a2 a3 a4 a5 a6 a7 a8 a9 a10 a11 a12 a13 a14 a15 a16 a17 a18 a19 a20 a21 a22 a23 a24 a25 a26 a27 a28 a29 a30 a31 : Int) : msm_L0_step B At E ((15 : Int), a0, a1, a2, a3, a4, a5, a6, a7, a8, a9, a10, a11, a12, a13, a14, a15, a16, a17, a18, a19, a20, a21, a22, a23, a24, a25, a26, a27, a28, a29, a30, a31) = some (.inl ((16 : Int), a0, a1, a2, a3, a4, a5, a6, a7, a8, a9, a10, a11, a12, a13, a14, (rd q 15 0).int, a16, a17, a18, a19, a20, a21, a22, a23, a24, a25, a26, a27, a28, a29, a30, a31)) := by
  have w : IntKind.i64.wrap ((15 : Int) + 1) = 16 := wrap_in (by decide) (by decide)
  have q1 : (15 : Int) < (32 : Int) := by decide
  have q2 : (0 : Int) ≤ 15 ∧ (15 : Int) < (32 : Int) := by decide
  have l32 : ((32 : Nat) : Int) = 32 := rfl
  simp only [msm_L0_step, hq, hl, l32, w, cond_dec q1, cond_dec q2]
  rfl
theorem msm_16 {B q : List (List Ct)} {At E : Int} (hq : (mrw_v B At E 32).snd.snd = q) (hl : q.length = 32) (a0 a1 a2 a3 a4 a5 a6 a7 a8 a9 a10 a11 a12 a13 a14 a15 a16 a17 a18 a19 a20 a21 a22 a23 a24 a25 a26 a27 a28 a29 a30 a31 : Int) : msm_L0_step B At E ((16 : Int), a0, a1, a2, a3, a4, a5, a6, a7, a8, a9, a10, a11, a12, a13, a14, a15, a16, a17, a18, a19, a20, a21, a22, a23, a24, a25, a26, a27, a28, a29, a30, a31) = some (.inl ((17 : Int), a0, a1, a2, a3, a4, a5, a6, a7, a8, a9, a10, a11, a12, a13, a14, a15, (rd q 16 0).int, a17, a18, a19, a20, a21, a22, a23, a24, a25, a26, a27, a28, a29, a30, a31)) := by
  have w : IntKind.i64.wrap ((16 : Int) + 1) = 17 := wrap_in (by decide) (by decide)
  have q1 : (16 : Int) < (32 : Int) := by decide
  have q2 : (0 : Int) ≤ 16 ∧ (16 : Int) < (32 : Int) := by decide
  have l32 : ((32 : Nat) : Int) = 32 := rfl
  simp only [msm_L0_step, hq, hl, l32, w, cond_dec q1, cond_dec q2]
  rfl
theorem msm_17 {B q : List (List Ct)} {At E : Int} (hq : (mrw_v B At E 32).snd.snd = q) (hl : q.length = 32) (a0 a1 a2 a3 a4 a5 a6 a7 a8 a9 a10 a11 a12 a13 a14 a15 a16 a17 a18 a19 a20 a21 a22 a23 a24 a25 a26 a27 a28 a29 a30 a31 : Int) : msm_L0_step B At E ((17 : Int), a0, a1, a2, a3, a4, a5, a6, a7, a8, a9, a10, a11, a12, a13, a14, a15, a16, a17, a18, a19, a20, a21, a22, a23, a24, a25, a26, a27, a28, a29, a30, a31) = some (.inl ((18 : Int), a0, a1, a2, a3, a4, a5, a6, a7, a8, a9, a10, a11, a12, a13, a14, a15, a16, (rd q 17 0).int, a18, a19, a20, a21, a22, a23, a24, a25, a26, a27, a28, a29, a30, a31)) := by
  have w : IntKind.i64.wrap ((17 : Int) + 1) = 18 := wrap_in (by decide) (by decide)
  have q1 : (17 : Int) < (32 : Int) := by decide
  have q2 : (0 : Int) ≤ 17 ∧ (17 : Int) < (32 : Int) := by decide
  have l32 : ((32 : Nat) : Int) = 32 := rfl
  simp only [msm_L0_step, hq, hl, l32, w, cond_dec q1, cond_dec q2]
  rfl
theorem msm_18 {B q : List (List Ct)} {At E : Int} (hq : (mrw_v B At E 32).snd.snd = q) (hl : q.length = 32) (a0 a1 a2 a3 a4 a5 a6 a7 a8 a9 a10 a11 a12 a13 a14 a15 a16 a17 a18 a19 a20 a21 a22 a23 a24 a25 a26 a27 a28 a29 a30 a31 : Int) : msm_L0_step B At E ((18 : Int), a0, a1, a2, a3, a4, a5, a6, a7, a8, a9, a10, a11, a12, a13, a14, a15, a16, a17, a18, a19, a20, a21, a22, a23, a24, a25, a26, a27, a28, a29, a30, a31) = some (.inl ((19 : Int), a0, a1, a2, a3, a4, a5, a6, a7, a8, a9, a10, a11, a12, a13, a14, a15, a16, a17, (rd q 18 0).int, a19, a20, a21, a22, a23, a24, a25, a26, a27, a28, a29, a30, a31)) := by
  have w : IntKind.i64.wrap ((18 : Int) + 1) = 19 := wrap_in (by decide) (by decide)
  have q1 : (18 : Int) < (32 : Int) := by decide
  have q2 : (0 : Int) ≤ 18 ∧ (18 : Int) < (32 : Int) := by decide
  have l32 : ((32 : Nat) : Int) = 32 := rfl
  simp only [msm_L0_step, hq, hl, l32, w, cond_dec q1, cond_dec q2]
  rfl
theorem msm_19 {B q : List (List Ct)} {At E : Int} (hq : (mrw_v B At E 32).snd.snd = q) (hl : q.length = 32) (a0 a1 a2 a3 a4 a5 a6 a7 a8 a9 a10 a11 a12 a13 a14 a15 a16 a17 a18 a19 a20 a21 a22 a23 a24 a25 a26 a27 a28 a29 a30 a31 : Int) : msm_L0_step B At E ((19 : Int), a0, a1, a2, a3, a4, a5, a6, a7, a8, a9, a10, a11, a12, a13, a14, a15, a16, a17, a18, a19, a20, a21, a22, a23, a24, a25, a26, a27, a28, a29, a30, a31) = some (.inl ((20 : Int), a0, a1, a2, a3, a4, a5, a6, a7, a8, a9, a10, a11, a12, a13, a14, a15, a16, a17, a18, (rd q 19 0).int, a20, a21, a22, a23, a24, a25, a26, a27, a28, a29, a30, a31)) := by
  have w : IntKind.i64.wrap ((19 : Int) + 1) = 20 := wrap_in (by decide) (by decide)
  have q1 : (19 : Int) < (32 : Int) := by decide
  have q2 : (0 : Int) ≤ 19 ∧ (19 : Int) < (32 : Int) := by decide
  have l32 : ((32 : Nat) : Int) = 32 := rfl
  simp only [msm_L0_step, hq, hl, l32, w, cond_dec q1, cond_dec q2]
  rfl
theorem msm_20 {B q : List (List Ct)} {At E : Int} (hq : (mrw_v B At E 32).snd.snd = q) (hl : q.length = 32) (a0 a1 a2 a3 a4 a5 a6 a7 a8 a9 a10 a11 a12 a13 a14 a15 a16 a17 a18 a19 a20 a21 a22 a23 a24 a25 a26 a27 a28 a29 a30 a31 : Int) : msm_L0_step B At E ((20 : Int), a0, a1, a2, a3, a4, a5, a6, a7, a8, a9, a10, a11, a12, a13, a14, a15, a16, a17, a18, a19, a20, a21, a22, a23, a24, a25, a26, a27, a28, a29, a30, a31) = some (.inl ((21 : Int), a0, a1, a2, a3, a4, a5, a6, a7, a8, a9, a10, a11, a12, a13, a14, a15, a16, a17, a18, a19, (rd q 20 0).int, a21, a22, a23, a24, a25, a26, a27, a28, a29, a30, a31)) := by
  have w : IntKind.i64.wrap ((20 : Int) + 1) = 21 := wrap_in (by decide) (by decide)
  have q1 : (20 : Int) < (32 : Int) := by decide
  have q2 : (0 : Int) ≤ 20 ∧ (20 : Int) < (32 : Int) := by decide
  have l32 : ((32 : Nat) : Int) = 32 := rfl
  simp only [msm_L0_step, hq, hl, l32, w, cond_dec q1, cond_dec q2]
  rfl
theorem msm_21 {B q : List (List Ct)} {At E : Int} (hq : (mrw_v B At E 32).snd.snd = q) (hl : q.length = 32) (a0 a1 a2 a3 a4 a5 a6 a7 a8 a9 a10 a11 a12 a13 a14 a15 a16 a17 a18 a19 a20 a21 a22 a23 a24 a25 a26 a27 a28 a29 a30 a31 : Int) : msm_L0_step B At E ((21 : Int), a0, a1, a2, a3, a4, a5, a6, a7, a8, a9, a10, a11, a12, a13, a14, a15, a16, a17, a18, a19, a20, a21, a22, a23, a24, a25, a26, a27, a28, a29, a30, a31) = some (.inl ((22 : Int), a0, a1, a2, a3, a4, a5, a6, a7, a8, a9, a10, a11, a12, a13, a14, a15, a16, a17, a18, a19, a20, (rd q 21 0).int, a22, a23, a24, a25, a26, a27, a28, a29, a30, a31)) := by
  have w : IntKind.i64.wrap ((21 : Int) + 1) = 22 := wrap_in (by decide) (by decide)
  have q1 : (21 : Int) < (32 : Int) := by decide
  have q2 : (0 : Int) ≤ 21 ∧ (21 : Int) < (32 : Int) := by decide
  have l32 : ((32 : Nat) : Int) = 32 := rfl
  simp only [msm_L0_step, hq, hl, l32, w, cond_dec q1, cond_dec q2]
  rfl
theorem msm_22 {B q : List (List Ct)} {At E : Int} (hq : (mrw_v B At E 32).snd.snd = q) (hl : q.length = 32) (a0 a1 a2 a3 a4 a5 a6 a7 a8 a9 a10 a11 a12 a13 a14 a15 a16 a17 a18 a19 a20 a21 a22 a23 a24 a25 a26 a27 a28 a29 a30 a31 : Int) : msm_L0_step B At E ((22 : Int), a0, a1, a2, a3, a4, a5, a6, a7, a8, a9, a10, a11, a12, a13, a14, a15, a16, a17, a18, a19, a20, a21, a22, a23, a24, a25, a26, a27, a28, a29, a30, a31) = some (.inl ((23 : Int), a0, a1, a2, a3, a4, a5, a6, a7, a8, a9, a10, a11, a12, a13, a14, a15, a16, a17, a18, a19, a20, a21, (rd q 22 0).int, a23, a24, a25, a26, a27, a28, a29, a30, a31)) := by
  have w : IntKind.i64.wrap ((22 : Int) + 1) = 23 := wrap_in (by decide) (by decide)
  have q1 : (22 : Int) < (32 : Int) := by decide
  have q2 : (0 : Int) ≤ 22 ∧ (22 : Int) < (32 : Int) := by decide
  have l32 : ((32 : Nat) : Int) = 32 := rfl
  simp only [msm_L0_step, hq, hl, l32, w, cond_dec q1, cond_dec q2]
  rfl
theorem msm_23 {B q : List (List Ct)} {At E : Int} (hq : (mrw_v B At E 32).snd.snd = q) (hl : q.length = 32) (a0 a1 a2 a3 a4 a5 a6 a7 a8 a9 a10 a11 a12 a13 a14 a15 a16 a17 a18 a19 a20 a21 a22 a23 a24 a25 a26 a27 a28 a29 a30 a31 : Int) : msm_L0_step B At E ((23 : Int), a0, a1, a2, a3, a4, a5, a6, a7, a8, a9, a10, a11, a12, a13, a14, a15, a16, a17, a18, a19, a20, a21, a22, a23, a24, a25, a26, a27, a28, a29, a30, a31) = some (.inl ((24 : Int), a0, a1, a2, a3, a4, a5, a6, a7, a8, a9, a10, a11, a12, a13, a14, a15, a16, a17, a18, a19, a20, a21, a22, (rd q 23 0).int, a24, a25, a26, a27, a28, a29, a30, a31)) := by
  have w : IntKind.i64.wrap ((23 : Int) + 1) = 24 := wrap_in (by decide) (by decide)
  have q1 : (23 : Int) < (32 : Int) := by decide
  have q2 : (0 : Int) ≤ 23 ∧ (23 : Int) < (32 : Int) := by decide
  have l32 : ((32 : Nat) : Int) = 32 := rfl
  simp only [msm_L0_step, hq, hl, l32, w, cond_dec q1, cond_dec q2]
  rfl
theorem msm_24 {B q : List (List Ct)} {At E : Int} (hq : (mrw_v B At E 32).snd.snd = q) (hl : q.length = 32) (a0 a1 a2 a3 a4 a5 a6 a7 a8 a9 a10 a11 a12 a13 a14 a15 a16 a17 a18 a19 a20 a21 a22 a23 a24 a25 a26 a27 a28 a29 a30 a31 : Int) : msm_L0_step B At E ((24 : Int), a0, a1, a2, a3, a4, a5, a6, a7, a8, a9, a10, a11, a12, a13, a14, a15, a16, a17, a18, a19, a20, a21, a22, a23, a24, a25, a26, a27, a28, a29, a30, a31) = some (.inl ((25 : Int), a0, a1, a2, a3, a4, a5, a6, a7, a8, a9, a10, a11, a12, a13, a14, a15, a16, a17, a18, a19, a20, a21, a22, a23, (rd q 24 0).int, a25, a26, a27, a28, a29, a30, a31)) := by
  have w : IntKind.i64.wrap ((24 : Int) + 1) = 25 := wrap_in (by decide) (by decide)
  have q1 : (24 : Int) < (32 : Int) := by decide
  have q2 : (0 : Int) ≤ 24 ∧ (24 : Int) < (32 : Int) := by decide
  have l32 : ((32 : Nat) : Int) = 32 := rfl
  simp only [msm_L0_step, hq, hl, l32, w, cond_dec q1, cond_dec q2]
  rfl
theorem msm_25 {B q : List (List Ct)} {At E : Int} (hq : (mrw_v B At E 32).snd.snd = q) (hl : q.length = 32) (a0 a1 a2 a3 a4 a5 a6 a7 a8 a9 a10 a11 a12 a13 a14 a15 a16 a17 a18 a19 a20 a21 a22 a23 a24 a25 a26 a27 a28 a29 a30 a31 : Int) : msm_L0_step B At E ((25 : Int), a0, a1, a2, a3, a4, a5, a6, a7, a8, a9, a10, a11, a12, a13, a14, a15, a16, a17, a18, a19, a20, a21, a22, a23, a24, a25, a26, a27, a28, a29, a30, a31) = some (.inl ((26 : Int), a0, a1, a2, a3, a4, a5, a6, a7, a8, a9, a10, a11, a12, a13, a14, a15, a16, a17, a18, a19, a20, a21, a22, a23, a24, (rd q 25 0).int, a26, a27, a28, a29, a30, a31)) := by
  have w : IntKind.i64.wrap ((25 : Int) + 1) = 26 := wrap_in (by decide) (by decide)
  have q1 : (25 : Int) < (32 : Int) := by decide
  have q2 : (0 : Int) ≤ 25 ∧ (25 : Int) < (32 : Int) := by decide
  have l32 : ((32 : Nat) : Int) = 32 := rfl
  simp only [msm_L0_step, hq, hl, l32, w, cond_dec q1, cond_dec q2]
  rfl
theorem msm_26 {B q : List (List Ct)} {At E : Int} (hq : (mrw_v B At E 32).snd.snd = q) (hl : q.length = 32) (a0 a1 a2 a3 a4 a5 a6 a7 a8 a9 a10 a11 a12 a13 a14 a15 a16 a17 a18 a19 a20 a21 a22 a23 a24 a25 a26 a27 a28 a29 a30 a31 : Int) : msm_L0_step B At E ((26 : Int), a0, a1, a2, a3, a4, a5, a6, a7, a8, a9, a10, a11, a12, a13, a14, a15, a16, a17, a18, a19, a20, a21, a22, a23, a24, a25, a26, a27, a28, a29, a30, a31) = some (.inl ((27 : Int), a0, a1, a2, a3, a4, a5, a6, a7, a8, a9, a10, a11, a12, a13, a14, a15, a16, a17, a18, a19, a20, a21, a22, a23, a24, a25, (rd q 26 0).int, a27, a28, a29, a30, a31)) := by
  have w : IntKind.i64.wrap ((26 : Int) + 1) = 27 := wrap_in (by decide) (by decide)
  have q1 : (26 : Int) < (32 : Int) := by decide
  have q2 : (0 : Int) ≤ 26 ∧ (26 : Int) < (32 : Int) := by decide
  have l32 : ((32 : Nat) : Int) = 32 := rfl
  simp only [msm_L0_step, hq, hl, l32, w, cond_dec q1, cond_dec q2]
  rfl
theorem msm_27 {B q : List (List Ct)} {At E : Int} (hq : (mrw_v B At E 32).snd.snd = q) (hl : q.length = 32) (a0 a1 a2 a3 a4 a5 a6 a7 a8 a9 a10 a11 a12 a13 a14 a15 a16 a17 a18 a19 a20 a21 a22 a23 a24 a25 a26 a27 a28 a29 a30 a31 : Int) : msm_L0_step B At E ((27 : Int), a0, a1, a2, a3, a4, a5, a6, a7, a8, a9, a10, a11, a12, a13, a14, a15, a16, a17, a18, a19, a20, a21, a22, a23, a24, a25, a26, a27, a28, a29, a30, a31) = some (.inl ((28 : Int), a0, a1, a2, a3, a4, a5, a6, a7, a8, a9, a10, a11, a12, a13, a14, a15, a16, a17, a18, a19, a20, a21, a22, a23, a24, a25, a26, (rd q 27 0).int, a28, a29, a30, a31)) := by
  have w : IntKind.i64.wrap ((27 : Int) + 1) = 28 := wrap_in (by decide) (by decide)
  have q1 : (27 : Int) < (32 : Int) := by decide
  have q2 : (0 : Int) ≤ 27 ∧ (27 : Int) < (32 : Int) := by decide
  have l32 : ((32 : Nat) : Int) = 32 := rfl
  simp only [msm_L0_step, hq, hl, l32, w, cond_dec q1, cond_dec q2]
  rfl
theorem msm_28 {B q : List (List Ct)} {At E : Int} (hq : (mrw_v B At E 32).snd.snd = q) (hl : q.length = 32) (a0 a1 a2 a3 a4 a5 a6 a7 a8 a9 a10 a11 a12 a13 a14 a15 a16 a17 a18 a19 a20 a21 a22 a23 a24 a25 a26 a27 a28 a29 a30 a31 : Int) : msm_L0_step B At E ((28 : Int), a0, a1, a2, a3, a4, a5, a6, a7, a8, a9, a10, a11, a12, a13, a14, a15, a16, a17, a18, a19, a20, a21, a22, a23, a24, a25, a26, a27, a28, a29, a30, a31) = some (.inl ((29 : Int), a0, a1, a2, a3, a4, a5, a6, a7, a8, a9, a10, a11, a12, a13, a14, a15, a16, a17, a18, a19, a20, a21, a22, a23, a24, a25, a26, a27, (rd q 28 0).int, a29, a30, a31)) := by
  have w : IntKind.i64.wrap ((28 : Int) + 1) = 29 := wrap_in (by decide) (by decide)
  have q1 : (28 : Int) < (32 : Int) := by decide
  have q2 : (0 : Int) ≤ 28 ∧ (28 : Int) < (32 : Int) := by decide
  have l32 : ((32 : Nat) : Int) = 32 := rfl
  simp only [msm_L0_step, hq, hl, l32, w, cond_dec q1, cond_dec q2]
  rfl
theorem msm_29 {B q : List (List Ct)} {At E : Int} (hq : (mrw_v B At E 32).snd.snd = q) (hl : q.length = 32) (a0 a1 a2 a3 a4 a5 a6 a7 a8 a9 a10 a11 a12 a13 a14 a15 a16 a17 a18 a19 a20 a21 a22 a23 a24 a25 a26 a27 a28 a29 a30 a31 : Int) : msm_L0_step B At E ((29 : Int), a0, a1, a2, a3, a4, a5, a6, a7, a8, a9, a10, a11, a12, a13, a14, a15, a16, a17, a18, a19, a20, a21, a22, a23, a24, a25, a26, a27, a28, a29, a30, a31) = some (.inl ((30 : Int), a0, a1, a2, a3, a4, a5, a6, a7, a8, a9, a10, a11, a12, a13, a14, a15, a16, a17, a18, a19, a20, a21, a22, a23, a24, a25, a26, a27, a28, (rd q 29 0).int, a30, a31)) := by
  have w : IntKind.i64.wrap ((29 : Int) + 1) = 30 := wrap_in (by decide) (by decide)
  have q1 : (29 : Int) < (32 : Int) := by decide
  have q2 : (0 : Int) ≤ 29 ∧ (29 : Int) < (32 : Int) := by decide
  have l32 : ((32 : Nat) : Int) = 32 := rfl
  simp only [msm_L0_step, hq, hl, l32, w, cond_dec q1, cond_dec q2]
  rfl
theorem msm_30 {B q : List (List Ct)} {At E : Int} (hq : (mrw_v B At E 32).snd.snd = q) (hl : q.length = 32) (a0 a1 a2 a3 a4 a5 a6 a7 a8 a9 a10 a11 a12 a13 a14 a15 a16 a17 a18 a19 a20 a21 a22 a23 a24 a25 a26 a27 a28 a29 a30 a31 : Int) : msm_L0_step B At E ((30 : Int), a0, a1, a2, a3, a4, a5, a6, a7, a8, a9, a10, a11, a12, a13, a14, a15, a16, a17, a18, a19, a20, a21, a22, a23, a24, a25, a26, a27, a28, a29, a30, a31) = some (.inl ((31 : Int), a0, a1, a2, a3, a4, a5, a6, a7, a8, a9, a10, a11, a12, a13, a14, a15, a16, a17, a18, a19, a20, a21, a22, a23, a24, a25, a26, a27, a28, a29, (rd q 30 0).int, a31)) := by
  have w : IntKind.i64.wrap ((30 : Int) + 1) = 31 := wrap_in (by decide) (by decide)
  have q1 : (30 : Int) < (32 : Int) := by decide
  have q2 : (0 : Int) ≤ 30 ∧ (30 : Int) < (32 : Int) := by decide
  have l32 : ((32 : Nat) : Int) = 32 := rfl
  simp only [msm_L0_step, hq, hl, l32, w, cond_dec q1, cond_dec q2]
  rfl
theorem msm_31 {B q : List (List Ct)} {At E : Int} (hq : (mrw_v B At E 32).snd.snd = q) (hl : q.length = 32) (a0 a1 a2 a3 a4 a5 a6 a7 a8 a9 a10 a11 a12 a13 a14 a15 a16 a17 a18 a19 a20 a21 a22 a23 a24 a25 a26 a27 a28 a29 a30 a31 : Int) : msm_L0_step B At E ((31 : Int), a0, a1, a2, a3, a4, a5, a6, a7, a8, a9, a10, a11, a12, a13, a14, a15, a16, a17, a18, a19, a20, a21, a22, a23, a24, a25, a26, a27, a28, a29, a30, a31) = some (.inl ((32 : Int), a0, a1, a2, a3, a4, a5, a6, a7, a8, a9, a10, a11, a12, a13, a14, a15, a16, a17, a18, a19, a20, a21, a22, a23, a24, a25, a26, a27, a28, a29, a30, (rd q 31 0).int)) := by
  have w : IntKind.i64.wrap ((31 : Int) + 1) = 32 := wrap_in (by decide) (by decide)
  have q1 : (31 : Int) < (32 : Int) := by decide
  have q2 : (0 : Int) ≤ 31 ∧ (31 : Int) < (32 : Int) := by decide
  have l32 : ((32 : Nat) : Int) = 32 := rfl
  simp only [msm_L0_step, hq, hl, l32, w, cond_dec q1, cond_dec q2]
  rfl
theorem msm_loop {B q : List (List Ct)} {At E : Int} (hq : (mrw_v B At E 32).snd.snd = q) (hl : q.length = 32) : iter (msm_L0_step B At E) 1000 (0, 0, 0, 0, 0, 0, 0, 0, 0, 0, 0, 0, 0, 0, 0, 0, 0, 0, 0, 0, 0, 0, 0, 0, 0, 0, 0, 0, 0, 0, 0, 0, 0) = some ((32 : Int), (rd q 0 0).int, (rd q 1 0).int, (rd q 2 0).int, (rd q 3 0).int, (rd q 4 0).int, (rd q 5 0).int, (rd q 6 0).int, (rd q 7 0).int, (rd q 8 0).int, (rd q 9 0).int, (rd q 10 0).int, (rd q 11 0).int, (rd q 12 0).int, (rd q 13 0).int, (rd q 14 0).int, (rd q 15 0).int, (rd q 16 0).int, (rd q 17 0).int, (rd q 18 0).int, (rd q 19 0).int, (rd q 20 0).int, (rd q 21 0).int, (rd q 22 0).int, (rd q 23 0).int, (rd q 24 0).int, (rd q 25 0).int, (rd q 26 0).int, (rd q 27 0).int, (rd q 28 0).int, (rd q 29 0).int, (rd q 30 0).int, (rd q 31 0).int) := by
  rw [iter_inl (msm_0 hq hl 0 0 0 0 0 0 0 0 0 0 0 0 0 0 0 0 0 0 0 0 0 0 0 0 0 0 0 0 0 0 0 0)]
  rw [iter_inl (msm_1 hq hl (rd q 0 0).int 0 0 0 0 0 0 0 0 0 0 0 0 0 0 0 0 0 0 0 0 0 0 0 0 0 0 0 0 0 0 0)]
  rw [iter_inl (msm_2 hq hl (rd q 0 0).int (rd q 1 0).int 0 0 0 0 0 0 0 0 0 0 0 0 0 0 0 0 0 0 0 0 0 0 0 0 0 0 0 0 0 0)]
  rw [iter_inl (msm_3 hq hl (rd q 0 0).int (rd q 1 0).int (rd q 2 0).int 0 0 0 0 0 0 0 0 0 0 0 0 0 0 0 0 0 0 0 0 0 0 0 0 0 0 0 0 0)]
  rw [iter_inl (msm_4 hq hl (rd q 0 0).int (rd q 1 0).int (rd q 2 0).int (rd q 3 0).int 0 0 0 0 0 0 0 0 0 0 0 0 0 0 0 0 0 0 0 0 0 0 0 0 0 0 0 0)]
  rw [iter_inl (msm_5 hq hl (rd q 0 0).int (rd q 1 0).int (rd q 2 0).int (rd q 3 0).int (rd q 4 0).int 0 0 0 0 0 0 0 0 0 0 0 0 0 0 0 0 0 0 0 0 0 0 0 0 0 0 0)]
  rw [iter_inl (msm_6 hq hl (rd q 0 0).int (rd q 1 0).int (rd q 2 0).int (rd q 3 0).int (rd q 4 0).int (rd q 5 0).int 0 0 0 0 0 0 0 0 0 0 0 0 0 0 0 0 0 0 0 0 0 0 0 0 0 0)]
  rw [iter_inl (msm_7 hq hl (rd q 0 0).int (rd q 1 0).int (rd q 2 0).int (rd q 3 0).int (rd q 4 0).int (rd q 5 0).int (rd q 6 0).int 0 0 0 0 0 0 0 0 0 0 0 0 0 0 0 0 0 0 0 0 0 0 0 0 0)]
  rw [iter_inl (msm_8 hq hl (rd q 0 0).int (rd q 1 0).int (rd q 2 0).int (rd q 3 0).int (rd q 4 0).int (rd q 5 0).int (rd q 6 0).int (rd q 7 0).int 0 0 0 0 0 0 0 0 0 0 0 0 0 0 0 0 0 0 0 0 0 0 0 0)]
  rw [iter_inl (msm_9 hq hl (rd q 0 0).int (rd q 1 0).int (rd q 2 0).int (rd q 3 0).int (rd q 4 0).int (rd q 5 0).int (rd q 6 0).int (rd q 7 0).int (rd q 8 0).int 0 0 0 0 0 0 0 0 0 0 0 0 0 0 0 0 0 0 0 0 0 0 0)]
  rw [iter_inl (msm_10 hq hl (rd q 0 0).int (rd q 1 0).int (rd q 2 0).int (rd q 3 0).int (rd q 4 0).int (rd q 5 0).int (rd q 6 0).int (rd q 7 0).int (rd q 8 0).int (rd q 9 0).int 0 0 0 0 0 0 0 0 0 0 0 0 0 0 0 0 0 0 0 0 0 0)]
  rw [iter_inl (msm_11 hq hl (rd q 0 0).int (rd q 1 0).int (rd q 2 0).int (rd q 3 0).int (rd q 4 0).int (rd q 5 0).int (rd q 6 0).int (rd q 7 0).int (rd q 8 0).int (rd q 9 0).int (rd q 10 0).int 0 0 0 0 0 0 0 0 0 0 0 0 0 0 0 0 0 0 0 0 0)]
  rw [iter_inl (msm_12 hq hl (rd q 0 0).int (rd q 1 0).int (rd q 2 0).int (rd q 3 0).int (rd q 4 0).int (rd q 5 0).int (rd q 6 0).int (rd q 7 0).int (rd q 8 0).int (rd q 9 0).int (rd q 10 0).int (rd q 11 0).int 0 0 0 0 0 0 0 0 0 0 0 0 0 0 0 0 0 0 0 0)]
  rw [iter_inl (msm_13 hq hl (rd q 0 0).int (rd q 1 0).int (rd q 2 0).int (rd q 3 0).int (rd q 4 0).int (rd q 5 0).int (rd q 6 0).int (rd q 7 0).int (rd q 8 0).int (rd q 9 0).int (rd q 10 0).int (rd q 11 0).int (rd q 12 0).int 0 0 0 0 0 0 0 0 0 0 0 0 0 0 0 0 0 0 0)]
  rw [iter_inl (msm_14 hq hl (rd q 0 0).int (rd q 1 0).int (rd q 2 0).int (rd q 3 0).int (rd q 4 0).int (rd q 5 0).int (rd q 6 0).int (rd q 7 0).int (rd q 8 0).int (rd q 9 0).int (rd q 10 0).int (rd q 11 0).int (rd q 12 0).int (rd q 13 0).int 0 0 0 0 0 0 0 0 0 0 0 0 0 0 0 0 0 0)]
  rw [iter_inl (msm_15 hq hl (rd q 0 0).int (rd q 1 0).int (rd q 2 0).int (rd q 3 0).int (rd q 4 0).int (rd q 5 0).int (rd q 6 0).int (rd q 7 0).int (rd q 8 0).int (rd q 9 0).int (rd q 10 0).int (rd q 11 0).int (rd q 12 0).int (rd q 13 0).int (rd q 14 0).int 0 0 0 0 0 0 0 0 0 0 0 0 0 0 0 0 0)]
  rw [iter_inl (msm_16 hq hl (rd q 0 0).int (rd q 1 0).int (rd q 2 0).int (rd q 3 0).int (rd q 4 0).int (rd q 5 0).int (rd q 6 0).int (rd q 7 0).int (rd q 8 0).int (rd q 9 0).int (rd q 10 0).int (rd q 11 0).int (rd q 12 0).int (rd q 13 0).int (rd q 14 0).int (rd q 15 0).int 0 0 0 0 0 0 0 0 0 0 0 0 0 0 0 0)]
  rw [iter_inl (msm_17 hq hl (rd q 0 0).int (rd q 1 0).int (rd q 2 0).int (rd q 3 0).int (rd q 4 0).int (rd q 5 0).int (rd q 6 0).int (rd q 7 0).int (rd q 8 0).int (rd q 9 0).int (rd q 10 0).int (rd q 11 0).int (rd q 12 0).int (rd q 13 0).int (rd q 14 0).int (rd q 15 0).int (rd q 16 0).int 0 0 0 0 0 0 0 0 0 0 0 0 0 0 0)]
  rw [iter_inl (msm_18 hq hl (rd q 0 0).int (rd q 1 0).int (rd q 2 0).int (rd q 3 0).int (rd q 4 0).int (rd q 5 0).int (rd q 6 0).int (rd q 7 0).int (rd q 8 0).int (rd q 9 0).int (rd q 10 0).int (rd q 11 0).int (rd q 12 0).int (rd q 13 0).int (rd q 14 0).int (rd q 15 0).int (rd q 16 0).int (rd q 17 0).int 0 0 0 0 0 0 0 0 0 0 0 0 0 0)]
  rw [iter_inl (msm_19 hq hl (rd q 0 0).int (rd q 1 0).int (rd q 2 0).int (rd q 3 0).int (rd q 4 0).int (rd q 5 0).int (rd q 6 0).int (rd q 7 0).int (rd q 8 0).int (rd q 9 0).int (rd q 10 0).int (rd q 11 0).int (rd q 12 0).int (rd q 13 0).int (rd q 14 0).int (rd q 15 0).int (rd q 16 0).int (rd q 17 0).int (rd q 18 0).int 0 0 0 0 0 0 0 0 0 0 0 0 0)]
  rw [iter_inl (msm_20 hq hl (rd q 0 0).int (rd q 1 0).int (rd q 2 0).int (rd q 3 0).int (rd q 4 0).int (rd q 5 0).int (rd q 6 0).int (rd q 7 0).int (rd q 8 0).int (rd q 9 0).int (rd q 10 0).int (rd q 11 0).int (rd q 12 0).int (rd q 13 0).int (rd q 14 0).int (rd q 15 0).int (rd q 16 0).int (rd q 17 0).int (rd q 18 0).int (rd q 19 0).int 0 0 0 0 0 0 0 0 0 0 0 0)]
  rw [iter_inl (msm_21 hq hl (rd q 0 0).int (rd q 1 0).int (rd q 2 0).int (rd q 3 0).int (rd q 4 0).int (rd q 5 0).int (rd q 6 0).int (rd q 7 0).int (rd q 8 0).int (rd q 9 0).int (rd q 10 0).int (rd q 11 0).int (rd q 12 0).int (rd q 13 0).int (rd q 14 0).int (rd q 15 0).int (rd q 16 0).int (rd q 17 0).int (rd q 18 0).int (rd q 19 0).int (rd q 20 0).int 0 0 0 0 0 0 0 0 0 0 0)]
  rw [iter_inl (msm_22 hq hl (rd q 0 0).int (rd q 1 0).int (rd q 2 0).int (rd q 3 0).int (rd q 4 0).int (rd q 5 0).int (rd q 6 0).int (rd q 7 0).int (rd q 8 0).int (rd q 9 0).int (rd q 10 0).int (rd q 11 0).int (rd q 12 0).int (rd q 13 0).int (rd q 14 0).int (rd q 15 0).int (rd q 16 0).int (rd q 17 0).int (rd q 18 0).int (rd q 19 0).int (rd q 20 0).int (rd q 21 0).int 0 0 0 0 0 0 0 0 0 0)]
  rw [iter_inl (msm_23 hq hl (rd q 0 0).int (rd q 1 0).int (rd q 2 0).int (rd q 3 0).int (rd q 4 0).int (rd q 5 0).int (rd q 6 0).int (rd q 7 0).int (rd q 8 0).int (rd q 9 0).int (rd q 10 0).int (rd q 11 0).int (rd q 12 0).int (rd q 13 0).int (rd q 14 0).int (rd q 15 0).int (rd q 16 0).int (rd q 17 0).int (rd q 18 0).int (rd q 19 0).int (rd q 20 0).int (rd q 21 0).int (rd q 22 0).int 0 0 0 0 0 0 0 0 0)]
  rw [iter_inl (msm_24 hq hl (rd q 0 0).int (rd q 1 0).int (rd q 2 0).int (rd q 3 0).int (rd q 4 0).int (rd q 5 0).int (rd q 6 0).int (rd q 7 0).int (rd q 8 0).int (rd q 9 0).int (rd q 10 0).int (rd q 11 0).int (rd q 12 0).int (rd q 13 0).int (rd q 14 0).int (rd q 15 0).int (rd q 16 0).int (rd q 17 0).int (rd q 18 0).int (rd q 19 0).int (rd q 20 0).int (rd q 21 0).int (rd q 22 0).int (rd q 23 0).int 0 0 0 0 0 0 0 0)]
  rw [iter_inl (msm_25 hq hl (rd q 0 0).int (rd q 1 0).int (rd q 2 0).int (rd q 3 0).int (rd q 4 0).int (rd q 5 0).int (rd q 6 0).int (rd q 7 0).int (rd q 8 0).int (rd q 9 0).int (rd q 10 0).int (rd q 11 0).int (rd q 12 0).int (rd q 13 0).int (rd q 14 0).int (rd q 15 0).int (rd q 16 0).int (rd q 17 0).int (rd q 18 0).int (rd q 19 0).int (rd q 20 0).int (rd q 21 0).int (rd q 22 0).int (rd q 23 0).int (rd q 24 0).int 0 0 0 0 0 0 0)]
  rw [iter_inl (msm_26 hq hl (rd q 0 0).int (rd q 1 0).int (rd q 2 0).int (rd q 3 0).int (rd q 4 0).int (rd q 5 0).int (rd q 6 0).int (rd q 7 0).int (rd q 8 0).int (rd q 9 0).int (rd q 10 0).int (rd q 11 0).int (rd q 12 0).int (rd q 13 0).int (rd q 14 0).int (rd q 15 0).int (rd q 16 0).int (rd q 17 0).int (rd q 18 0).int (rd q 19 0).int (rd q 20 0).int (rd q 21 0).int (rd q 22 0).int (rd q 23 0).int (rd q 24 0).int (rd q 25 0).int 0 0 0 0 0 0)]
  rw [iter_inl (msm_27 hq hl (rd q 0 0).int (rd q 1 0).int (rd q 2 0).int (rd q 3 0).int (rd q 4 0).int (rd q 5 0).int (rd q 6 0).int (rd q 7 0).int (rd q 8 0).int (rd q 9 0).int (rd q 10 0).int (rd q 11 0).int (rd q 12 0).int (rd q 13 0).int (rd q 14 0).int (rd q 15 0).int (rd q 16 0).int (rd q 17 0).int (rd q 18 0).int (rd q 19 0).int (rd q 20 0).int (rd q 21 0).int (rd q 22 0).int (rd q 23 0).int (rd q 24 0).int (rd q 25 0).int (rd q 26 0).int 0 0 0 0 0)]
  rw [iter_inl (msm_28 hq hl (rd q 0 0).int (rd q 1 0).int (rd q 2 0).int (rd q 3 0).int (rd q 4 0).int (rd q 5 0).int (rd q 6 0).int (rd q 7 0).int (rd q 8 0).int (rd q 9 0).int (rd q 10 0).int (rd q 11 0).int (rd q 12 0).int (rd q 13 0).int (rd q 14 0).int (rd q 15 0).int (rd q 16 0).int (rd q 17 0).int (rd q 18 0).int (rd q 19 0).int (rd q 20 0).int (rd q 21 0).int (rd q 22 0).int (rd q 23 0).int (rd q 24 0).int (rd q 25 0).int (rd q 26 0).int (rd q 27 0).int 0 0 0 0)]
  rw [iter_inl (msm_29 hq hl (rd q 0 0).int (rd q 1 0).int (rd q 2 0).int (rd q 3 0).int (rd q 4 0).int (rd q 5 0).int (rd q 6 0).int (rd q 7 0).int (rd q 8 0).int (rd q 9 0).int (rd q 10 0).int (rd q 11 0).int (rd q 12 0).int (rd q 13 0).int (rd q 14 0).int (rd q 15 0).int (rd q 16 0).int (rd q 17 0).int (rd q 18 0).int (rd q 19 0).int (rd q 20 0).int (rd q 21 0).int (rd q 22 0).int (rd q 23 0).int (rd q 24 0).int (rd q 25 0).int (rd q 26 0).int (rd q 27 0).int (rd q 28 0).int 0 0 0)]
  rw [iter_inl (msm_30 hq hl (rd q 0 0).int (rd q 1 0).int (rd q 2 0).int (rd q 3 0).int (rd q 4 0).int (rd q 5 0).int (rd q 6 0).int (rd q 7 0).int (rd q 8 0).int (rd q 9 0).int (rd q 10 0).int (rd q 11 0).int (rd q 12 0).int (rd q 13 0).int (rd q 14 0).int (rd q 15 0).int (rd q 16 0).int (rd q 17 0).int (rd q 18 0).int (rd q 19 0).int (rd q 20 0).int (rd q 21 0).int (rd q 22 0).int (rd q 23 0).int (rd q 24 0).int (rd q 25 0).int (rd q 26 0).int (rd q 27 0).int (rd q 28 0).int (rd q 29 0).int 0 0)]
  rw [iter_inl (msm_31 hq hl (rd q 0 0).int (rd q 1 0).int (rd q 2 0).int (rd q 3 0).int (rd q 4 0).int (rd q 5 0).int (rd q 6 0).int (rd q 7 0).int (rd q 8 0).int (rd q 9 0).int (rd q 10 0).int (rd q 11 0).int (rd q 12 0).int (rd q 13 0).int (rd q 14 0).int (rd q 15 0).int (rd q 16 0).int (rd q 17 0).int (rd q 18 0).int (rd q 19 0).int (rd q 20 0).int (rd q 21 0).int (rd q 22 0).int (rd q 23 0).int (rd q 24 0).int (rd q 25 0).int (rd q 26 0).int (rd q 27 0).int (rd q 28 0).int (rd q 29 0).int (rd q 30 0).int 0)]
  refine iter_inr ?_
  have l32 : ((32 : Nat) : Int) = 32 := rfl
  simp only [msm_L0_step, hq, hl, l32, Int.lt_irrefl, decide_false, cond_false]
theorem msm_none {B : List (List Ct)} {At E : Int} (hq : (mrw_v B At E 32).snd.snd = []) : iter (msm_L0_step B At E) 1000 (0, 0, 0, 0, 0, 0, 0, 0, 0, 0, 0, 0, 0, 0, 0, 0, 0, 0, 0, 0, 0, 0, 0, 0, 0, 0, 0, 0, 0, 0, 0, 0, 0) = some ((0 : Int), 0, 0, 0, 0, 0, 0, 0, 0, 0, 0, 0, 0, 0, 0, 0, 0, 0, 0, 0, 0, 0, 0, 0, 0, 0, 0, 0, 0, 0, 0, 0, 0) := by
  refine iter_inr ?_
  have l0 : (([] : List (List Ct)).length : Int) = 0 := rfl
  simp only [msm_L0_step, hq, l0, Int.lt_irrefl, decide_false, cond_false]
theorem sum_like {B b : List (List Ct)} {e At E : Int} (hl : B.length ≤ 1048576) (h : Like B b e At E) :
    ∃ a0 a1 a2 a3 a4 a5 a6 a7 a8 a9 a10 a11 a12 a13 a14 a15 a16 a17 a18 a19 a20 a21 a22 a23 a24 a25 a26 a27 a28 a29 a30 a31 e' b' At' E', (rsm_res b e = some (e', a0, a1, a2, a3, a4, a5, a6, a7, a8, a9, a10, a11, a12, a13, a14, a15, a16, a17, a18, a19, a20, a21, a22, a23, a24, a25, a26, a27, a28, a29, a30, a31, b') ∧ rsm_v b e = (e', a0, a1, a2, a3, a4, a5, a6, a7, a8, a9, a10, a11, a12, a13, a14, a15, a16, a17, a18, a19, a20, a21, a22, a23, a24, a25, a26, a27, a28, a29, a30, a31, b')) ∧ (msm_res B At E = some (At', E', a0, a1, a2, a3, a4, a5, a6, a7, a8, a9, a10, a11, a12, a13, a14, a15, a16, a17, a18, a19, a20, a21, a22, a23, a24, a25, a26, a27, a28, a29, a30, a31) ∧ msm_v B At E = (At', E', a0, a1, a2, a3, a4, a5, a6, a7, a8, a9, a10, a11, a12, a13, a14, a15, a16, a17, a18, a19, a20, a21, a22, a23, a24, a25, a26, a27, a28, a29, a30, a31)) ∧ Like B b' e' At' E' := by
  obtain ⟨e', b', p, At', E', q, ⟨t1, t2⟩, ⟨k1, k2⟩, hpq, hp, hL⟩ := take_like hl h (n := 32) (by omega)
  rw [show ((32 : Nat) : Int) = 32 from rfl] at t1 t2 k1 k2
  have hql : q.length = p.length := by rw [← col_length, ← hpq, col_length]
  have hc : p = [] ∨ p.length = 32 := by
    rcases hp with hp | ⟨a, _, hp⟩
    · exact .inl (List.length_eq_zero_iff.1 (by rw [← col_length, hp]; rfl))
    · exact .inr hp
  rcases hc with rfl | hp32
  · obtain rfl : q = [] := List.length_eq_zero_iff.1 hql
    have it := msm_none (B := B) (At := At) (E := E) (by rw [k2])
    have q1 : msm_L0_p B At E = true := by unfold msm_L0_p; rw [it]; rfl
    have q2 : msm_L0_v B At E = ((0 : Int), 0, 0, 0, 0, 0, 0, 0, 0, 0, 0, 0, 0, 0, 0, 0, 0, 0, 0, 0, 0, 0, 0, 0, 0, 0, 0, 0, 0, 0, 0, 0, 0) := by unfold msm_L0_v loopRes; rw [it]; rfl
    have hm : msm_res B At E = some (At', E', 0, 0, 0, 0, 0, 0, 0, 0, 0, 0, 0, 0, 0, 0, 0, 0, 0, 0, 0, 0, 0, 0, 0, 0, 0, 0, 0, 0, 0, 0, 0, 0) := by unfold msm_res; rw [k1, k2, q1, q2]; rfl
    have hr : rsm_res b e = some (e', 0, 0, 0, 0, 0, 0, 0, 0, 0, 0, 0, 0, 0, 0, 0, 0, 0, 0, 0, 0, 0, 0, 0, 0, 0, 0, 0, 0, 0, 0, 0, 0, b') := by unfold rsm_res; rw [t1, t2]; rfl
    exact ⟨0, 0, 0, 0, 0, 0, 0, 0, 0, 0, 0, 0, 0, 0, 0, 0, 0, 0, 0, 0, 0, 0, 0, 0, 0, 0, 0, 0, 0, 0, 0, 0, e', b', At', E', ⟨hr, by unfold rsm_v; rw [hr]; rfl⟩, ⟨hm, by unfold msm_v; rw [hm]; rfl⟩, hL⟩
  · have hq32 : q.length = 32 := by omega
    have it := msm_loop (B := B) (At := At) (E := E) (q := q) (by rw [k2]) hq32
    have q1 : msm_L0_p B At E = true := by unfold msm_L0_p; rw [it]; rfl
    have q2 : msm_L0_v B At E = ((32 : Int), (rd q 0 0).int, (rd q 1 0).int, (rd q 2 0).int, (rd q 3 0).int, (rd q 4 0).int, (rd q 5 0).int, (rd q 6 0).int, (rd q 7 0).int, (rd q 8 0).int, (rd q 9 0).int, (rd q 10 0).int, (rd q 11 0).int, (rd q 12 0).int, (rd q 13 0).int, (rd q 14 0).int, (rd q 15 0).int, (rd q 16 0).int, (rd q 17 0).int, (rd q 18 0).int, (rd q 19 0).int, (rd q 20 0).int, (rd q 21 0).int, (rd q 22 0).int, (rd q 23 0).int, (rd q 24 0).int, (rd q 25 0).int, (rd q 26 0).int, (rd q 27 0).int, (rd q 28 0).int, (rd q 29 0).int, (rd q 30 0).int, (rd q 31 0).int) := by unfold msm_L0_v loopRes; rw [it]; rfl
    have hm : msm_res B At E = some (At', E', (rd q 0 0).int, (rd q 1 0).int, (rd q 2 0).int, (rd q 3 0).int, (rd q 4 0).int, (rd q 5 0).int, (rd q 6 0).int, (rd q 7 0).int, (rd q 8 0).int, (rd q 9 0).int, (rd q 10 0).int, (rd q 11 0).int, (rd q 12 0).int, (rd q 13 0).int, (rd q 14 0).int, (rd q 15 0).int, (rd q 16 0).int, (rd q 17 0).int, (rd q 18 0).int, (rd q 19 0).int, (rd q 20 0).int, (rd q 21 0).int, (rd q 22 0).int, (rd q 23 0).int, (rd q 24 0).int, (rd q 25 0).int, (rd q 26 0).int, (rd q 27 0).int, (rd q 28 0).int, (rd q 29 0).int, (rd q 30 0).int, (rd q 31 0).int) := by unfold msm_res; rw [k1, k2, q1, q2]; rfl
    have hr : rsm_res b e = some (e', (rd q 0 0).int, (rd q 1 0).int, (rd q 2 0).int, (rd q 3 0).int, (rd q 4 0).int, (rd q 5 0).int, (rd q 6 0).int, (rd q 7 0).int, (rd q 8 0).int, (rd q 9 0).int, (rd q 10 0).int, (rd q 11 0).int, (rd q 12 0).int, (rd q 13 0).int, (rd q 14 0).int, (rd q 15 0).int, (rd q 16 0).int, (rd q 17 0).int, (rd q 18 0).int, (rd q 19 0).int, (rd q 20 0).int, (rd q 21 0).int, (rd q 22 0).int, (rd q 23 0).int, (rd q 24 0).int, (rd q 25 0).int, (rd q 26 0).int, (rd q 27 0).int, (rd q 28 0).int, (rd q 29 0).int, (rd q 30 0).int, (rd q 31 0).int, b') := by
      unfold rsm_res
      rw [t1, t2]
      simp only [hp32, rd_col, hpq]
      rfl
    exact ⟨(rd q 0 0).int, (rd q 1 0).int, (rd q 2 0).int, (rd q 3 0).int, (rd q 4 0).int, (rd q 5 0).int, (rd q 6 0).int, (rd q 7 0).int, (rd q 8 0).int, (rd q 9 0).int, (rd q 10 0).int, (rd q 11 0).int, (rd q 12 0).int, (rd q 13 0).int, (rd q 14 0).int, (rd q 15 0).int, (rd q 16 0).int, (rd q 17 0).int, (rd q 18 0).int, (rd q 19 0).int, (rd q 20 0).int, (rd q 21 0).int, (rd q 22 0).int, (rd q 23 0).int, (rd q 24 0).int, (rd q 25 0).int, (rd q 26 0).int, (rd q 27 0).int, (rd q 28 0).int, (rd q 29 0).int, (rd q 30 0).int, (rd q 31 0).int, e', b', At', E', ⟨hr, by unfold rsm_v; rw [hr]; rfl⟩, ⟨hm, by unfold msm_v; rw [hm]; rfl⟩, hL⟩
end Go.Proofs.Ytidhjgcegcfmeaa
