/- A frame, as the document has it. No condition. -/
import Derived.Test.YtjjijaeoafeocaaEngGl4
set_option linter.unusedVariables false
set_option linter.unusedSimpArgs false
namespace Go.Proofs.Ytjjijaeoafeocaa
open Go.RowKit

noncomputable def rfr_L0_S (x0 : ByteArray) (x1 : List (List Ct)) (v : Int × Int) : St := ⟨[.o (.val false (.string x0)), .o (.ext 0), .d, .d, .o (.val true (Value.slice none 0 0)), .o (.q v.1), .o (.q v.2), .d, .d, .d, .o (.val false (.string x0)), .o (.q (↑x0.size : Int)), .d, .d, .d, .d, .d, .d, .d, .d, .d, .d, .d, .d, .d, .d, .d, .d, .d, .d, .d, .d, .d, .d, .d, .d, .d, .d, .d, .d, .d, .d, .d, .d, .d, .d, .d, .d, .d, .d, .d, .d, .d, .d, .d, .d, .d, .d, .d, .d, .d, .d, .d, .d, .d, .d, .d, .d, .d, .d, .d, .d, .d, .d, .d], [(0, .grid ([Sh.str]) x1)], 1, []⟩
noncomputable def rfr_L0_T (x0 : ByteArray) (x1 : List (List Ct)) (v : Int × Int) : Ex × St := ((.exit 0), ⟨(rfr_L0_S x0 x1 v).fr, (rfr_L0_S x0 x1 v).hp, 2, []⟩)
noncomputable def rfr_L0_rd (ex : Ex) (s : St) : Option ((Int × Int) ⊕ (Int × Int)) × List (Nat × Option Nat) := match ex with
  | .normal => (some (.inl (rI (frC s 5 0), rI (frC s 6 0))), [])
  | .exit i => bif Nat.beq i 0 then (some (.inr (rI (frC s 5 0), rI (frC s 6 0))), []) else (none, [])
  | _ => (none, [])
noncomputable def rfr_L0_step (x1 : List (List Ct)) : (Int × Int) → Option ((Int × Int) ⊕ (Int × Int)) := fun v => match v with
  | (vi0, vi1) => bif (decide (vi1 < (↑x1.length : Int))) then (bif (decide ((0 : Int) ≤ vi1 ∧ vi1 < (↑x1.length : Int))) then bif (bif decide ((↑(rd x1 vi1.toNat 0).str.size : Int) > vi0) then decide ((0 : Int) ≤ vi1 ∧ vi1 < (↑x1.length : Int)) else true) then some (.inl (bif decide ((↑(rd x1 vi1.toNat 0).str.size : Int) > vi0) then (↑(rd x1 vi1.toNat 0).str.size : Int) else vi0, IntKind.i64.wrap (vi1 + (1 : Int)))) else none else none) else some (.inr (vi0, vi1))
noncomputable def rfr_L0_c : Code := loopC Try.prog 10 0
set_option maxRecDepth 100000 in
theorem rfr_L0_ok (x0 : ByteArray) (x1 : List (List Ct)) : ∀ v, StepOk Try.prog 1 rfr_L0_c (rfr_L0_S x0 x1) (rfr_L0_T x0 x1) v (rfr_L0_step x1 v) := fun v => match v with | (vi0, vi1) => eng_step (C := (⟨consGl3, fun _ _ _ => none, fun f => ⟨false, Nat.beq f 10⟩, noFacts, fun _ => 104⟩ : Cfg Try.prog)) noFacts_ok (n := 30) (f := 10) rfr_L0_rd (fun _ => rfl) (by kernel_rfl)
noncomputable def rfr_L0_p (x0 : ByteArray) (x1 : List (List Ct)) : Bool := (iter (rfr_L0_step x1) (x1.length + 1) ((↑x0.size : Int), 0)).isSome
noncomputable def rfr_L0_v (x0 : ByteArray) (x1 : List (List Ct)) : Int × Int := loopRes (rfr_L0_step x1) (x1.length + 1) ((↑x0.size : Int), 0)
set_option maxRecDepth 100000 in
noncomputable def rfr_L0_lc (x0 : ByteArray) (x1 : List (List Ct)) : LoopCon Try.prog := loopCon Try.prog 1 rfr_L0_c [] (rfr_L0_S x0 x1) (rfr_L0_T x0 x1) 0 (rfr_L0_step x1) (rfr_L0_ok x0 x1) (x1.length + 1) ((↑x0.size : Int), 0) (rfr_L0_p x0 x1) rfl (rfr_L0_v x0 x1) rfl
noncomputable def rfr_c98323965 (x0 : ByteArray) (x1 : List (List Ct)) : ByteArray := tim_v (45 : Int) (IntKind.i64.wrap ((rfr_L0_v x0 x1).fst + (2 : Int)))
noncomputable def rfr_c88574639 (x0 : ByteArray) (x1 : List (List Ct)) : ByteArray := tim_v (32 : Int) (IntKind.i64.wrap ((rfr_L0_v x0 x1).fst - (↑x0.size : Int)))
noncomputable def rfr_L2_S (x0 : ByteArray) (x1 : List (List Ct)) (v : Int × List (List Ct)) : St := ⟨[.o (.val false (.string x0)), .o (.ext 0), .d, .d, .o (.val true (Value.slice none 0 0)), .o (.q ((rfr_L0_v x0 x1).fst)), .o (.q ((rfr_L0_v x0 x1).snd)), .o (.val false (.string (ByteArray.mk #[(43 : UInt8)] ++ rfr_c98323965 x0 x1 ++ ByteArray.mk #[(43 : UInt8)]))), .o (.ext 11), .o (.q v.1), .o (.val false (.string x0)), .o (.q (↑x0.size : Int)), .d, .d, .d, .d, .d, .d, .d, .d, .d, .d, .d, .d, .d, .d, .d, .d, .d, .d, .o (.q ((rfr_L0_v x0 x1).fst)), .o (.q (IntKind.i64.wrap ((rfr_L0_v x0 x1).fst + (2 : Int)))), .o (.val false (.string (rfr_c98323965 x0 x1))), .o (.val false (.string (ByteArray.mk #[(43 : UInt8)] ++ rfr_c98323965 x0 x1))), .o (.val false (.string (ByteArray.mk #[(43 : UInt8)] ++ rfr_c98323965 x0 x1 ++ ByteArray.mk #[(43 : UInt8)]))), .o (.val false (.string (ByteArray.mk #[(43 : UInt8)] ++ rfr_c98323965 x0 x1 ++ ByteArray.mk #[(43 : UInt8)]))), .o (.val false (.string x0)), .o (.val false (.string (ByteArray.mk #[(124 : UInt8), (32 : UInt8)] ++ x0))), .o (.q ((rfr_L0_v x0 x1).fst)), .o (.val false (.string x0)), .o (.q (↑x0.size : Int)), .o (.q (IntKind.i64.wrap ((rfr_L0_v x0 x1).fst - (↑x0.size : Int)))), .o (.val false (.string (rfr_c88574639 x0 x1))), .o (.val false (.string (ByteArray.mk #[(124 : UInt8), (32 : UInt8)] ++ x0 ++ rfr_c88574639 x0 x1))), .o (.val false (.string (ByteArray.mk #[(124 : UInt8), (32 : UInt8)] ++ x0 ++ rfr_c88574639 x0 x1 ++ ByteArray.mk #[(32 : UInt8), (124 : UInt8)]))), .o (.val false (.string (ByteArray.mk #[(43 : UInt8)] ++ rfr_c98323965 x0 x1 ++ ByteArray.mk #[(43 : UInt8)]))), .d, .d, .d, .d, .d, .d, .d, .d, .d, .d, .d, .d, .d, .d, .d, .d, .d, .d, .d, .d, .d, .d, .d, .d, .d, .d, .d, .d, .d], [(0, .grid ([Sh.str]) x1), (11, .row ([Sh.str]) 9 v.2)], 12, []⟩
noncomputable def rfr_L2_T (x0 : ByteArray) (x1 : List (List Ct)) (v : Int × List (List Ct)) : Ex × St := ((.exit 2), ⟨(rfr_L2_S x0 x1 v).fr, (rfr_L2_S x0 x1 v).hp, 13, []⟩)
noncomputable def rfr_L2_rd (ex : Ex) (s : St) : Option ((Int × List (List Ct)) ⊕ (Int × List (List Ct))) × List (Nat × Option Nat) := match ex with
  | .normal => (some (.inl (rI (frC s 9 0), rL s (frC s 8 0))), [rnOf 11 (frC s 8 0)])
  | .exit i => bif Nat.beq i 2 then (some (.inr (rI (frC s 9 0), rL s (frC s 8 0))), [(11, some 11)]) else (none, [])
  | _ => (none, [])
noncomputable def rfr_c70118443 (x0 : ByteArray) (x1 : List (List Ct)) (vi0 : Int) : ByteArray := tim_v (32 : Int) (IntKind.i64.wrap ((rfr_L0_v x0 x1).fst - (↑(rd x1 vi0.toNat 0).str.size : Int)))
noncomputable def rfr_L2_step (x0 : ByteArray) (x1 : List (List Ct)) : (Int × List (List Ct)) → Option ((Int × List (List Ct)) ⊕ (Int × List (List Ct))) := fun v => match v with
  | (vi0, vl0) => bif (decide (vi0 < (↑x1.length : Int))) then (bif (decide ((0 : Int) ≤ vi0 ∧ vi0 < (↑x1.length : Int))) then bif (decide ((ByteArray.mk #[(124 : UInt8), (32 : UInt8)]).size + (rd x1 vi0.toNat 0).str.size ≤ 9223372036854775807)) then bif (decide ((0 : Int) ≤ vi0 ∧ vi0 < (↑x1.length : Int))) then bif ((tim_res (32 : Int) (IntKind.i64.wrap ((rfr_L0_v x0 x1).fst - (↑(rd x1 vi0.toNat 0).str.size : Int)))).isSome) then bif (decide ((ByteArray.mk #[(124 : UInt8), (32 : UInt8)] ++ (rd x1 vi0.toNat 0).str).size + (rfr_c70118443 x0 x1 vi0).size ≤ 9223372036854775807)) then bif (decide ((ByteArray.mk #[(124 : UInt8), (32 : UInt8)] ++ (rd x1 vi0.toNat 0).str ++ rfr_c70118443 x0 x1 vi0).size + (ByteArray.mk #[(32 : UInt8), (124 : UInt8)]).size ≤ 9223372036854775807)) then bif (decide (vl0.length + [[Ct.s (ByteArray.mk #[(124 : UInt8), (32 : UInt8)] ++ (rd x1 vi0.toNat 0).str ++ rfr_c70118443 x0 x1 vi0 ++ ByteArray.mk #[(32 : UInt8), (124 : UInt8)])]].length ≤ 9223372036854775807 ∧ (vl0.length + [[Ct.s (ByteArray.mk #[(124 : UInt8), (32 : UInt8)] ++ (rd x1 vi0.toNat 0).str ++ rfr_c70118443 x0 x1 vi0 ++ ByteArray.mk #[(32 : UInt8), (124 : UInt8)])]].length) * 16 ≤ 140737488355328)) then some (.inl (IntKind.i64.wrap (vi0 + (1 : Int)), vl0 ++ [[Ct.s (ByteArray.mk #[(124 : UInt8), (32 : UInt8)] ++ (rd x1 vi0.toNat 0).str ++ rfr_c70118443 x0 x1 vi0 ++ ByteArray.mk #[(32 : UInt8), (124 : UInt8)])]])) else none else none else none else none else none else none else none) else some (.inr (vi0, vl0))
noncomputable def rfr_L2_c : Code := loopC Try.prog 10 2
set_option maxRecDepth 100000 in
theorem rfr_L2_ok (x0 : ByteArray) (x1 : List (List Ct)) : ∀ v, StepOk Try.prog 1 rfr_L2_c (rfr_L2_S x0 x1) (rfr_L2_T x0 x1) v (rfr_L2_step x0 x1 v) := fun v => match v with | (vi0, vl0) => eng_step (C := (⟨consGl3, fun f id nx => bif Nat.beq f 10 then (bif Nat.beq id 0 then some (rfr_L0_lc x0 x1) else none) else none, fun f => ⟨false, Nat.beq f 10⟩, noFacts, fun _ => 104⟩ : Cfg Try.prog)) noFacts_ok (n := 30) (f := 10) rfr_L2_rd (fun _ => rfl) (by kernel_rfl)
noncomputable def rfr_L2_p (x0 : ByteArray) (x1 : List (List Ct)) : Bool := (iter (rfr_L2_step x0 x1) (x1.length + 1) (0, ([[Ct.s (ByteArray.mk #[(43 : UInt8)] ++ rfr_c98323965 x0 x1 ++ ByteArray.mk #[(43 : UInt8)])], [Ct.s (ByteArray.mk #[(124 : UInt8), (32 : UInt8)] ++ x0 ++ rfr_c88574639 x0 x1 ++ ByteArray.mk #[(32 : UInt8), (124 : UInt8)])], [Ct.s (ByteArray.mk #[(43 : UInt8)] ++ rfr_c98323965 x0 x1 ++ ByteArray.mk #[(43 : UInt8)])]]))).isSome
noncomputable def rfr_L2_v (x0 : ByteArray) (x1 : List (List Ct)) : Int × List (List Ct) := loopRes (rfr_L2_step x0 x1) (x1.length + 1) (0, ([[Ct.s (ByteArray.mk #[(43 : UInt8)] ++ rfr_c98323965 x0 x1 ++ ByteArray.mk #[(43 : UInt8)])], [Ct.s (ByteArray.mk #[(124 : UInt8), (32 : UInt8)] ++ x0 ++ rfr_c88574639 x0 x1 ++ ByteArray.mk #[(32 : UInt8), (124 : UInt8)])], [Ct.s (ByteArray.mk #[(43 : UInt8)] ++ rfr_c98323965 x0 x1 ++ ByteArray.mk #[(43 : UInt8)])]]))
set_option maxRecDepth 100000 in
noncomputable def rfr_L2_lc (x0 : ByteArray) (x1 : List (List Ct)) : LoopCon Try.prog := loopCon Try.prog 1 rfr_L2_c [(11, some 11)] (rfr_L2_S x0 x1) (rfr_L2_T x0 x1) 2 (rfr_L2_step x0 x1) (rfr_L2_ok x0 x1) (x1.length + 1) (0, ([[Ct.s (ByteArray.mk #[(43 : UInt8)] ++ rfr_c98323965 x0 x1 ++ ByteArray.mk #[(43 : UInt8)])], [Ct.s (ByteArray.mk #[(124 : UInt8), (32 : UInt8)] ++ x0 ++ rfr_c88574639 x0 x1 ++ ByteArray.mk #[(32 : UInt8), (124 : UInt8)])], [Ct.s (ByteArray.mk #[(43 : UInt8)] ++ rfr_c98323965 x0 x1 ++ ByteArray.mk #[(43 : UInt8)])]])) (rfr_L2_p x0 x1) rfl (rfr_L2_v x0 x1) rfl
noncomputable def rfr_O (v : List (List Ct)) : Out := ⟨.sv (.one (.ext 14)), [(14, .row ([Sh.str]) 9 v)], 15, []⟩
noncomputable def rfr_rd (out : Out) : Option (List (List Ct)) := some (hpL' out.up 14)
noncomputable def rfr_res (x0 : ByteArray) (x1 : List (List Ct)) : Option (List (List Ct)) := bif (rfr_L0_p x0 x1) then bif ((tim_res (45 : Int) (IntKind.i64.wrap ((rfr_L0_v x0 x1).fst + (2 : Int)))).isSome) then bif (decide ((ByteArray.mk #[(43 : UInt8)]).size + (rfr_c98323965 x0 x1).size ≤ 9223372036854775807)) then bif (decide ((ByteArray.mk #[(43 : UInt8)] ++ rfr_c98323965 x0 x1).size + (ByteArray.mk #[(43 : UInt8)]).size ≤ 9223372036854775807)) then bif (decide ((ByteArray.mk #[(124 : UInt8), (32 : UInt8)]).size + x0.size ≤ 9223372036854775807)) then bif ((tim_res (32 : Int) (IntKind.i64.wrap ((rfr_L0_v x0 x1).fst - (↑x0.size : Int)))).isSome) then bif (decide ((ByteArray.mk #[(124 : UInt8), (32 : UInt8)] ++ x0).size + (rfr_c88574639 x0 x1).size ≤ 9223372036854775807)) then bif (decide ((ByteArray.mk #[(124 : UInt8), (32 : UInt8)] ++ x0 ++ rfr_c88574639 x0 x1).size + (ByteArray.mk #[(32 : UInt8), (124 : UInt8)]).size ≤ 9223372036854775807)) then bif (rfr_L2_p x0 x1) then bif (decide ((rfr_L2_v x0 x1).snd.length + [[Ct.s (ByteArray.mk #[(43 : UInt8)] ++ rfr_c98323965 x0 x1 ++ ByteArray.mk #[(43 : UInt8)])]].length ≤ 9223372036854775807 ∧ ((rfr_L2_v x0 x1).snd.length + [[Ct.s (ByteArray.mk #[(43 : UInt8)] ++ rfr_c98323965 x0 x1 ++ ByteArray.mk #[(43 : UInt8)])]].length) * 16 ≤ 140737488355328)) then some ((rfr_L2_v x0 x1).snd ++ [[Ct.s (ByteArray.mk #[(43 : UInt8)] ++ rfr_c98323965 x0 x1 ++ ByteArray.mk #[(43 : UInt8)])]]) else none else none else none else none else none else none else none else none else none else none
set_option maxRecDepth 100000 in
theorem rfr_tree {x0 : ByteArray} {x1 : List (List Ct)} {v : List (List Ct)} (h : rfr_res x0 x1 = some v) : CallOk Try.prog 10 [.sv (.one (.val false (.string x0))), .sv (.one (.ext 0))] [(0, .grid [.str] x1)] 1 (rfr_O v) :=
  eng_tree (C := (⟨consGl3, fun f id nx => bif Nat.beq f 10 then (bif Nat.beq id 0 then some (rfr_L0_lc x0 x1) else bif Nat.beq id 2 then some (rfr_L2_lc x0 x1) else none) else none, fun f => ⟨false, Nat.beq f 10⟩, noFacts, fun _ => 104⟩ : Cfg Try.prog)) noFacts_ok (n := 30) (f := 10) rfr_O rfr_rd rfl (by kernel_rfl) h
noncomputable def rfr_v (x0 : ByteArray) (x1 : List (List Ct)) : List (List Ct) := (rfr_res x0 x1).getD default
theorem rfr_spec (x0 : ByteArray) (x1 : List (List Ct)) (h : ((rfr_res x0 x1).isSome) = true) : rfr_res x0 x1 = some (rfr_v x0 x1) := opt_get h
noncomputable def rfr_m (args : List RV) (hp : Hp) : Option ((ByteArray × List (List Ct)) × List Nat) := match args with
  | [.sv (.one (.val _ (.string x0))), .sv (.one (.ext i0))] => (match gridAt hp i0 [.str] with
    | some x1 => some ((x0, x1), [i0])
    | _ => none)
  | _ => none
noncomputable def rfr_con : Con Try.prog := conX Try.prog 10 rfr_m 1 (fun x => [.sv (.one (.val false (.string x.1))), .sv (.one (.ext 0))]) (fun x => [(0, .grid [.str] x.2)]) (fun x => some ((rfr_res x.1 x.2).isSome)) (fun x => rfr_O (rfr_v x.1 x.2))
  (by
    intro args hp x r h
    unfold rfr_m at h
    split at h
    · split at h
      · rename_i g0
        cases h
        refine ⟨rfl, fun nx => ⟨rfl, ?_, ?_⟩⟩
        · intro i hi
          simp only [List.mem_cons, List.not_mem_nil, or_false] at hi
          rcases hi with rfl
          · exact ⟨_, List.mem_of_getElem? (i := 1) rfl, .inl (by simp [RV.ids, SV.ids, CV.ids])⟩
        · intro id o0 ho
          have := hlook_mem ho
          simp only [List.mem_cons, Prod.mk.injEq, List.not_mem_nil, or_false] at this
          rcases this with ⟨rfl, rfl⟩
          · exact ⟨_, gridAt_spec g0, rfl⟩
      · cases h
    · cases h)
  (fun x h => ⟨rfl, rfl, rfr_tree (rfr_spec x.1 x.2 (h _ rfl))⟩)
noncomputable def consGl5 : List (Con Try.prog) := [rfr_con] ++ consGl4
end Go.Proofs.Ytjjijaeoafeocaa
