import Derived.Test.YtbcdcpkofgfofaaGCh
set_option linter.unusedVariables false
set_option linter.unusedSimpArgs false
set_option maxRecDepth 100000
namespace Go.Proofs.Ytbcdcpkofgfofaa
open Go Go.Gol
/-! ### slices.Grow of nothing (by hand) -/
noncomputable abbrev C45 : Code := Try.f45.body.getD .skip
theorem run_appendZ {P : Program} {t ty t2 e : TypeId} {k : IntKind} {w : World} (hE : ElemInfo P t e 1 1) (h2 : P.underlying t2 = some (.int k)) (n : Nat) (h0 : 0 < n) (h48 : n ≤ 140737488355328) :
    ∃ z : Value, z.cells.size = 1 ∧ (Builtin.append_ #[t, t2] ty #[.slice none 0 0, .int .i64 (n : Int)]).run P w =
      .ok (.slice (some ⟨w.heap.size, 0, none⟩) n (grownCap w n 0 e)) (w.drew.alloc (.cells (Builtin.zeroCells z.cells n ++ Builtin.zeroCells z.cells (grownCap w n 0 e - n)) e)) := by
  obtain ⟨hu, inf, z, hi, hz, hsz, hb, hc⟩ := hE
  refine ⟨z, hc, ?_⟩
  have hw : IntKind.wrap .i64 (n : Int) = (n : Int) := wi_eq (by omega) (by omega)
  have hn : ¬ n = 0 := by omega
  have hneg : ¬ ((n : Int) < 0) := by omega
  have hbig : ¬ (281474976710656 < (n : Int)) := by omega
  have h63' : ¬ (9223372036854775807 < (n : Int)) := by omega
  have h48' : ¬ (281474976710656 < Builtin.nextslicecap n 0) := by rw [nextslicecap_zero h0]; omega
  simp [Builtin.append_, run_underlying hu, run_underlying h2, sizeOf, typeInfo, zeroValue, hi, hz, hsz, hb, asInt, asIntOf, hw, hneg, hbig, h63', h48', hn, Question.forced, Builtin.firstCells, newRow, grownCap]
theorem St.appendZ {P : Program} {n i : Nat} {ops : Array Oper} {L : SL} {w : World} {K : Value → World → Prop} {t t2 e : TypeId} {k : IntKind} {B : Rf} {cs : List HP} (s x : Operand) (hop : (opAt ops i).op = .call { callee := .builtin .append, args := #[s, x], argTypes := #[t, t2] }) (hrd : ready n ops L i = true) (hE : ElemInfo P t e 1 1) (h2 : P.underlying t2 = some (.int k))
    (hS : Sat w B cs) (m : Nat) (hs : rho L s = .slice none 0 0) (hx : rho L x = .int .i64 (m : Int)) (h0 : 0 < m) (h48 : m ≤ 140737488355328)
    (hh : ∀ b c w', m ≤ c → c ≤ maxLen → (∀ {α : Type} (R : List Value → α → Prop), Sat w' B (osl e R 1 (some ⟨b, 0, none⟩) c ([] : List α) :: cs)) → K (.slice (some ⟨b, 0, none⟩) m c) w') : St P n ops L i w K := by
  obtain ⟨z, hz, hrun⟩ := run_appendZ (ty := (opAt ops i).type) (w := w) hE h2 m h0 h48
  have hge := grownCap_ge w m 0 e
  have hcm := grownCap_le_maxLen w m 0 e (by simp only [maxLen]; omega)
  refine St.val (v := .slice (some ⟨w.heap.size, 0, none⟩) m (grownCap w m 0 e)) (w' := w.drew.alloc (.cells (Builtin.zeroCells z.cells m ++ Builtin.zeroCells z.cells (grownCap w m 0 e - m)) e)) hrd ?_ (hh _ _ _ hge hcm (fun {α} R => ?_))
  · simp only [execOp, hop, resolve, invoke, builtin, Sem.run_bind, Sem.run_pure, Result.andThen_ok, List.map_toArray, List.map_cons, List.map_nil, hs, hx, hrun]
  · have h1 : Sat w.drew B cs := hS.heap rfl ⟨rfl, rfl, rfl⟩
    have h2 := h1.alloc (.cells (Builtin.zeroCells z.cells m ++ Builtin.zeroCells z.cells (grownCap w m 0 e - m)) e)
    refine h2.mono1 (fun H hH => ⟨Nat.zero_le _, hcm, w.heap.size, 0, _, rfl, hH, ?_, ?_⟩)
    · simp [size_zeroCells, hz]; omega
    · simp only [List.length_nil, Nat.zero_mul, List.take_zero]
      exact rdL.nil _ _
def slices_Grow.f (a1 : Int) : Option (List Int) := if 0 ≤ a1 ∧ a1 ≤ 140737488355328 then some [] else none
theorem slices_Grow.calls (w0 : World) (a1 : Int) (r : List Int) (H : slices_Grow.f a1 = some r) :
    Calls Try.prog 45 #[.slice none 0 0, .int .i64 a1] w0 (fun e w' => ∃ v, e = .returned v ∧ ∃ A c, v = .slice A r.length c ∧ Sat w' (rf w0) [osl 5 (r0 (.int .u8)) 1 A c r]) := by
  unfold slices_Grow.f at H
  split at H
  case isFalse => cases H
  case isTrue hr =>
  obtain rfl := Option.some.inj H
  obtain ⟨n, rfl⟩ : ∃ n : Nat, a1 = (n : Int) := ⟨a1.toNat, by omega⟩
  have hn : n ≤ 140737488355328 := by omega
  have hS : Sat w0 (rf w0) [] := Sat.start w0
  refine calls_of_WC (vs := [.slice none 0 0, .int .i64 (n : Int)]) Try.func45 (c := C45) (n := 27) (by kernel_rfl) (by kernel_rfl) (by kernel_rfl) ?_
  refine WC.seq (by kernel_rfl) ?_
  refine WC.reg [0] (by kernel_rfl) (by kernel_rfl) ?_
  refine WR.runk [0] [] [0, 1] (L' := [(0, .slice none 0 0), (1, .int .i64 (n : Int))]) (w' := w0) (by kernel_rfl) ?_
  refine WR.nil ?_
  refine At.go ?_
  refine WC.seq (by kernel_rfl) ?_
  refine WC.seq (by kernel_rfl) ?_
  refine WC.reg [0, 1] (by kernel_rfl) (by kernel_rfl) ?_
  refine WR.runk [0, 1] [] [0, 1, 6] (L' := [(0, .slice none 0 0), (1, .int .i64 (n : Int)), (6, .bool (decide ((n : Int) < 0)))]) (w' := w0) (by kernel_rfl) ?_
  refine WR.nil ?_
  refine At.go ?_
  refine WC.cond (by kernel_rfl) (decide ((n : Int) < 0)) (by kernel_rfl) (by kernel_rfl) (fun hb => ?_) (fun hb => ?_)
  · exfalso; rw [decide_eq_true_eq] at hb; omega
  refine WC.skip (by kernel_rfl) ?_
  refine At.go ?_
  refine WC.seq (by kernel_rfl) ?_
  refine WC.seq (by kernel_rfl) ?_
  refine WC.reg [0, 1, 2, 3, 4, 5, 6, 7] (by kernel_rfl) (by kernel_rfl) ?_
  refine WR.runk [0, 1, 2, 3, 4, 5, 6, 7] [] [0, 1] (L' := [(0, .slice none 0 0), (1, .int .i64 (wi ((n : Int) - (wi 0))))]) (w' := w0) (by kernel_rfl) ?_
  rw [show wi ((n : Int) - wi 0) = (n : Int) from by rw [show wi 0 = 0 from rfl, Int.sub_zero, wi_eq (by omega) (by omega)]]
  refine WR.nil ?_
  refine At.go ?_
  refine WC.seq (by kernel_rfl) ?_
  refine WC.reg [0, 1] (by kernel_rfl) (by kernel_rfl) ?_
  refine WR.runk [0, 1] [] [0, 1, 16] (L' := [(0, .slice none 0 0), (1, .int .i64 (n : Int)), (16, .bool (decide ((n : Int) > 0)))]) (w' := w0) (by kernel_rfl) ?_
  refine WR.nil ?_
  refine At.go ?_
  refine WC.cond (by kernel_rfl) (decide ((n : Int) > 0)) (by kernel_rfl) (by kernel_rfl) (fun hb => ?_) (fun hb => ?_)
  · rw [decide_eq_true_eq] at hb
    refine WC.reg [0, 1, 2, 3, 4, 5, 6, 7, 8, 9] (by kernel_rfl) (by kernel_rfl) ?_
    refine WR.runk [0, 1, 2] [3, 4, 5, 6, 7, 8, 9] [0, 1, 17, 19] (L' := [(0, .slice none 0 0), (1, .int .i64 (n : Int)), (17, .slice none 0 0), (19, .int .i64 0)]) (w' := w0) (by kernel_rfl) ?_
    refine WR.st (St.ofP (PSt.cut (A := none) (m := 0) (c := 0) (l := 0) (h := 0) (mm := 0) (.tmp 17) none (some (.tmp 19)) none (by kernel_rfl) (by kernel_rfl) EChk (by kernel_rfl) (lv := none) (hv := some (.int .i64 0)) (mv := none) (by kernel_rfl) (by kernel_rfl) (by kernel_rfl) (fun w => by have := bounds_none_some (P := Try.prog) (k := .i64) (m := 0) (c := 0) (j := 0) (by omega) (by omega) w; simpa using this) ?_))
    refine WR.runk [4] [5, 6, 7, 8, 9] [0, 20, 21] (L' := [(0, .slice none 0 0), (20, .slice none 0 0), (21, .int .i64 (n : Int))]) (w' := w0) (by kernel_rfl) ?_
    refine WR.st (St.appendZ (t2 := 3) (k := .i64) (.tmp 20) (.tmp 21) (by kernel_rfl) (by kernel_rfl) EChk (by kernel_rfl) hS n (by kernel_rfl) (by kernel_rfl) (by omega) hn (fun b c w1 hc1 hc2 hS => ?_))
    refine WR.runk [6, 7] [8, 9] [22, 24] (L' := [(22, .slice (some ⟨b, 0, none⟩) n c), (24, .int .i64 0)]) (w' := w1) (by kernel_rfl) ?_
    refine WR.st (St.ofP (PSt.cut (A := some ⟨b, 0, none⟩) (m := n) (c := c) (l := 0) (h := 0) (mm := c) (.tmp 22) none (some (.tmp 24)) none (by kernel_rfl) (by kernel_rfl) EChk (by kernel_rfl) (lv := none) (hv := some (.int .i64 0)) (mv := none) (by kernel_rfl) (by kernel_rfl) (by kernel_rfl) (fun w => by have := bounds_none_some (P := Try.prog) (k := .i64) (m := n) (c := c) (j := 0) (by omega) (by omega) w; simpa using this) ?_))
    rw [if_neg (by omega), map_zero, Nat.sub_zero, Nat.sub_zero]
    refine WR.runk [9] [] [0] (L' := [(0, .slice (some ⟨b, 0, none⟩) 0 c)]) (w' := w1) (by kernel_rfl) ?_
    refine WR.nil ?_
    refine At.go ?_
    refine WC.seq (by kernel_rfl) ?_
    refine WC.reg [0, 1] (by kernel_rfl) (by kernel_rfl) ?_
    refine WR.runk [0, 1] [] [4] (L' := [(4, .slice (some ⟨b, 0, none⟩) 0 c)]) (w' := w1) (by kernel_rfl) ?_
    refine WR.nil ?_
    refine At.go ?_
    refine WC.ret (by kernel_rfl) ?_
    exact At.body [.slice (some ⟨b, 0, none⟩) 0 c] (by kernel_rfl) ⟨_, rfl, _, _, rfl, hS _⟩
  · refine WC.skip (by kernel_rfl) ?_
    refine At.go ?_
    refine WC.seq (by kernel_rfl) ?_
    refine WC.reg [0, 1] (by kernel_rfl) (by kernel_rfl) ?_
    refine WR.runk [0, 1] [] [4] (L' := [(4, .slice none 0 0)]) (w' := w0) (by kernel_rfl) ?_
    refine WR.nil ?_
    refine At.go ?_
    refine WC.ret (by kernel_rfl) ?_
    exact At.body [.slice none 0 0] (by kernel_rfl) ⟨_, rfl, _, _, rfl, Sat.addNil hS 5 (r0 (.int .u8)) 1⟩
end Go.Proofs.Ytbcdcpkofgfofaa
