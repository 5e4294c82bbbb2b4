import Derived.Test.YtbcdcpkofgfofaaProg
import Derived.Test.YtbcdcpkofgfofaaGV
import Derived.Test.YtbcdcpkofgfofaaGN
import Derived.Test.YtbcdcpkofgfofaaGI
set_option linter.unusedVariables false
set_option linter.unusedSimpArgs false
set_option maxRecDepth 100000
namespace Go.Proofs.Ytbcdcpkofgfofaa
open Go Go.Gol
/-! ### slices.Chunk (by hand) -/
noncomputable abbrev C28 : Code := Try.f28.body.getD .skip
noncomputable abbrev C39 : Code := Try.f39.body.getD .skip
theorem EChk : ElemInfo Try.prog 31 5 1 1 := ElemInfo.mk' (.int .u8 0) (by kernel_rfl) (by kernel_rfl) rfl
theorem chunk_loop {Q : Kx} {l b1 b2 : Nat} {A : Option Addr} {len cap sz : Nat} {rcd : Loop} {J : Nat → World → Prop} {Jx : World → Prop} (hsz : 1 ≤ sz) (hsz2 : sz ≤ 1000000) (hlen : len ≤ 4611686018427387904) (hps : rcd.params.size = 1) (hA : len ≠ 0 → A.isSome = true) (hcap : len ≤ cap)
    (hJ : ∀ o w, J o w → w.heap[l]? = some (.loop rcd) ∧ w.heap[b1]? = some (.cells #[.slice A len cap] 31 (0, 0)) ∧ w.heap[b2]? = some (.cells #[.int .i64 (sz : Int)] 3 (0, 0)))
    (hJs : ∀ o w w', J o w → w'.heap = w.heap → Alike' w w' → J o w')
    (hY : ∀ o w, o < len → J o w → RoundIn (fw none) 0 Try.prog l rcd.fn ((rcd.params.zip #[chv A o len sz]).foldl (fun tmps (t, a) => tmps.setIfInBounds t a) rcd.tmps) rcd.assign rcd.body w (fun e w' => (e = .returned (.bool true) ∧ J (o + sz) w') ∨ (e = .returned (.bool false) ∧ Jx w')))
    (hn0 : ∀ w o, len ≤ o → J o w → At Q (.exit 0) 31 [] w) (hn1 : ∀ w, Jx w → At Q .ret 31 [] w) :
    ∀ (m o : Nat) (w : World), len - o < m → o ≤ len + sz → J o w → WL Try.prog (cbody (cbody (cr C39))) Q 31 [(0, .func (.yield l) #[] #[]), (1, .pointer (some ⟨b1, 0, none⟩)), (2, .pointer (some ⟨b2, 0, none⟩)), (4, .int .i64 (o : Int))] w := by
  have hcell : ∀ {w : World} {b : Nat} {v : Value} {t : TypeId}, w.heap[b]? = some (.cells #[v] t (0, 0)) → w.cell? ⟨b, 0, none⟩ = some v := fun h => by rw [cell_of_hp h]; rfl
  intro m
  induction m with
  | zero => intro o w hm; omega
  | succ m ih =>
    intro o w hm ho hj
    obtain ⟨h1, h2, h3⟩ := hJ o w hj
    refine WL.round ?_
    refine WC.seq (by kernel_rfl) ?_
    refine WC.seq (by kernel_rfl) ?_
    refine WC.reg [0, 1, 2, 3] (by kernel_rfl) (by kernel_rfl) ?_
    refine WR.runk [0] [1, 2, 3] [0, 1, 2, 4, 6] (L' := [(0, .func (.yield l) #[] #[]), (1, .pointer (some ⟨b1, 0, none⟩)), (2, .pointer (some ⟨b2, 0, none⟩)), (4, .int .i64 (o : Int)), (6, .int .i64 (o : Int))]) (w' := w) (by kernel_rfl) ?_
    refine WR.st (St.ofR (RSt.load (t := 31) (.tmp 1) ⟨b1, 0, none⟩ (by kernel_rfl) (by kernel_rfl) (by kernel_rfl) rfl (hcell h2) ?_))
    refine WR.runk [2, 3] [] [0, 1, 2, 4, 9] (L' := [(0, .func (.yield l) #[] #[]), (1, .pointer (some ⟨b1, 0, none⟩)), (2, .pointer (some ⟨b2, 0, none⟩)), (4, .int .i64 (o : Int)), (9, .bool (decide ((o : Int) < (len : Int))))]) (w' := w) (by kernel_rfl) ?_
    refine WR.nil ?_
    refine At.go ?_
    refine WC.cond (by kernel_rfl) (decide ((o : Int) < (len : Int))) (by kernel_rfl) (by kernel_rfl) (fun hb => ?_) (fun hb => ?_)
    · rw [decide_eq_true_eq] at hb
      have hol : o < len := by omega
      refine WC.skip (by kernel_rfl) ?_
      refine At.go ?_
      refine WC.seq (by kernel_rfl) ?_
      refine WC.block (by kernel_rfl) ?_
      refine WC.seq (by kernel_rfl) ?_
      refine WC.drawn (by kernel_rfl) (by kernel_rfl) 7 (by kernel_rfl) (fun w1 hw1 => ?_)
      replace hj := hJs o w w1 hj hw1.1 hw1.2
      obtain ⟨h1, h2, h3⟩ := hJ o w1 hj
      refine WD.weaken [0, 1, 2, 4] (L' := [(0, .func (.yield l) #[] #[]), (1, .pointer (some ⟨b1, 0, none⟩)), (2, .pointer (some ⟨b2, 0, none⟩)), (4, .int .i64 (o : Int))]) (by kernel_rfl) ?_
      refine WD.ofR (i := 0) (by kernel_rfl) (RSt.load (t := 3) (.tmp 2) ⟨b2, 0, none⟩ (by kernel_rfl) (by kernel_rfl) (by kernel_rfl) rfl (hcell h3) ?_)
      refine WD.ofR (i := 1) (by kernel_rfl) (RSt.load (t := 31) (.tmp 1) ⟨b1, 0, none⟩ (by kernel_rfl) (by kernel_rfl) (by kernel_rfl) rfl (hcell h2) ?_)
      refine WD.pure (i := 2) (v := .int .i64 (o : Int)) (by kernel_rfl) (by kernel_rfl) (fun _ => by kernel_rfl) ?_
      refine WD.ofP (i := 3) (by kernel_rfl) (PSt.cut (A := A) (m := len) (c := cap) (l := o) (h := len) (mm := cap) (.tmp 14) (some (.tmp 15)) none none (by kernel_rfl) (by kernel_rfl) EChk (by kernel_rfl) (lv := some (.int .i64 (o : Int))) (hv := none) (mv := none) (by kernel_rfl) (by kernel_rfl) (by kernel_rfl) (fun w => by have := bounds_some_none (P := Try.prog) (k := .i64) (m := len) (c := cap) (j := (o : Int)) (by omega) (by omega) w; simpa using this) ?_)
      refine WD.pure (i := 4) (v := .int .i64 ((len - o : Nat) : Int)) (by kernel_rfl) (by kernel_rfl) (fun _ => by kernel_rfl) ?_
      refine WD.pure (i := 5) (v := .int .i64 (imin (sz : Int) ((len - o : Nat) : Int))) (by kernel_rfl) (by kernel_rfl) (fun _ => by kernel_rfl) ?_
      refine WD.pure (i := 6) (v := .int .i64 (imin (sz : Int) ((len - o : Nat) : Int))) (by kernel_rfl) (by kernel_rfl) (fun _ => by kernel_rfl) ?_
      refine WD.weaken [0, 1, 2, 4, 5] (L' := [(0, .func (.yield l) #[] #[]), (1, .pointer (some ⟨b1, 0, none⟩)), (2, .pointer (some ⟨b2, 0, none⟩)), (4, .int .i64 (o : Int)), (5, .int .i64 (imin (sz : Int) ((len - o : Nat) : Int)))]) (by kernel_rfl) ?_
      refine WD.nil (by kernel_rfl) ?_
      rw [show imin (sz : Int) ((len - o : Nat) : Int) = ((min sz (len - o) : Nat) : Int) from by unfold imin; split <;> omega]
      have hmn1 : 1 ≤ min sz (len - o) := by omega
      have hmn2 : min sz (len - o) ≤ sz := by omega
      have hmn3 : o + min sz (len - o) ≤ len := by omega
      have hround := hY o w1 hol hj
      have hchv : chv A o len sz = .slice (some (adr A o 1)) (min sz (len - o)) (min sz (len - o)) := rfl
      rw [hchv] at hround
      generalize hmne : min sz (len - o) = mn at hmn1 hmn2 hmn3 hround ⊢
      have hcut : Value.slice (if o + mn = o then A else A.map (·.add (o * 1))) (o + mn - o) (o + mn - o) = .slice (some (adr A o 1)) mn mn := by
        rw [if_neg (by omega), show o + mn - o = mn by omega]
        have := hA (by omega)
        cases A with
        | none => cases this
        | some a => rfl
      refine At.go ?_
      refine WC.seq (by kernel_rfl) ?_
      refine WC.reg [0, 1, 2, 3, 4, 5, 6, 7, 8, 9, 10, 11] (by kernel_rfl) (by kernel_rfl) ?_
      refine WR.runk [0] [1, 2, 3, 4, 5, 6, 7, 8, 9, 10, 11] [0, 1, 2, 4, 5, 19] (L' := [(0, .func (.yield l) #[] #[]), (1, .pointer (some ⟨b1, 0, none⟩)), (2, .pointer (some ⟨b2, 0, none⟩)), (4, .int .i64 (o : Int)), (5, .int .i64 (mn : Int)), (19, .func (.yield l) #[] #[])]) (w' := w1) (by kernel_rfl) ?_
      refine WR.st (St.ofR (RSt.load (t := 31) (.tmp 1) ⟨b1, 0, none⟩ (by kernel_rfl) (by kernel_rfl) (by kernel_rfl) rfl (hcell h2) ?_))
      refine WR.runk [2, 3, 4, 5, 6, 7, 8] [9, 10, 11] [0, 1, 2, 4, 19, 20, 21, 24, 27] (L' := [(0, .func (.yield l) #[] #[]), (1, .pointer (some ⟨b1, 0, none⟩)), (2, .pointer (some ⟨b2, 0, none⟩)), (4, .int .i64 (o : Int)), (19, .func (.yield l) #[] #[]), (20, .slice A len cap), (21, .int .i64 (o : Int)), (24, .int .i64 (wi ((o : Int) + (mn : Int)))), (27, .int .i64 (wi ((o : Int) + (mn : Int))))]) (w' := w1) (by kernel_rfl) ?_
      rw [wi_eq (n := (o : Int) + (mn : Int)) (by omega) (by omega)]
      refine WR.st (St.ofP (PSt.cut (A := A) (m := len) (c := cap) (l := o) (h := o + mn) (mm := o + mn) (.tmp 20) (some (.tmp 21)) (some (.tmp 24)) (some (.tmp 27)) (by kernel_rfl) (by kernel_rfl) EChk (by kernel_rfl) (lv := some (.int .i64 (o : Int))) (hv := some (.int .i64 ((o : Int) + (mn : Int)))) (mv := some (.int .i64 ((o : Int) + (mn : Int)))) (by kernel_rfl) (by kernel_rfl) (by kernel_rfl) (fun w => by have := bounds_all (P := Try.prog) (k := .i64) (k2 := .i64) (k3 := .i64) (m := len) (c := cap) (j := (o : Int)) (j2 := (o : Int) + (mn : Int)) (j3 := (o : Int) + (mn : Int)) (by omega) (by omega) (by omega) (by omega) w; rw [show ((o : Int) + (mn : Int)).toNat = o + mn by omega, Int.toNat_natCast] at this; exact this) ?_))
      rw [hcut]
      refine WR.rnd (xv := .slice (some (adr A o 1)) mn mn) (R := fun v w' => (v = .bool true ∧ J (o + sz) w') ∨ (v = .bool false ∧ Jx w')) (g := .tmp 19) (x := .tmp 28) (tys := #[31]) (by kernel_rfl) (by kernel_rfl) (by kernel_rfl) (by kernel_rfl) h1 hps (hround.mono (fun e w' h => by
        rcases h with ⟨rfl, h⟩ | ⟨rfl, h⟩
        · exact ⟨_, rfl, .inl ⟨rfl, h⟩⟩
        · exact ⟨_, rfl, .inr ⟨rfl, h⟩⟩)) (fun v w2 hR => ?_)
      rcases hR with ⟨rfl, hj2⟩ | ⟨rfl, hjx⟩
      · obtain ⟨g1, g2, g3⟩ := hJ (o + sz) w2 hj2
        refine WR.runk [11] [] [0, 1, 2, 4, 30] (L' := [(0, .func (.yield l) #[] #[]), (1, .pointer (some ⟨b1, 0, none⟩)), (2, .pointer (some ⟨b2, 0, none⟩)), (4, .int .i64 (o : Int)), (30, .bool false)]) (w' := w2) (by kernel_rfl) ?_
        refine WR.nil ?_
        refine At.go ?_
        refine WC.cond (by kernel_rfl) false (by kernel_rfl) (by kernel_rfl) (fun hb => by cases hb) (fun hb => ?_)
        refine WC.skip (by kernel_rfl) ?_
        refine At.blockNormal ?_
        refine At.go ?_
        refine WC.reg [0, 1, 2, 3] (by kernel_rfl) (by kernel_rfl) ?_
        refine WR.runk [0] [1, 2, 3] [0, 1, 2, 10] (L' := [(0, .func (.yield l) #[] #[]), (1, .pointer (some ⟨b1, 0, none⟩)), (2, .pointer (some ⟨b2, 0, none⟩)), (10, .int .i64 (o : Int))]) (w' := w2) (by kernel_rfl) ?_
        refine WR.st (St.ofR (RSt.load (t := 3) (.tmp 2) ⟨b2, 0, none⟩ (by kernel_rfl) (by kernel_rfl) (by kernel_rfl) rfl (hcell g3) ?_))
        refine WR.runk [2, 3] [] [0, 1, 2, 4] (L' := [(0, .func (.yield l) #[] #[]), (1, .pointer (some ⟨b1, 0, none⟩)), (2, .pointer (some ⟨b2, 0, none⟩)), (4, .int .i64 (wi ((o : Int) + (sz : Int))))]) (w' := w2) (by kernel_rfl) ?_
        refine WR.nil ?_
        refine At.again ?_
        rw [wi_eq (n := (o : Int) + (sz : Int)) (by omega) (by omega), show ((o : Int) + (sz : Int)) = ((o + sz : Nat) : Int) by omega]
        exact ih (o + sz) w2 (by omega) (by omega) hj2
      · refine WR.runk [11] [] [30] (L' := [(30, .bool true)]) (w' := w2) (by kernel_rfl) ?_
        refine WR.nil ?_
        refine At.go ?_
        refine WC.cond (by kernel_rfl) true (by kernel_rfl) (by kernel_rfl) (fun hb => ?_) (fun hb => by cases hb)
        refine WC.ret (by kernel_rfl) ?_
        refine At.blockRet ?_
        refine At.thenRet ?_
        refine At.thenRet ?_
        refine At.weaken [] (L' := []) (by kernel_rfl) ?_
        exact hn1 w2 hjx
    · rw [decide_eq_false_iff_not] at hb
      refine WC.exit (by kernel_rfl) ?_
      refine At.thenExit ?_
      refine At.thenExit ?_
      refine At.weaken [] (L' := []) (by kernel_rfl) ?_
      exact hn0 w o (by omega) hj
theorem chunk_it : ChunkIt Try.prog 39 31 3 := by
  intro l b1 b2 A len cap sz rcd J Jx w0 hsz hsz2 hlen hst hps hA hcap hJ hJs hY h0
  refine calls_of_WC (vs := [.func (.yield l) #[] #[], .pointer (some ⟨b1, 0, none⟩), .pointer (some ⟨b2, 0, none⟩)]) Try.func39 (c := C39) (n := 31) (by kernel_rfl) (by kernel_rfl) (by kernel_rfl) ?_
  refine WC.seq (by kernel_rfl) ?_
  refine WC.reg [0] (by kernel_rfl) (by kernel_rfl) ?_
  refine WR.runk [0] [] [0, 1, 2, 4] (L' := [(0, .func (.yield l) #[] #[]), (1, .pointer (some ⟨b1, 0, none⟩)), (2, .pointer (some ⟨b2, 0, none⟩)), (4, .int .i64 0)]) (w' := w0) (by kernel_rfl) ?_
  refine WR.nil ?_
  refine At.go ?_
  refine WC.block (by kernel_rfl) ?_
  refine WC.loop (by kernel_rfl) ?_
  refine chunk_loop hsz hsz2 hlen hps hA hcap hJ hJs hY (fun w o ho hj => ?_) (fun w hjx => ?_) (len + 1) 0 w0 (by omega) (by omega) h0
  · refine At.hit ?_
    exact At.bodyEnd [] (by kernel_rfl) ⟨⟨_, rfl⟩, .inl ⟨o, ho, hj⟩⟩
  · refine At.blockRet ?_
    exact At.body [] (by kernel_rfl) ⟨⟨_, rfl⟩, .inr hjx⟩
theorem chunk_enters (args : Array Value) (w : World) : (callFunc 39 args).run Try.prog w = .ok (.enter 39 args) w := by kernel_rfl
/-- Chunk itself: the function, and two boxes -/
theorem chunk_calls (w0 : World) (A0 : Option Addr) (c0 m0 : Nat) (a1 : Int) (h1 : 1 ≤ a1) :
    Calls Try.prog 28 #[.slice A0 m0 c0, .int .i64 a1] w0 (fun e w' => ∃ v, e = .returned v ∧ ∃ b1 b2, v = .func (.func 39) #[] #[.pointer (some ⟨b1, 0, none⟩), .pointer (some ⟨b2, 0, none⟩)] ∧ Sat w' (rf w0) [pts b1 (.cells #[.slice A0 m0 c0] 31 (0, 0)), pts b2 (.cells #[.int .i64 a1] 3 (0, 0))]) := by
  refine calls_of_WC (vs := [.slice A0 m0 c0, .int .i64 a1]) Try.func28 (c := C28) (n := 9) (by kernel_rfl) (by kernel_rfl) (by kernel_rfl) ?_
  have hS : Sat w0 (rf w0) [] := Sat.start w0
  refine WC.seq (by kernel_rfl) ?_
  refine WC.reg [0, 1, 2] (by kernel_rfl) (by kernel_rfl) ?_
  refine WR.runk [] [0, 1, 2] [0, 1] (L' := [(0, .slice A0 m0 c0), (1, .int .i64 a1)]) (w' := w0) (by kernel_rfl) ?_
  refine WR.st (St.box hS (by kernel_rfl) (.cells #[.slice A0 m0 c0] 31 (0, 0)) (fun b => .pointer (some ⟨b, 0, none⟩)) (fun _ => by kernel_rfl) (fun b1 w1 hS => ?_))
  refine WR.st (St.box hS (by kernel_rfl) (.cells #[.int .i64 a1] 3 (0, 0)) (fun b => .pointer (some ⟨b, 0, none⟩)) (fun _ => by kernel_rfl) (fun b2 w2 hS => ?_))
  refine WR.runk [2] [] [2, 3, 4] (L' := [(2, .pointer (some ⟨b1, 0, none⟩)), (3, .pointer (some ⟨b2, 0, none⟩)), (4, .nilFunc)]) (w' := w2) (by kernel_rfl) ?_
  refine WR.nil ?_
  refine At.go ?_
  refine WC.seq (by kernel_rfl) ?_
  refine WC.seq (by kernel_rfl) ?_
  refine WC.reg [0, 1] (by kernel_rfl) (by kernel_rfl) ?_
  refine WR.st (St.ofR (RSt.loadObj (t := 3) (k := 0) (v := .int .i64 a1) (.tmp 3) (by kernel_rfl) (by kernel_rfl) (by kernel_rfl) 0 hS rfl (by kernel_rfl) rfl ?_))
  refine WR.runk [1] [] [2, 3, 4, 6] (L' := [(2, .pointer (some ⟨b1, 0, none⟩)), (3, .pointer (some ⟨b2, 0, none⟩)), (4, .nilFunc), (6, .bool (decide (a1 < 1)))]) (w' := w2) (by kernel_rfl) ?_
  refine WR.nil ?_
  refine At.go ?_
  refine WC.cond (by kernel_rfl) (decide (a1 < 1)) (by kernel_rfl) (by kernel_rfl) (fun hb => ?_) (fun hb => ?_)
  · exfalso; rw [decide_eq_true_eq] at hb; omega
  · refine WC.skip (by kernel_rfl) ?_
    refine At.go ?_
    refine WC.seq (by kernel_rfl) ?_
    refine WC.reg [0, 1] (by kernel_rfl) (by kernel_rfl) ?_
    refine WR.runk [0, 1] [] [4] (L' := [(4, .func (.func 39) #[] #[.pointer (some ⟨b1, 0, none⟩), .pointer (some ⟨b2, 0, none⟩)])]) (w' := w2) (by kernel_rfl) ?_
    refine WR.nil ?_
    refine At.go ?_
    refine WC.ret (by kernel_rfl) ?_
    exact At.body [.func (.func 39) #[] #[.pointer (some ⟨b1, 0, none⟩), .pointer (some ⟨b2, 0, none⟩)]] (by kernel_rfl) ⟨_, rfl, b1, b2, rfl, hS.sel [1, 0] (by kernel_rfl)⟩
end Go.Proofs.Ytbcdcpkofgfofaa
