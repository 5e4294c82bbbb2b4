/-
  Printed by gen.py (my own tool): for each Go function a plain Lean function and the proof that a call of it does what that function says.
-/
import Derived.Test.YtejjdfnelalnoaaGP1
set_option linter.unusedVariables false
set_option linter.unusedSimpArgs false
set_option maxRecDepth 100000
namespace Go.Proofs.Ytejjdfnelalnoaa
open Go Go.Gol
/-! ### 10 colophon/image.Open -/
def image_Open.l1 (l0 : List Int) : Nat → Nat → ((List (List Int)) × (List Int) × (List Int)) → Option (Sum ((List (List Int)) × (List Int) × (List Int)) (((List (List Int)) × (List Int) × (List Int)) × Int))
  | 0, _, _ => none
  | k + 1, o_rg, q9_l1 => (if o_rg < l0.length then ((page_Get.f ((l0.drop o_rg).take 264)).bind fun r29 => (if (r29.2.2 != 0) then some (.inr (q9_l1, 10)) else (if (r29.1 != (q9_l1.1.length : Int)) then some (.inr (q9_l1, 10)) else ((app? 5864062014805 q9_l1.1 [r29.2.1]).bind fun y59 => image_Open.l1 l0 k (o_rg + 264) (y59, q9_l1.2.1, q9_l1.2.2))))) else some (.inl q9_l1))
def image_Open.l2 (r81 : Bool × ((List (List Int)) × (List Int) × (List Int))) : Nat → (List (List Int)) → Int → Option (List (List Int))
  | 0, _, _ => none
  | k + 1, x9_l2, x68_l2 => (if decide (x68_l2 < (r81.2.2.1.length : Int)) then ((image_Image_Section.f (some (r81.2.1, r81.2.2.1, r81.2.2.2)) x68_l2).bind fun r100 => ((app? 5864062014805 x9_l2 [r100]).bind fun y114 => image_Open.l2 r81 k y114 (wi (x68_l2 + 1)))) else some x9_l2)
def image_Open.f (l0 : List Int) : Option ((Option ((List (List Int)) × (List Int) × (List Int))) × Int) := (if ((Int.tmod (l0.length : Int) 264) != 0) then some (none, 10) else (if ((l0.length : Int) == 0) then some (none, 10) else (if decide (wi (Int.tdiv (l0.length : Int) 264) > 4096) then some (none, 10) else ((chk? (decide (l0.length ≤ 4611686018427387904))).bind fun _ => (image_Open.l1 l0 FU 0 (([] : List (List Int)), ([] : List Int), ([] : List Int))).bind fun o70 => (match o70 with | .inl o75 => ((image_Image_head.f o75).bind fun r81 => (if (!r81.1) then some (none, 10) else ((image_Open.l2 r81 FU ([] : List (List Int)) 0).bind fun o123 => ((image_Build.f o123).bind fun r128 => (if (r128.2 != 0) then some (none, 10) else ((slices_Equal.f r128.1 l0).bind fun r142 => (if (!r142) then some (none, 10) else some (some r81.2, 0)))))))) | .inr o77 => some (none, o77.2))))))
def image_Open.post (w : World) (r : (Option ((List (List Int)) × (List Int) × (List Int))) × Int) (v : Value) (w' : World) : Prop := ∃ (v0 : Value), v = .tuple #[v0, .int .i64 r.2] ∧ Sat w' (rf w) [optP O52 v0 r.1]
theorem image_Open.l1_ok {Q} (w0 : World) (A0 : Option Addr) (c0 : Nat) (l0 : List Int) (b1 : Nat) (b4 : Nat) (b7 : Nat) (b10 : Nat) (b23 : Nat) (b24 : Nat) (R0 : rdS (r0 (.int .u8)) 1 (hp w0) A0 c0 l0) (T : Array Value) (l r fn : Nat) (D : List Deferred) (X : RC) (hX : X = ⟨Try.prog, Q, D, 92, [(0, .slice A0 l0.length c0), (2, .pointer (some ⟨b1, 0, none⟩)), (3, .pointer (some ⟨b4, 0, none⟩)), (4, .pointer (some ⟨b10, 0, none⟩)), (31, .func (.func 37) #[] #[.pointer (some ⟨b23, 0, none⟩), .pointer (some ⟨b24, 0, none⟩)])], T, l, r, fn, 32, rgas (cbody (cr (cl (cr (cr (cr C10)))))), rgbody (cbody (cr (cl (cr (cr (cr C10)))))), b23, b24, .cells #[.slice A0 l0.length c0] 22 (0, 0), .cells #[.int .i64 ((264 : Nat) : Int)] 3 (0, 0), A0, l0.length, 264⟩) (out : Sum ((List (List Int)) × (List Int) × (List Int)) (((List (List Int)) × (List Int) × (List Int)) × Int)) (hn0 : ∀ (o0 : ((List (List Int)) × (List Int) × (List Int))) (w : World), out = (.inl o0) → Sat w (rf w0) [mks D, O52 b7 o0, pts b1 (.cells #[.pointer none] 25 (0, 0)), pts b4 (.cells #[.int .i64 0] 26 (0, 0)), pts b10 (.cells #[.pointer (some ⟨b7, 0, none⟩)] 25 (0, 0))] → At ⟨Q, D, none⟩ .normal 92 [(0, .slice A0 l0.length c0), (2, .pointer (some ⟨b1, 0, none⟩)), (3, .pointer (some ⟨b4, 0, none⟩)), (4, .pointer (some ⟨b10, 0, none⟩))] w) (hn1 : ∀ (o1 : ((List (List Int)) × (List Int) × (List Int)) × Int) (w : World), out = (.inr o1) → Sat w (rf w0) [mks D, O52 b7 o1.1, pts b1 (.cells #[.pointer none] 25 (0, 0)), pts b4 (.cells #[.int .i64 o1.2] 26 (0, 0)), pts b10 (.cells #[.pointer (some ⟨b7, 0, none⟩)] 25 (0, 0))] → At ⟨Q, D, none⟩ .ret 92 [(2, .pointer (some ⟨b1, 0, none⟩)), (3, .pointer (some ⟨b4, 0, none⟩))] w) :
    ∀ (k : Nat) (o_rg : Nat) (q9_l1 : (List (List Int)) × (List Int) × (List Int)) (w : World), Sat w (rf w0) [pts l (X.ob .ready none), pts b23 (.cells #[.slice A0 l0.length c0] 22 (0, 0)), pts b24 (.cells #[.int .i64 ((264 : Nat) : Int)] 3 (0, 0)), mks D, O52 b7 q9_l1, pts b1 (.cells #[.pointer none] 25 (0, 0)), pts b4 (.cells #[.int .i64 0] 26 (0, 0)), pts b10 (.cells #[.pointer (some ⟨b7, 0, none⟩)] 25 (0, 0))] → image_Open.l1 l0 k o_rg q9_l1 = some out → RgK X o_rg w := by
  intro k
  induction k with
  | zero => intro o_rg q9_l1 w hS H; exact absurd (show none = some out from H) (by simp)
  | succ k ih =>
    intro o_rg q9_l1 w hS H
    unfold image_Open.l1 at H
    by_cases hb : o_rg < l0.length
    · rw [if_pos hb] at H
      have R27 : rdS (r0 (.int .u8)) 1 (hp w0) (some (adr A0 o_rg 1)) (min 264 (l0.length - o_rg)) ((l0.drop o_rg).take 264) := rdS.chunk R0 hb (by kernel_rfl)
      refine RgK.go' hX (by kernel_rfl) hS hb (chv_eq A0 l0 o_rg 264) (fun w hS => ?_)
      refine WC.reg [0] (by kernel_rfl) (by kernel_rfl) ?_
      refine WR.runk [0] [] [2, 3, 4, 5] (L' := [(2, .pointer (some ⟨b1, 0, none⟩)), (3, .pointer (some ⟨b4, 0, none⟩)), (4, .pointer (some ⟨b10, 0, none⟩)), (5, .slice (some (adr A0 o_rg 1)) ((l0.drop o_rg).take 264).length (min 264 (l0.length - o_rg)))]) (w' := w) (by kernel_rfl) ?_
      refine WR.nil ?_
      refine At.begin' hX hS (fun w28 hS => ?_)
      refine WC.block (by kernel_rfl) ?_
      refine WC.seq (by kernel_rfl) ?_
      refine WC.reg [0, 1, 2, 3, 4, 5, 6, 7, 8] (by kernel_rfl) (by kernel_rfl) ?_
      refine WR.runk [0] [1, 2, 3, 4, 5, 6, 7, 8] [2, 3, 4, 34] (L' := [(2, .pointer (some ⟨b1, 0, none⟩)), (3, .pointer (some ⟨b4, 0, none⟩)), (4, .pointer (some ⟨b10, 0, none⟩)), (34, .slice (some (adr A0 o_rg 1)) ((l0.drop o_rg).take 264).length (min 264 (l0.length - o_rg)))]) (w' := w28) (by kernel_rfl) ?_
      obtain ⟨r29, e30, H⟩ := bind_ex H
      refine WR.st (St.call (by kernel_rfl) (f := 25) (args := #[.slice (some (adr A0 o_rg 1)) ((l0.drop o_rg).take 264).length (min 264 (l0.length - o_rg))]) (by kernel_rfl) (page_Get.calls w28 (some (adr A0 o_rg 1)) (min 264 (l0.length - o_rg)) ((l0.drop o_rg).take 264) (rdS.up R27 hS.sub0) r29 e30) ?_)
      rintro _ w36 ⟨A38, c39, rfl, hS37⟩
      have hS : Sat w36 (rf w0) [osl 5 (r0 (.int .u8)) 1 A38 c39 r29.2.1, pts l (X.ob .busy none), pts b23 (.cells #[.slice A0 l0.length c0] 22 (0, 0)), pts b24 (.cells #[.int .i64 ((264 : Nat) : Int)] 3 (0, 0)), mks D, O52 b7 q9_l1, pts b1 (.cells #[.pointer none] 25 (0, 0)), pts b4 (.cells #[.int .i64 0] 26 (0, 0)), pts b10 (.cells #[.pointer (some ⟨b7, 0, none⟩)] 25 (0, 0))] := hS.ext hS37
      refine WR.runk [2, 3, 4, 5, 6, 7, 8] [] [2, 3, 4, 6, 7, 8] (L' := [(2, .pointer (some ⟨b1, 0, none⟩)), (3, .pointer (some ⟨b4, 0, none⟩)), (4, .pointer (some ⟨b10, 0, none⟩)), (6, .int .i64 r29.1), (7, .slice A38 r29.2.1.length c39), (8, .int .i64 r29.2.2)]) (w' := w36) (by kernel_rfl) ?_
      refine WR.nil ?_
      refine At.go ?_
      refine WC.seq (by kernel_rfl) ?_
      refine WC.seq (by kernel_rfl) ?_
      refine WC.reg [0, 1, 2, 3, 4, 5, 6, 7, 8, 9, 10] (by kernel_rfl) (by kernel_rfl) ?_
      refine WR.runk [0, 1, 2] [3, 4, 5, 6, 7, 8, 9, 10] [2, 3, 4, 6, 7, 41] (L' := [(2, .pointer (some ⟨b1, 0, none⟩)), (3, .pointer (some ⟨b4, 0, none⟩)), (4, .pointer (some ⟨b10, 0, none⟩)), (6, .int .i64 r29.1), (7, .slice A38 r29.2.1.length c39), (41, .bool (r29.2.2 != 0))]) (w' := w36) (by kernel_rfl) ?_
      refine WR.split 41 (b := (r29.2.2 != 0)) (by kernel_rfl) (fun hb40 => ?_) (fun hb40 => ?_)
      · replace H := ite_t H hb40
        refine WR.runk [3, 4, 5, 6, 7, 8, 9, 10] [] [2, 3, 4, 7, 49] (L' := [(2, .pointer (some ⟨b1, 0, none⟩)), (3, .pointer (some ⟨b4, 0, none⟩)), (4, .pointer (some ⟨b10, 0, none⟩)), (7, .slice A38 r29.2.1.length c39), (49, .bool true)]) (w' := w36) (by kernel_rfl) ?_
        refine WR.nil ?_
        refine At.go ?_
        refine WC.condT (by kernel_rfl) (by kernel_rfl) (by kernel_rfl) ?_
        refine WC.seq (by kernel_rfl) ?_
        refine WC.reg [0, 1] (by kernel_rfl) (by kernel_rfl) ?_
        have hS : Sat w36 (rf w0) [pts b1 (.cells #[.pointer none] 25 (0, 0)), osl 5 (r0 (.int .u8)) 1 A38 c39 r29.2.1, pts l (X.ob .busy none), pts b23 (.cells #[.slice A0 l0.length c0] 22 (0, 0)), pts b24 (.cells #[.int .i64 ((264 : Nat) : Int)] 3 (0, 0)), mks D, O52 b7 q9_l1, pts b4 (.cells #[.int .i64 0] 26 (0, 0)), pts b10 (.cells #[.pointer (some ⟨b7, 0, none⟩)] 25 (0, 0))] := hS.sel [6, 0, 1, 2, 3, 4, 5, 7, 8] (by kernel_rfl)
        refine WR.st (St.storeObj (t := 25) (k := 0) (cur' := #[.pointer none]) (.tmp 2) (.const (.pointer none)) (by kernel_rfl) (by kernel_rfl) (by kernel_rfl) hS (by kernel_rfl) (by kernel_rfl) (by kernel_rfl) rfl rfl (fun w41 hS => ?_))
        refine WR.runk [] [1] [2, 3] (L' := [(2, .pointer (some ⟨b1, 0, none⟩)), (3, .pointer (some ⟨b4, 0, none⟩))]) (w' := w41) (by kernel_rfl) ?_
        have hS : Sat w41 (rf w0) [pts b4 (.cells #[.int .i64 0] 26 (0, 0)), pts b1 (.cells #[.pointer none] 25 (0, 0)), osl 5 (r0 (.int .u8)) 1 A38 c39 r29.2.1, pts l (X.ob .busy none), pts b23 (.cells #[.slice A0 l0.length c0] 22 (0, 0)), pts b24 (.cells #[.int .i64 ((264 : Nat) : Int)] 3 (0, 0)), mks D, O52 b7 q9_l1, pts b10 (.cells #[.pointer (some ⟨b7, 0, none⟩)] 25 (0, 0))] := hS.sel [7, 0, 1, 2, 3, 4, 5, 6, 8] (by kernel_rfl)
        refine WR.st (St.storeObj (t := 26) (k := 0) (cur' := #[.int .i64 10]) (.tmp 3) (.const (.int .i64 10)) (by kernel_rfl) (by kernel_rfl) (by kernel_rfl) hS (by kernel_rfl) (by kernel_rfl) (by kernel_rfl) rfl rfl (fun w42 hS => ?_))
        refine WR.runk [] [] [2, 3] (L' := [(2, .pointer (some ⟨b1, 0, none⟩)), (3, .pointer (some ⟨b4, 0, none⟩))]) (w' := w42) (by kernel_rfl) ?_
        refine WR.nil ?_
        refine At.go ?_
        refine WC.ret (by kernel_rfl) ?_
        refine At.thenRet ?_
        refine At.blockRet ?_
        have hS : Sat w42 (rf w0) [pts l (X.ob .busy none), pts b4 (.cells #[.int .i64 10] 26 (0, 0)), pts b1 (.cells #[.pointer none] 25 (0, 0)), osl 5 (r0 (.int .u8)) 1 A38 c39 r29.2.1, pts b23 (.cells #[.slice A0 l0.length c0] 22 (0, 0)), pts b24 (.cells #[.int .i64 ((264 : Nat) : Int)] 3 (0, 0)), mks D, O52 b7 q9_l1, pts b10 (.cells #[.pointer (some ⟨b7, 0, none⟩)] 25 (0, 0))] := hS.sel [3, 0, 1, 2, 4, 5, 6, 7, 8] (by kernel_rfl)
        refine At.retRound' hX hS (fun w43 hS => ?_)
        obtain rfl := Option.some.inj H
        have hS : Sat w43 (rf w0) [mks D, O52 b7 q9_l1, pts b1 (.cells #[.pointer none] 25 (0, 0)), pts b4 (.cells #[.int .i64 10] 26 (0, 0)), pts b10 (.cells #[.pointer (some ⟨b7, 0, none⟩)] 25 (0, 0))] := hS.sel [6, 7, 2, 1, 8] (by kernel_rfl)
        refine At.weaken [2, 3] (L' := [(2, .pointer (some ⟨b1, 0, none⟩)), (3, .pointer (some ⟨b4, 0, none⟩))]) (by kernel_rfl) ?_
        exact hn1 (q9_l1, 10) _ rfl hS
      · replace H := ite_f H hb40
        refine WR.runk [3] [4, 5, 6, 7, 8, 9, 10] [2, 3, 4, 7, 41, 42] (L' := [(2, .pointer (some ⟨b1, 0, none⟩)), (3, .pointer (some ⟨b4, 0, none⟩)), (4, .pointer (some ⟨b10, 0, none⟩)), (7, .slice A38 r29.2.1.length c39), (41, .bool false), (42, .int .i64 r29.1)]) (w' := w36) (by kernel_rfl) ?_
        refine WR.st (St.ofR (RSt.loadObj (t := 25) (k := 0) (v := .pointer (some ⟨b7, 0, none⟩)) (.tmp 4) (by kernel_rfl) (by kernel_rfl) (by kernel_rfl) 8 hS rfl (by kernel_rfl) rfl ?_))
        refine WR.runk [5, 6] [7, 8, 9, 10] [2, 3, 4, 7, 41, 42, 45] (L' := [(2, .pointer (some ⟨b1, 0, none⟩)), (3, .pointer (some ⟨b4, 0, none⟩)), (4, .pointer (some ⟨b10, 0, none⟩)), (7, .slice A38 r29.2.1.length c39), (41, .bool false), (42, .int .i64 r29.1), (45, .pointer (some ⟨b7, 0, none⟩))]) (w' := w36) (by kernel_rfl) ?_
        have hS : Sat w36 (rf w0) [O52 b7 q9_l1, osl 5 (r0 (.int .u8)) 1 A38 c39 r29.2.1, pts l (X.ob .busy none), pts b23 (.cells #[.slice A0 l0.length c0] 22 (0, 0)), pts b24 (.cells #[.int .i64 ((264 : Nat) : Int)] 3 (0, 0)), mks D, pts b1 (.cells #[.pointer none] 25 (0, 0)), pts b4 (.cells #[.int .i64 0] 26 (0, 0)), pts b10 (.cells #[.pointer (some ⟨b7, 0, none⟩)] 25 (0, 0))] := hS.sel [5, 0, 1, 2, 3, 4, 6, 7, 8] (by kernel_rfl)
        obtain ⟨A44, c45, A46, c47, A48, c49, hS⟩ := O52.open hS
        have hS : Sat w36 (rf w0) [pts b7 (.cells #[.slice A44 q9_l1.1.length c45, .slice A46 q9_l1.2.1.length c47, .slice A48 q9_l1.2.2.length c49] 52 (0, 0)), orw 22 (Esl 5 (.int .u8)) 1 A44 c45 q9_l1.1, osl 3 (r0 (.int .i64)) 1 A46 c47 q9_l1.2.1, osl 3 (r0 (.int .i64)) 1 A48 c49 q9_l1.2.2, osl 5 (r0 (.int .u8)) 1 A38 c39 r29.2.1, pts l (X.ob .busy none), pts b23 (.cells #[.slice A0 l0.length c0] 22 (0, 0)), pts b24 (.cells #[.int .i64 ((264 : Nat) : Int)] 3 (0, 0)), mks D, pts b1 (.cells #[.pointer none] 25 (0, 0)), pts b4 (.cells #[.int .i64 0] 26 (0, 0)), pts b10 (.cells #[.pointer (some ⟨b7, 0, none⟩)] 25 (0, 0))] := hS
        refine WR.st (St.ofR (RSt.loadObj (t := 29) (k := 0) (v := .slice A44 q9_l1.1.length c45) (.tmp 45) (by kernel_rfl) (by kernel_rfl) (by kernel_rfl) 0 hS rfl (by kernel_rfl) rfl ?_))
        refine WR.runk [8, 9, 10] [] [2, 3, 4, 7, 49] (L' := [(2, .pointer (some ⟨b1, 0, none⟩)), (3, .pointer (some ⟨b4, 0, none⟩)), (4, .pointer (some ⟨b10, 0, none⟩)), (7, .slice A38 r29.2.1.length c39), (49, .bool (r29.1 != (q9_l1.1.length : Int)))]) (w' := w36) (by kernel_rfl) ?_
        refine WR.nil ?_
        refine At.go ?_
        refine WC.cond (by kernel_rfl) (r29.1 != (q9_l1.1.length : Int)) (by kernel_rfl) (by kernel_rfl) (fun hb50 => ?_) (fun hb50 => ?_)
        · replace H := ite_t H hb50
          refine WC.seq (by kernel_rfl) ?_
          refine WC.reg [0, 1] (by kernel_rfl) (by kernel_rfl) ?_
          refine WR.runk [] [0, 1] [2, 3] (L' := [(2, .pointer (some ⟨b1, 0, none⟩)), (3, .pointer (some ⟨b4, 0, none⟩))]) (w' := w36) (by kernel_rfl) ?_
          have hS : Sat w36 (rf w0) [pts b1 (.cells #[.pointer none] 25 (0, 0)), pts b7 (.cells #[.slice A44 q9_l1.1.length c45, .slice A46 q9_l1.2.1.length c47, .slice A48 q9_l1.2.2.length c49] 52 (0, 0)), orw 22 (Esl 5 (.int .u8)) 1 A44 c45 q9_l1.1, osl 3 (r0 (.int .i64)) 1 A46 c47 q9_l1.2.1, osl 3 (r0 (.int .i64)) 1 A48 c49 q9_l1.2.2, osl 5 (r0 (.int .u8)) 1 A38 c39 r29.2.1, pts l (X.ob .busy none), pts b23 (.cells #[.slice A0 l0.length c0] 22 (0, 0)), pts b24 (.cells #[.int .i64 ((264 : Nat) : Int)] 3 (0, 0)), mks D, pts b4 (.cells #[.int .i64 0] 26 (0, 0)), pts b10 (.cells #[.pointer (some ⟨b7, 0, none⟩)] 25 (0, 0))] := hS.sel [9, 0, 1, 2, 3, 4, 5, 6, 7, 8, 10, 11] (by kernel_rfl)
          refine WR.st (St.storeObj (t := 25) (k := 0) (cur' := #[.pointer none]) (.tmp 2) (.const (.pointer none)) (by kernel_rfl) (by kernel_rfl) (by kernel_rfl) hS (by kernel_rfl) (by kernel_rfl) (by kernel_rfl) rfl rfl (fun w51 hS => ?_))
          refine WR.runk [] [1] [2, 3] (L' := [(2, .pointer (some ⟨b1, 0, none⟩)), (3, .pointer (some ⟨b4, 0, none⟩))]) (w' := w51) (by kernel_rfl) ?_
          have hS : Sat w51 (rf w0) [pts b4 (.cells #[.int .i64 0] 26 (0, 0)), pts b1 (.cells #[.pointer none] 25 (0, 0)), pts b7 (.cells #[.slice A44 q9_l1.1.length c45, .slice A46 q9_l1.2.1.length c47, .slice A48 q9_l1.2.2.length c49] 52 (0, 0)), orw 22 (Esl 5 (.int .u8)) 1 A44 c45 q9_l1.1, osl 3 (r0 (.int .i64)) 1 A46 c47 q9_l1.2.1, osl 3 (r0 (.int .i64)) 1 A48 c49 q9_l1.2.2, osl 5 (r0 (.int .u8)) 1 A38 c39 r29.2.1, pts l (X.ob .busy none), pts b23 (.cells #[.slice A0 l0.length c0] 22 (0, 0)), pts b24 (.cells #[.int .i64 ((264 : Nat) : Int)] 3 (0, 0)), mks D, pts b10 (.cells #[.pointer (some ⟨b7, 0, none⟩)] 25 (0, 0))] := hS.sel [10, 0, 1, 2, 3, 4, 5, 6, 7, 8, 9, 11] (by kernel_rfl)
          refine WR.st (St.storeObj (t := 26) (k := 0) (cur' := #[.int .i64 10]) (.tmp 3) (.const (.int .i64 10)) (by kernel_rfl) (by kernel_rfl) (by kernel_rfl) hS (by kernel_rfl) (by kernel_rfl) (by kernel_rfl) rfl rfl (fun w52 hS => ?_))
          refine WR.runk [] [] [2, 3] (L' := [(2, .pointer (some ⟨b1, 0, none⟩)), (3, .pointer (some ⟨b4, 0, none⟩))]) (w' := w52) (by kernel_rfl) ?_
          refine WR.nil ?_
          refine At.go ?_
          refine WC.ret (by kernel_rfl) ?_
          refine At.thenRet ?_
          refine At.blockRet ?_
          have hS : Sat w52 (rf w0) [pts l (X.ob .busy none), pts b4 (.cells #[.int .i64 10] 26 (0, 0)), pts b1 (.cells #[.pointer none] 25 (0, 0)), pts b7 (.cells #[.slice A44 q9_l1.1.length c45, .slice A46 q9_l1.2.1.length c47, .slice A48 q9_l1.2.2.length c49] 52 (0, 0)), orw 22 (Esl 5 (.int .u8)) 1 A44 c45 q9_l1.1, osl 3 (r0 (.int .i64)) 1 A46 c47 q9_l1.2.1, osl 3 (r0 (.int .i64)) 1 A48 c49 q9_l1.2.2, osl 5 (r0 (.int .u8)) 1 A38 c39 r29.2.1, pts b23 (.cells #[.slice A0 l0.length c0] 22 (0, 0)), pts b24 (.cells #[.int .i64 ((264 : Nat) : Int)] 3 (0, 0)), mks D, pts b10 (.cells #[.pointer (some ⟨b7, 0, none⟩)] 25 (0, 0))] := hS.sel [7, 0, 1, 2, 3, 4, 5, 6, 8, 9, 10, 11] (by kernel_rfl)
          refine At.retRound' hX hS (fun w53 hS => ?_)
          obtain rfl := Option.some.inj H
          have hS : Sat w53 (rf w0) [pts b7 (.cells #[.slice A44 q9_l1.1.length c45, .slice A46 q9_l1.2.1.length c47, .slice A48 q9_l1.2.2.length c49] 52 (0, 0)), orw 22 (Esl 5 (.int .u8)) 1 A44 c45 q9_l1.1, osl 3 (r0 (.int .i64)) 1 A46 c47 q9_l1.2.1, osl 3 (r0 (.int .i64)) 1 A48 c49 q9_l1.2.2, pts l (X.ob .exhausted (some .ret)), pts b4 (.cells #[.int .i64 10] 26 (0, 0)), pts b1 (.cells #[.pointer none] 25 (0, 0)), osl 5 (r0 (.int .u8)) 1 A38 c39 r29.2.1, pts b23 (.cells #[.slice A0 l0.length c0] 22 (0, 0)), pts b24 (.cells #[.int .i64 ((264 : Nat) : Int)] 3 (0, 0)), mks D, pts b10 (.cells #[.pointer (some ⟨b7, 0, none⟩)] 25 (0, 0))] := hS.sel [3, 4, 5, 6, 0, 1, 2, 7, 8, 9, 10, 11] (by kernel_rfl)
          have hS : Sat w53 (rf w0) [O52 b7 q9_l1, pts l (X.ob .exhausted (some .ret)), pts b4 (.cells #[.int .i64 10] 26 (0, 0)), pts b1 (.cells #[.pointer none] 25 (0, 0)), osl 5 (r0 (.int .u8)) 1 A38 c39 r29.2.1, pts b23 (.cells #[.slice A0 l0.length c0] 22 (0, 0)), pts b24 (.cells #[.int .i64 ((264 : Nat) : Int)] 3 (0, 0)), mks D, pts b10 (.cells #[.pointer (some ⟨b7, 0, none⟩)] 25 (0, 0))] := O52.close q9_l1 A44 c45 A46 c47 A48 c49 hS
          have hS : Sat w53 (rf w0) [mks D, O52 b7 q9_l1, pts b1 (.cells #[.pointer none] 25 (0, 0)), pts b4 (.cells #[.int .i64 10] 26 (0, 0)), pts b10 (.cells #[.pointer (some ⟨b7, 0, none⟩)] 25 (0, 0))] := hS.sel [7, 0, 3, 2, 8] (by kernel_rfl)
          refine At.weaken [2, 3] (L' := [(2, .pointer (some ⟨b1, 0, none⟩)), (3, .pointer (some ⟨b4, 0, none⟩))]) (by kernel_rfl) ?_
          exact hn1 (q9_l1, 10) _ rfl hS
        · replace H := ite_f H hb50
          refine WC.skip (by kernel_rfl) ?_
          refine At.go ?_
          refine WC.drawn (by kernel_rfl) (by kernel_rfl) 11 (by kernel_rfl) (fun w54 hw55 => ?_)
          have hS := hS.heap hw55.1 hw55.2
          refine WD.weaken [4, 7] (L' := [(4, .pointer (some ⟨b10, 0, none⟩)), (7, .slice A38 r29.2.1.length c39)]) (by kernel_rfl) ?_
          refine WD.ofR (i := 0) (by kernel_rfl) (RSt.loadObj (t := 25) (k := 0) (v := .pointer (some ⟨b7, 0, none⟩)) (.tmp 4) (by kernel_rfl) (by kernel_rfl) (by kernel_rfl) 11 hS rfl (by kernel_rfl) rfl ?_)
          refine WD.weaken [4, 7, 50] (L' := [(4, .pointer (some ⟨b10, 0, none⟩)), (7, .slice A38 r29.2.1.length c39), (50, .pointer (some ⟨b7, 0, none⟩))]) (by kernel_rfl) ?_
          refine WD.ofR (i := 1) (by kernel_rfl) (RSt.loadObj (t := 25) (k := 0) (v := .pointer (some ⟨b7, 0, none⟩)) (.tmp 4) (by kernel_rfl) (by kernel_rfl) (by kernel_rfl) 11 hS rfl (by kernel_rfl) rfl ?_)
          refine WD.weaken [7, 50, 51] (L' := [(7, .slice A38 r29.2.1.length c39), (50, .pointer (some ⟨b7, 0, none⟩)), (51, .pointer (some ⟨b7, 0, none⟩))]) (by kernel_rfl) ?_
          refine WD.pure (i := 2) (v := .pointer (some ⟨b7, 0, none⟩)) (by kernel_rfl) (by kernel_rfl) (fun _ => by kernel_rfl) ?_
          refine WD.weaken [7, 50, 52] (L' := [(7, .slice A38 r29.2.1.length c39), (50, .pointer (some ⟨b7, 0, none⟩)), (52, .pointer (some ⟨b7, 0, none⟩))]) (by kernel_rfl) ?_
          refine WD.pure (i := 3) (v := .pointer (some ⟨b7, 0, none⟩)) (by kernel_rfl) (by kernel_rfl) (fun _ => by kernel_rfl) ?_
          refine WD.weaken [7, 50, 53] (L' := [(7, .slice A38 r29.2.1.length c39), (50, .pointer (some ⟨b7, 0, none⟩)), (53, .pointer (some ⟨b7, 0, none⟩))]) (by kernel_rfl) ?_
          refine WD.ofR (i := 4) (by kernel_rfl) (RSt.loadObj (t := 29) (k := 0) (v := .slice A44 q9_l1.1.length c45) (.tmp 53) (by kernel_rfl) (by kernel_rfl) (by kernel_rfl) 0 hS rfl (by kernel_rfl) rfl ?_)
          refine WD.weaken [7, 50, 54] (L' := [(7, .slice A38 r29.2.1.length c39), (50, .pointer (some ⟨b7, 0, none⟩)), (54, .slice A44 q9_l1.1.length c45)]) (by kernel_rfl) ?_
          refine WD.pure (i := 5) (v := .slice A38 r29.2.1.length c39) (by kernel_rfl) (by kernel_rfl) (fun _ => by kernel_rfl) ?_
          refine WD.weaken [50, 54, 55] (L' := [(50, .pointer (some ⟨b7, 0, none⟩)), (54, .slice A44 q9_l1.1.length c45), (55, .slice A38 r29.2.1.length c39)]) (by kernel_rfl) ?_
          refine WD.act (i := 6) (by kernel_rfl) (St.box hS (by kernel_rfl) (.cells #[.slice A38 r29.2.1.length c39] 22) (fun b56 => .slice (some ⟨b56, 0, none⟩) 1 1) (fun _ => by kernel_rfl) (fun b56 w57 hS => ?_))
          refine ⟨(asked.cons (RSt.run (n := 92) (RSt.loadObj (t := 29) (k := 0) (v := .slice A44 q9_l1.1.length c45) (.tmp 53) (by kernel_rfl) (by kernel_rfl) (by kernel_rfl) 1 hS rfl (by kernel_rfl) rfl rfl)) (asked.cons (RSt.run (n := 92) (RSt.loadObj (t := 25) (k := 0) (v := .pointer (some ⟨b7, 0, none⟩)) (.tmp 4) (by kernel_rfl) (by kernel_rfl) (by kernel_rfl) 12 hS rfl (by kernel_rfl) rfl rfl)) (asked.cons (RSt.run (n := 92) (RSt.loadObj (t := 25) (k := 0) (v := .pointer (some ⟨b7, 0, none⟩)) (.tmp 4) (by kernel_rfl) (by kernel_rfl) (by kernel_rfl) 12 hS rfl (by kernel_rfl) rfl rfl)) (asked.nil _ _)))), ?_⟩
          refine WD.weaken [50, 54, 56] (L' := [(50, .pointer (some ⟨b7, 0, none⟩)), (54, .slice A44 q9_l1.1.length c45), (56, .slice (some ⟨b56, 0, none⟩) 1 1)]) (by kernel_rfl) ?_
          have hS : Sat w57 (rf w0) [orw 22 (Esl 5 (.int .u8)) 1 A44 c45 q9_l1.1, pts b56 (.cells #[.slice A38 r29.2.1.length c39] 22 (0, 0)), pts b7 (.cells #[.slice A44 q9_l1.1.length c45, .slice A46 q9_l1.2.1.length c47, .slice A48 q9_l1.2.2.length c49] 52 (0, 0)), osl 3 (r0 (.int .i64)) 1 A46 c47 q9_l1.2.1, osl 3 (r0 (.int .i64)) 1 A48 c49 q9_l1.2.2, osl 5 (r0 (.int .u8)) 1 A38 c39 r29.2.1, pts l (X.ob .busy none), pts b23 (.cells #[.slice A0 l0.length c0] 22 (0, 0)), pts b24 (.cells #[.int .i64 ((264 : Nat) : Int)] 3 (0, 0)), mks D, pts b1 (.cells #[.pointer none] 25 (0, 0)), pts b4 (.cells #[.int .i64 0] 26 (0, 0)), pts b10 (.cells #[.pointer (some ⟨b7, 0, none⟩)] 25 (0, 0))] := hS.sel [2, 0, 1, 3, 4, 5, 6, 7, 8, 9, 10, 11, 12] (by kernel_rfl)
          have hS : Sat w57 (rf w0) [osl 5 (r0 (.int .u8)) 1 A38 c39 r29.2.1, orw 22 (Esl 5 (.int .u8)) 1 A44 c45 q9_l1.1, pts b56 (.cells #[.slice A38 r29.2.1.length c39] 22 (0, 0)), pts b7 (.cells #[.slice A44 q9_l1.1.length c45, .slice A46 q9_l1.2.1.length c47, .slice A48 q9_l1.2.2.length c49] 52 (0, 0)), osl 3 (r0 (.int .i64)) 1 A46 c47 q9_l1.2.1, osl 3 (r0 (.int .i64)) 1 A48 c49 q9_l1.2.2, pts l (X.ob .busy none), pts b23 (.cells #[.slice A0 l0.length c0] 22 (0, 0)), pts b24 (.cells #[.int .i64 ((264 : Nat) : Int)] 3 (0, 0)), mks D, pts b1 (.cells #[.pointer none] 25 (0, 0)), pts b4 (.cells #[.int .i64 0] 26 (0, 0)), pts b10 (.cells #[.pointer (some ⟨b7, 0, none⟩)] 25 (0, 0))] := hS.sel [5, 0, 1, 2, 3, 4, 6, 7, 8, 9, 10, 11, 12] (by kernel_rfl)
          have hS : Sat w57 (rf w0) [orw 22 (Esl 5 (.int .u8)) 1 A44 c45 q9_l1.1, osl 5 (r0 (.int .u8)) 1 A38 c39 r29.2.1, pts b56 (.cells #[.slice A38 r29.2.1.length c39] 22 (0, 0)), pts b7 (.cells #[.slice A44 q9_l1.1.length c45, .slice A46 q9_l1.2.1.length c47, .slice A48 q9_l1.2.2.length c49] 52 (0, 0)), osl 3 (r0 (.int .i64)) 1 A46 c47 q9_l1.2.1, osl 3 (r0 (.int .i64)) 1 A48 c49 q9_l1.2.2, pts l (X.ob .busy none), pts b23 (.cells #[.slice A0 l0.length c0] 22 (0, 0)), pts b24 (.cells #[.int .i64 ((264 : Nat) : Int)] 3 (0, 0)), mks D, pts b1 (.cells #[.pointer none] 25 (0, 0)), pts b4 (.cells #[.int .i64 0] 26 (0, 0)), pts b10 (.cells #[.pointer (some ⟨b7, 0, none⟩)] 25 (0, 0))] := hS.sel [1, 0, 2, 3, 4, 5, 6, 7, 8, 9, 10, 11, 12] (by kernel_rfl)
          obtain ⟨y59, e58, H⟩ := bind_ex H
          refine WD.act (i := 7) (by kernel_rfl) (St.appendOwn (.tmp 54) (.tmp 56) (by kernel_rfl) (by kernel_rfl) E29 (fun H h => Esl.mk H h) hS 0 rfl (by kernel_rfl) (by kernel_rfl) (by kernel_rfl) (by kernel_rfl) 5864062014805 (by kernel_rfl) (by kernel_rfl) e58 (fun A60 c61 w62 K63 hS hK64 hM65 => ?_))
          refine ⟨(asked.anc (by kernel_rfl) (asked.anc (by kernel_rfl) (asked.cons (RSt.run (n := 92) (RSt.loadObj (t := 25) (k := 0) (v := .pointer (some ⟨b7, 0, none⟩)) (.tmp 4) (by kernel_rfl) (by kernel_rfl) (by kernel_rfl) 11 hS rfl (by kernel_rfl) rfl rfl)) (asked.nil _ _)))), ?_⟩
          have R66 : rdS (rd K63 (.slice 5 (.int .u8))) 1 K63 A60 c61 y59 := orw.rdS (κ := (.slice 5 (.int .u8))) (Esl.rd (e := 5) (κ := (.int .u8))) hK64
          have R67 : rdS (r0 (.int .u8)) 1 K63 A38 c39 r29.2.1 := by obtain ⟨M, hM, hm⟩ := hM65; exact (osl.read hm).mono hM (fun _ _ h => h)
          refine WD.weaken [50, 57] (L' := [(50, .pointer (some ⟨b7, 0, none⟩)), (57, .slice A60 y59.length c61)]) (by kernel_rfl) ?_
          refine WD.pure (i := 8) (v := .pointer (some ⟨b7, 0, none⟩)) (by kernel_rfl) (by kernel_rfl) (fun _ => by kernel_rfl) ?_
          refine WD.weaken [57, 58] (L' := [(57, .slice A60 y59.length c61), (58, .pointer (some ⟨b7, 0, none⟩))]) (by kernel_rfl) ?_
          refine WD.pure (i := 9) (v := .pointer (some ⟨b7, 0, none⟩)) (by kernel_rfl) (by kernel_rfl) (fun _ => by kernel_rfl) ?_
          refine WD.weaken [57, 59] (L' := [(57, .slice A60 y59.length c61), (59, .pointer (some ⟨b7, 0, none⟩))]) (by kernel_rfl) ?_
          have hS : Sat w62 (rf w0) [pts b7 (.cells #[.slice A44 q9_l1.1.length c45, .slice A46 q9_l1.2.1.length c47, .slice A48 q9_l1.2.2.length c49] 52 (0, 0)), gh K63, pts b56 (.cells #[.slice A38 r29.2.1.length c39] 22 (0, 0)), osl 3 (r0 (.int .i64)) 1 A46 c47 q9_l1.2.1, osl 3 (r0 (.int .i64)) 1 A48 c49 q9_l1.2.2, pts l (X.ob .busy none), pts b23 (.cells #[.slice A0 l0.length c0] 22 (0, 0)), pts b24 (.cells #[.int .i64 ((264 : Nat) : Int)] 3 (0, 0)), mks D, pts b1 (.cells #[.pointer none] 25 (0, 0)), pts b4 (.cells #[.int .i64 0] 26 (0, 0)), pts b10 (.cells #[.pointer (some ⟨b7, 0, none⟩)] 25 (0, 0))] := hS.sel [2, 0, 1, 3, 4, 5, 6, 7, 8, 9, 10, 11] (by kernel_rfl)
          refine WD.act (i := 10) (by kernel_rfl) (St.storeObj (t := 29) (k := 0) (cur' := #[.slice A60 y59.length c61, .slice A46 q9_l1.2.1.length c47, .slice A48 q9_l1.2.2.length c49]) (.tmp 59) (.tmp 57) (by kernel_rfl) (by kernel_rfl) (by kernel_rfl) hS (by kernel_rfl) (by kernel_rfl) (by kernel_rfl) rfl rfl (fun w68 hS => ?_))
          refine ⟨(asked.anc (by kernel_rfl) (asked.anc (by kernel_rfl) (asked.anc (by kernel_rfl) (asked.nil _ _)))), ?_⟩
          refine WD.weaken [] (L' := []) (by kernel_rfl) ?_
          refine WD.nil (by kernel_rfl) ?_
          refine At.blockNormal ?_
          have hS : Sat w68 (rf w0) [gh K63, pts b7 (.cells #[.slice A60 y59.length c61, .slice A46 q9_l1.2.1.length c47, .slice A48 q9_l1.2.2.length c49] 52 (0, 0)), pts b56 (.cells #[.slice A38 r29.2.1.length c39] 22 (0, 0)), osl 3 (r0 (.int .i64)) 1 A46 c47 q9_l1.2.1, osl 3 (r0 (.int .i64)) 1 A48 c49 q9_l1.2.2, pts l (X.ob .busy none), pts b23 (.cells #[.slice A0 l0.length c0] 22 (0, 0)), pts b24 (.cells #[.int .i64 ((264 : Nat) : Int)] 3 (0, 0)), mks D, pts b1 (.cells #[.pointer none] 25 (0, 0)), pts b4 (.cells #[.int .i64 0] 26 (0, 0)), pts b10 (.cells #[.pointer (some ⟨b7, 0, none⟩)] 25 (0, 0))] := hS.sel [1, 0, 2, 3, 4, 5, 6, 7, 8, 9, 10, 11] (by kernel_rfl)
          have hS : Sat w68 (rf w0) [orw 22 (Esl 5 (.int .u8)) 1 A60 c61 y59, pts b7 (.cells #[.slice A60 y59.length c61, .slice A46 q9_l1.2.1.length c47, .slice A48 q9_l1.2.2.length c49] 52 (0, 0)), pts b56 (.cells #[.slice A38 r29.2.1.length c39] 22 (0, 0)), osl 3 (r0 (.int .i64)) 1 A46 c47 q9_l1.2.1, osl 3 (r0 (.int .i64)) 1 A48 c49 q9_l1.2.2, pts l (X.ob .busy none), pts b23 (.cells #[.slice A0 l0.length c0] 22 (0, 0)), pts b24 (.cells #[.int .i64 ((264 : Nat) : Int)] 3 (0, 0)), mks D, pts b1 (.cells #[.pointer none] 25 (0, 0)), pts b4 (.cells #[.int .i64 0] 26 (0, 0)), pts b10 (.cells #[.pointer (some ⟨b7, 0, none⟩)] 25 (0, 0))] := Sat.ungh hK64 hS
          have hS : Sat w68 (rf w0) [pts b7 (.cells #[.slice A60 y59.length c61, .slice A46 q9_l1.2.1.length c47, .slice A48 q9_l1.2.2.length c49] 52 (0, 0)), orw 22 (Esl 5 (.int .u8)) 1 A60 c61 y59, osl 3 (r0 (.int .i64)) 1 A46 c47 q9_l1.2.1, osl 3 (r0 (.int .i64)) 1 A48 c49 q9_l1.2.2, pts b56 (.cells #[.slice A38 r29.2.1.length c39] 22 (0, 0)), pts l (X.ob .busy none), pts b23 (.cells #[.slice A0 l0.length c0] 22 (0, 0)), pts b24 (.cells #[.int .i64 ((264 : Nat) : Int)] 3 (0, 0)), mks D, pts b1 (.cells #[.pointer none] 25 (0, 0)), pts b4 (.cells #[.int .i64 0] 26 (0, 0)), pts b10 (.cells #[.pointer (some ⟨b7, 0, none⟩)] 25 (0, 0))] := hS.sel [1, 0, 3, 4, 2, 5, 6, 7, 8, 9, 10, 11] (by kernel_rfl)
          have hS : Sat w68 (rf w0) [O52 b7 (y59, q9_l1.2.1, q9_l1.2.2), pts b56 (.cells #[.slice A38 r29.2.1.length c39] 22 (0, 0)), pts l (X.ob .busy none), pts b23 (.cells #[.slice A0 l0.length c0] 22 (0, 0)), pts b24 (.cells #[.int .i64 ((264 : Nat) : Int)] 3 (0, 0)), mks D, pts b1 (.cells #[.pointer none] 25 (0, 0)), pts b4 (.cells #[.int .i64 0] 26 (0, 0)), pts b10 (.cells #[.pointer (some ⟨b7, 0, none⟩)] 25 (0, 0))] := O52.close (y59, q9_l1.2.1, q9_l1.2.2) A60 c61 A46 c47 A48 c49 hS
          have hS : Sat w68 (rf w0) [pts l (X.ob .busy none), pts b23 (.cells #[.slice A0 l0.length c0] 22 (0, 0)), pts b24 (.cells #[.int .i64 ((264 : Nat) : Int)] 3 (0, 0)), mks D, O52 b7 (y59, q9_l1.2.1, q9_l1.2.2), pts b1 (.cells #[.pointer none] 25 (0, 0)), pts b4 (.cells #[.int .i64 0] 26 (0, 0)), pts b10 (.cells #[.pointer (some ⟨b7, 0, none⟩)] 25 (0, 0))] := hS.sel [2, 3, 4, 5, 0, 6, 7, 8] (by kernel_rfl)
          refine At.endRound' hX hS (fun w69 hS => ?_)
          exact ih (o_rg + 264) (y59, q9_l1.2.1, q9_l1.2.2) _ hS H
    · rw [if_neg hb] at H
      refine RgK.stop' hX hS (by omega) (fun w hS => ?_)
      obtain rfl := Option.some.inj H
      have hS : Sat w (rf w0) [mks D, O52 b7 q9_l1, pts b1 (.cells #[.pointer none] 25 (0, 0)), pts b4 (.cells #[.int .i64 0] 26 (0, 0)), pts b10 (.cells #[.pointer (some ⟨b7, 0, none⟩)] 25 (0, 0))] := hS.sel [3, 4, 5, 6, 7] (by kernel_rfl)
      refine At.weaken [0, 2, 3, 4] (L' := [(0, .slice A0 l0.length c0), (2, .pointer (some ⟨b1, 0, none⟩)), (3, .pointer (some ⟨b4, 0, none⟩)), (4, .pointer (some ⟨b10, 0, none⟩))]) (by kernel_rfl) ?_
      exact hn0 q9_l1 _ rfl hS
theorem image_Open.l2_ok {Q} (w0 : World) (A0 : Option Addr) (c0 : Nat) (l0 : List Int) (b1 : Nat) (b4 : Nat) (b7 : Nat) (b10 : Nat) (r81 : Bool × ((List (List Int)) × (List Int) × (List Int))) (A93 : Option Addr) (c94 : Nat) (A95 : Option Addr) (c96 : Nat) (A97 : Option Addr) (c98 : Nat) (out : (List (List Int))) (hn0 : ∀ (A9_q : Option Addr) (c9_q : Nat) (D_q : List Deferred) (w : World), Sat w (rf w0) [mks D_q, orw 22 (Esl 5 (.int .u8)) 1 A9_q c9_q out, pts b1 (.cells #[.pointer none] 25 (0, 0)), pts b4 (.cells #[.int .i64 0] 26 (0, 0)), pts b10 (.cells #[.pointer (some ⟨b7, 0, none⟩)] 25 (0, 0)), pts b7 (.cells #[.slice A93 r81.2.1.length c94, .slice A95 r81.2.2.1.length c96, .slice A97 r81.2.2.2.length c98] 52 (0, 0)), orw 22 (Esl 5 (.int .u8)) 1 A93 c94 r81.2.1, osl 3 (r0 (.int .i64)) 1 A95 c96 r81.2.2.1, osl 3 (r0 (.int .i64)) 1 A97 c98 r81.2.2.2] → At ⟨Q, D_q, none⟩ (.exit 2) 92 [(0, .slice A0 l0.length c0), (2, .pointer (some ⟨b1, 0, none⟩)), (3, .pointer (some ⟨b4, 0, none⟩)), (4, .pointer (some ⟨b10, 0, none⟩)), (9, .slice A9_q out.length c9_q)] w) :
    ∀ (k : Nat) (x9_l2 : List (List Int)) (x68_l2 : Int) (A9_l2 : Option Addr) (c9_l2 : Nat) (D_l2 : List Deferred) (w : World), Sat w (rf w0) [orw 22 (Esl 5 (.int .u8)) 1 A9_l2 c9_l2 x9_l2, pts b1 (.cells #[.pointer none] 25 (0, 0)), pts b4 (.cells #[.int .i64 0] 26 (0, 0)), pts b10 (.cells #[.pointer (some ⟨b7, 0, none⟩)] 25 (0, 0)), pts b7 (.cells #[.slice A93 r81.2.1.length c94, .slice A95 r81.2.2.1.length c96, .slice A97 r81.2.2.2.length c98] 52 (0, 0)), orw 22 (Esl 5 (.int .u8)) 1 A93 c94 r81.2.1, osl 3 (r0 (.int .i64)) 1 A95 c96 r81.2.2.1, osl 3 (r0 (.int .i64)) 1 A97 c98 r81.2.2.2, mks D_l2] → image_Open.l2 r81 k x9_l2 x68_l2 = some out → WL Try.prog (cbody (cbody (cr (cl (cr (cr (cr (cr (cr (cr C10)))))))))) ⟨Q, D_l2, none⟩ 92 [(0, .slice A0 l0.length c0), (2, .pointer (some ⟨b1, 0, none⟩)), (3, .pointer (some ⟨b4, 0, none⟩)), (4, .pointer (some ⟨b10, 0, none⟩)), (9, .slice A9_l2 x9_l2.length c9_l2), (67, .int .i64 (r81.2.2.1.length : Int)), (68, .int .i64 x68_l2)] w := by
  intro k
  induction k with
  | zero => intro x9_l2 x68_l2 A9_l2 c9_l2 D_l2 w hS H; exact absurd (show none = some out from H) (by simp)
  | succ k ih =>
    intro x9_l2 x68_l2 A9_l2 c9_l2 D_l2 w hS H
    unfold image_Open.l2 at H
    refine WL.round ?_
    refine WC.seq (by kernel_rfl) ?_
    refine WC.reg [0] (by kernel_rfl) (by kernel_rfl) ?_
    refine WR.runk [0] [] [0, 2, 3, 4, 9, 67, 68, 69] (L' := [(0, .slice A0 l0.length c0), (2, .pointer (some ⟨b1, 0, none⟩)), (3, .pointer (some ⟨b4, 0, none⟩)), (4, .pointer (some ⟨b10, 0, none⟩)), (9, .slice A9_l2 x9_l2.length c9_l2), (67, .int .i64 (r81.2.2.1.length : Int)), (68, .int .i64 x68_l2), (69, .bool (decide (x68_l2 < (r81.2.2.1.length : Int))))]) (w' := w) (by kernel_rfl) ?_
    refine WR.nil ?_
    refine At.go ?_
    refine WC.seq (by kernel_rfl) ?_
    refine WC.cond (by kernel_rfl) (decide (x68_l2 < (r81.2.2.1.length : Int))) (by kernel_rfl) (by kernel_rfl) (fun hb99 => ?_) (fun hb99 => ?_)
    · replace H := ite_t H hb99
      refine WC.skip (by kernel_rfl) ?_
      refine At.go ?_
      refine WC.seq (by kernel_rfl) ?_
      refine WC.block (by kernel_rfl) ?_
      refine WC.seq (by kernel_rfl) ?_
      refine WC.reg [0, 1] (by kernel_rfl) (by kernel_rfl) ?_
      refine WR.runk [0, 1] [] [0, 2, 3, 4, 9, 10, 67, 68] (L' := [(0, .slice A0 l0.length c0), (2, .pointer (some ⟨b1, 0, none⟩)), (3, .pointer (some ⟨b4, 0, none⟩)), (4, .pointer (some ⟨b10, 0, none⟩)), (9, .slice A9_l2 x9_l2.length c9_l2), (10, .int .i64 x68_l2), (67, .int .i64 (r81.2.2.1.length : Int)), (68, .int .i64 x68_l2)]) (w' := w) (by kernel_rfl) ?_
      refine WR.nil ?_
      refine At.go ?_
      refine WC.reg [0, 1, 2, 3, 4, 5, 6] (by kernel_rfl) (by kernel_rfl) ?_
      refine WR.runk [0] [1, 2, 3, 4, 5, 6] [0, 2, 3, 4, 9, 10, 67, 68, 71] (L' := [(0, .slice A0 l0.length c0), (2, .pointer (some ⟨b1, 0, none⟩)), (3, .pointer (some ⟨b4, 0, none⟩)), (4, .pointer (some ⟨b10, 0, none⟩)), (9, .slice A9_l2 x9_l2.length c9_l2), (10, .int .i64 x68_l2), (67, .int .i64 (r81.2.2.1.length : Int)), (68, .int .i64 x68_l2), (71, .slice A9_l2 x9_l2.length c9_l2)]) (w' := w) (by kernel_rfl) ?_
      refine WR.st (St.ofR (RSt.loadObj (t := 25) (k := 0) (v := .pointer (some ⟨b7, 0, none⟩)) (.tmp 4) (by kernel_rfl) (by kernel_rfl) (by kernel_rfl) 3 hS rfl (by kernel_rfl) rfl ?_))
      refine WR.runk [2] [3, 4, 5, 6] [0, 2, 3, 4, 9, 67, 68, 71, 72, 73] (L' := [(0, .slice A0 l0.length c0), (2, .pointer (some ⟨b1, 0, none⟩)), (3, .pointer (some ⟨b4, 0, none⟩)), (4, .pointer (some ⟨b10, 0, none⟩)), (9, .slice A9_l2 x9_l2.length c9_l2), (67, .int .i64 (r81.2.2.1.length : Int)), (68, .int .i64 x68_l2), (71, .slice A9_l2 x9_l2.length c9_l2), (72, .pointer (some ⟨b7, 0, none⟩)), (73, .int .i64 x68_l2)]) (w' := w) (by kernel_rfl) ?_
      obtain ⟨r100, e101, H⟩ := bind_ex H
      refine WR.st (St.call (by kernel_rfl) (f := 22) (args := #[.pointer (some ⟨b7, 0, none⟩), .int .i64 x68_l2]) (by kernel_rfl) (image_Image_Section.calls w (.pointer (some ⟨b7, 0, none⟩)) (some (r81.2.1, r81.2.2.1, r81.2.2.2)) (P52.mk (y := (r81.2.1, r81.2.2.1, r81.2.2.2)) (Sat.blockAt 4 hS rfl) (Sat.rdAnyS 5 hS rfl (fun _ h => orw.rdS (κ := (.slice 5 (.int .u8))) (Esl.rd (e := 5) (κ := (.int .u8))) h)) (Sat.rdAt 6 hS rfl) (Sat.rdAt 7 hS rfl)) x68_l2 r100 e101) ?_)
      rintro _ w107 ⟨A109, c110, rfl, hS108⟩
      have hS : Sat w107 (rf w0) [osl 5 (r0 (.int .u8)) 1 A109 c110 r100, orw 22 (Esl 5 (.int .u8)) 1 A9_l2 c9_l2 x9_l2, pts b1 (.cells #[.pointer none] 25 (0, 0)), pts b4 (.cells #[.int .i64 0] 26 (0, 0)), pts b10 (.cells #[.pointer (some ⟨b7, 0, none⟩)] 25 (0, 0)), pts b7 (.cells #[.slice A93 r81.2.1.length c94, .slice A95 r81.2.2.1.length c96, .slice A97 r81.2.2.2.length c98] 52 (0, 0)), orw 22 (Esl 5 (.int .u8)) 1 A93 c94 r81.2.1, osl 3 (r0 (.int .i64)) 1 A95 c96 r81.2.2.1, osl 3 (r0 (.int .i64)) 1 A97 c98 r81.2.2.2, mks D_l2] := hS.ext hS108
      refine WR.runk [] [4, 5, 6] [0, 2, 3, 4, 9, 67, 68, 71, 74] (L' := [(0, .slice A0 l0.length c0), (2, .pointer (some ⟨b1, 0, none⟩)), (3, .pointer (some ⟨b4, 0, none⟩)), (4, .pointer (some ⟨b10, 0, none⟩)), (9, .slice A9_l2 x9_l2.length c9_l2), (67, .int .i64 (r81.2.2.1.length : Int)), (68, .int .i64 x68_l2), (71, .slice A9_l2 x9_l2.length c9_l2), (74, .slice A109 r100.length c110)]) (w' := w107) (by kernel_rfl) ?_
      refine WR.st (St.box hS (by kernel_rfl) (.cells #[.slice A109 r100.length c110] 22) (fun b111 => .slice (some ⟨b111, 0, none⟩) 1 1) (fun _ => by kernel_rfl) (fun b111 w112 hS => ?_))
      refine WR.runk [] [5, 6] [0, 2, 3, 4, 9, 67, 68, 71, 75] (L' := [(0, .slice A0 l0.length c0), (2, .pointer (some ⟨b1, 0, none⟩)), (3, .pointer (some ⟨b4, 0, none⟩)), (4, .pointer (some ⟨b10, 0, none⟩)), (9, .slice A9_l2 x9_l2.length c9_l2), (67, .int .i64 (r81.2.2.1.length : Int)), (68, .int .i64 x68_l2), (71, .slice A9_l2 x9_l2.length c9_l2), (75, .slice (some ⟨b111, 0, none⟩) 1 1)]) (w' := w112) (by kernel_rfl) ?_
      have hS : Sat w112 (rf w0) [orw 22 (Esl 5 (.int .u8)) 1 A9_l2 c9_l2 x9_l2, pts b111 (.cells #[.slice A109 r100.length c110] 22 (0, 0)), osl 5 (r0 (.int .u8)) 1 A109 c110 r100, pts b1 (.cells #[.pointer none] 25 (0, 0)), pts b4 (.cells #[.int .i64 0] 26 (0, 0)), pts b10 (.cells #[.pointer (some ⟨b7, 0, none⟩)] 25 (0, 0)), pts b7 (.cells #[.slice A93 r81.2.1.length c94, .slice A95 r81.2.2.1.length c96, .slice A97 r81.2.2.2.length c98] 52 (0, 0)), orw 22 (Esl 5 (.int .u8)) 1 A93 c94 r81.2.1, osl 3 (r0 (.int .i64)) 1 A95 c96 r81.2.2.1, osl 3 (r0 (.int .i64)) 1 A97 c98 r81.2.2.2, mks D_l2] := hS.sel [2, 0, 1, 3, 4, 5, 6, 7, 8, 9, 10] (by kernel_rfl)
      have hS : Sat w112 (rf w0) [osl 5 (r0 (.int .u8)) 1 A109 c110 r100, orw 22 (Esl 5 (.int .u8)) 1 A9_l2 c9_l2 x9_l2, pts b111 (.cells #[.slice A109 r100.length c110] 22 (0, 0)), pts b1 (.cells #[.pointer none] 25 (0, 0)), pts b4 (.cells #[.int .i64 0] 26 (0, 0)), pts b10 (.cells #[.pointer (some ⟨b7, 0, none⟩)] 25 (0, 0)), pts b7 (.cells #[.slice A93 r81.2.1.length c94, .slice A95 r81.2.2.1.length c96, .slice A97 r81.2.2.2.length c98] 52 (0, 0)), orw 22 (Esl 5 (.int .u8)) 1 A93 c94 r81.2.1, osl 3 (r0 (.int .i64)) 1 A95 c96 r81.2.2.1, osl 3 (r0 (.int .i64)) 1 A97 c98 r81.2.2.2, mks D_l2] := hS.sel [2, 0, 1, 3, 4, 5, 6, 7, 8, 9, 10] (by kernel_rfl)
      have hS : Sat w112 (rf w0) [orw 22 (Esl 5 (.int .u8)) 1 A9_l2 c9_l2 x9_l2, osl 5 (r0 (.int .u8)) 1 A109 c110 r100, pts b111 (.cells #[.slice A109 r100.length c110] 22 (0, 0)), pts b1 (.cells #[.pointer none] 25 (0, 0)), pts b4 (.cells #[.int .i64 0] 26 (0, 0)), pts b10 (.cells #[.pointer (some ⟨b7, 0, none⟩)] 25 (0, 0)), pts b7 (.cells #[.slice A93 r81.2.1.length c94, .slice A95 r81.2.2.1.length c96, .slice A97 r81.2.2.2.length c98] 52 (0, 0)), orw 22 (Esl 5 (.int .u8)) 1 A93 c94 r81.2.1, osl 3 (r0 (.int .i64)) 1 A95 c96 r81.2.2.1, osl 3 (r0 (.int .i64)) 1 A97 c98 r81.2.2.2, mks D_l2] := hS.sel [1, 0, 2, 3, 4, 5, 6, 7, 8, 9, 10] (by kernel_rfl)
      obtain ⟨y114, e113, H⟩ := bind_ex H
      refine WR.st (St.appendOwn (.tmp 71) (.tmp 75) (by kernel_rfl) (by kernel_rfl) E29 (fun H h => Esl.mk H h) hS 0 rfl (by kernel_rfl) (by kernel_rfl) (by kernel_rfl) (by kernel_rfl) 5864062014805 (by kernel_rfl) (by kernel_rfl) e113 (fun A115 c116 w117 K118 hS hK119 hM120 => ?_))
      have R121 : rdS (rd K118 (.slice 5 (.int .u8))) 1 K118 A115 c116 y114 := orw.rdS (κ := (.slice 5 (.int .u8))) (Esl.rd (e := 5) (κ := (.int .u8))) hK119
      have R122 : rdS (r0 (.int .u8)) 1 K118 A109 c110 r100 := by obtain ⟨M, hM, hm⟩ := hM120; exact (osl.read hm).mono hM (fun _ _ h => h)
      refine WR.runk [6] [] [0, 2, 3, 4, 9, 67, 68] (L' := [(0, .slice A0 l0.length c0), (2, .pointer (some ⟨b1, 0, none⟩)), (3, .pointer (some ⟨b4, 0, none⟩)), (4, .pointer (some ⟨b10, 0, none⟩)), (9, .slice A115 y114.length c116), (67, .int .i64 (r81.2.2.1.length : Int)), (68, .int .i64 x68_l2)]) (w' := w117) (by kernel_rfl) ?_
      refine WR.nil ?_
      refine At.blockNormal ?_
      refine At.go ?_
      refine WC.reg [0, 1] (by kernel_rfl) (by kernel_rfl) ?_
      refine WR.runk [0, 1] [] [0, 2, 3, 4, 9, 67, 68] (L' := [(0, .slice A0 l0.length c0), (2, .pointer (some ⟨b1, 0, none⟩)), (3, .pointer (some ⟨b4, 0, none⟩)), (4, .pointer (some ⟨b10, 0, none⟩)), (9, .slice A115 y114.length c116), (67, .int .i64 (r81.2.2.1.length : Int)), (68, .int .i64 (wi (x68_l2 + 1)))]) (w' := w117) (by kernel_rfl) ?_
      refine WR.nil ?_
      have hS : Sat w117 (rf w0) [orw 22 (Esl 5 (.int .u8)) 1 A115 c116 y114, pts b111 (.cells #[.slice A109 r100.length c110] 22 (0, 0)), pts b1 (.cells #[.pointer none] 25 (0, 0)), pts b4 (.cells #[.int .i64 0] 26 (0, 0)), pts b10 (.cells #[.pointer (some ⟨b7, 0, none⟩)] 25 (0, 0)), pts b7 (.cells #[.slice A93 r81.2.1.length c94, .slice A95 r81.2.2.1.length c96, .slice A97 r81.2.2.2.length c98] 52 (0, 0)), orw 22 (Esl 5 (.int .u8)) 1 A93 c94 r81.2.1, osl 3 (r0 (.int .i64)) 1 A95 c96 r81.2.2.1, osl 3 (r0 (.int .i64)) 1 A97 c98 r81.2.2.2, mks D_l2] := Sat.ungh hK119 hS
      have hS : Sat w117 (rf w0) [orw 22 (Esl 5 (.int .u8)) 1 A115 c116 y114, pts b1 (.cells #[.pointer none] 25 (0, 0)), pts b4 (.cells #[.int .i64 0] 26 (0, 0)), pts b10 (.cells #[.pointer (some ⟨b7, 0, none⟩)] 25 (0, 0)), pts b7 (.cells #[.slice A93 r81.2.1.length c94, .slice A95 r81.2.2.1.length c96, .slice A97 r81.2.2.2.length c98] 52 (0, 0)), orw 22 (Esl 5 (.int .u8)) 1 A93 c94 r81.2.1, osl 3 (r0 (.int .i64)) 1 A95 c96 r81.2.2.1, osl 3 (r0 (.int .i64)) 1 A97 c98 r81.2.2.2, mks D_l2] := hS.sel [0, 2, 3, 4, 5, 6, 7, 8, 9] (by kernel_rfl)
      refine At.again ?_
      refine WL.weaken [0, 2, 3, 4, 9, 67, 68] (L' := [(0, .slice A0 l0.length c0), (2, .pointer (some ⟨b1, 0, none⟩)), (3, .pointer (some ⟨b4, 0, none⟩)), (4, .pointer (some ⟨b10, 0, none⟩)), (9, .slice A115 y114.length c116), (67, .int .i64 (r81.2.2.1.length : Int)), (68, .int .i64 (wi (x68_l2 + 1)))]) (by kernel_rfl) ?_
      exact ih y114 (wi (x68_l2 + 1)) A115 c116 D_l2 _ hS H
    · replace H := ite_f H hb99
      refine WC.exit (by kernel_rfl) ?_
      refine At.thenExit ?_
      refine At.thenExit ?_
      obtain rfl := Option.some.inj H
      have hS : Sat w (rf w0) [mks D_l2, orw 22 (Esl 5 (.int .u8)) 1 A9_l2 c9_l2 x9_l2, pts b1 (.cells #[.pointer none] 25 (0, 0)), pts b4 (.cells #[.int .i64 0] 26 (0, 0)), pts b10 (.cells #[.pointer (some ⟨b7, 0, none⟩)] 25 (0, 0)), pts b7 (.cells #[.slice A93 r81.2.1.length c94, .slice A95 r81.2.2.1.length c96, .slice A97 r81.2.2.2.length c98] 52 (0, 0)), orw 22 (Esl 5 (.int .u8)) 1 A93 c94 r81.2.1, osl 3 (r0 (.int .i64)) 1 A95 c96 r81.2.2.1, osl 3 (r0 (.int .i64)) 1 A97 c98 r81.2.2.2] := hS.sel [8, 0, 1, 2, 3, 4, 5, 6, 7] (by kernel_rfl)
      refine At.weaken [0, 2, 3, 4, 9] (L' := [(0, .slice A0 l0.length c0), (2, .pointer (some ⟨b1, 0, none⟩)), (3, .pointer (some ⟨b4, 0, none⟩)), (4, .pointer (some ⟨b10, 0, none⟩)), (9, .slice A9_l2 x9_l2.length c9_l2)]) (by kernel_rfl) ?_
      exact hn0 A9_l2 c9_l2 D_l2 _ hS
theorem image_Open.calls (w0 : World) (A0 : Option Addr) (c0 : Nat) (l0 : List Int) (R0 : rdS (r0 (.int .u8)) 1 (hp w0) A0 c0 l0) (r : (Option ((List (List Int)) × (List Int) × (List Int))) × Int) (H : image_Open.f l0 = some r) :
    Calls Try.prog 10 #[.slice A0 l0.length c0] w0 (fun e w' => ∃ v, e = .returned v ∧ image_Open.post w0 r v w') := by
  have hS : Sat w0 (rf w0) [] := Sat.start w0
  unfold image_Open.f at H
  refine calls_of_WCM (vs := [.slice A0 l0.length c0]) Try.func10 (c := C10) (n := 92) (by kernel_rfl) (by kernel_rfl) (by kernel_rfl) ?_
  have hS := Sat.mksNil hS
  refine WC.seq (by kernel_rfl) ?_
  refine WC.reg [0, 1] (by kernel_rfl) (by kernel_rfl) ?_
  refine WR.runk [] [0, 1] [0] (L' := [(0, .slice A0 l0.length c0)]) (w' := w0) (by kernel_rfl) ?_
  refine WR.st (St.box hS (by kernel_rfl) (.cells #[.pointer none] 25) (fun b1 => .pointer (some ⟨b1, 0, none⟩)) (fun _ => by kernel_rfl) (fun b1 w2 hS => ?_))
  refine WR.runk [] [1] [0, 2] (L' := [(0, .slice A0 l0.length c0), (2, .pointer (some ⟨b1, 0, none⟩))]) (w' := w2) (by kernel_rfl) ?_
  refine WR.st (St.box hS (by kernel_rfl) (.cells #[.int .i64 0] 26) (fun b4 => .pointer (some ⟨b4, 0, none⟩)) (fun _ => by kernel_rfl) (fun b4 w5 hS => ?_))
  refine WR.runk [] [] [0, 2, 3] (L' := [(0, .slice A0 l0.length c0), (2, .pointer (some ⟨b1, 0, none⟩)), (3, .pointer (some ⟨b4, 0, none⟩))]) (w' := w5) (by kernel_rfl) ?_
  refine WR.nil ?_
  refine At.go ?_
  refine WC.seq (by kernel_rfl) ?_
  refine WC.reg [0, 1, 2, 3] (by kernel_rfl) (by kernel_rfl) ?_
  refine WR.runk [0] [1, 2, 3] [0, 2, 3, 13] (L' := [(0, .slice A0 l0.length c0), (2, .pointer (some ⟨b1, 0, none⟩)), (3, .pointer (some ⟨b4, 0, none⟩)), (13, .agg #[.slice none 0 0, .slice none 0 0, .slice none 0 0])]) (w' := w5) (by kernel_rfl) ?_
  refine WR.st (St.box hS (by kernel_rfl) (.cells #[.slice none 0 0, .slice none 0 0, .slice none 0 0] 52) (fun b7 => .pointer (some ⟨b7, 0, none⟩)) (fun _ => by kernel_rfl) (fun b7 w8 hS => ?_))
  refine WR.runk [] [2, 3] [0, 2, 3, 14] (L' := [(0, .slice A0 l0.length c0), (2, .pointer (some ⟨b1, 0, none⟩)), (3, .pointer (some ⟨b4, 0, none⟩)), (14, .pointer (some ⟨b7, 0, none⟩))]) (w' := w8) (by kernel_rfl) ?_
  refine WR.st (St.box hS (by kernel_rfl) (.cells #[.pointer none] 25) (fun b10 => .pointer (some ⟨b10, 0, none⟩)) (fun _ => by kernel_rfl) (fun b10 w11 hS => ?_))
  refine WR.runk [] [3] [0, 2, 3, 4, 14] (L' := [(0, .slice A0 l0.length c0), (2, .pointer (some ⟨b1, 0, none⟩)), (3, .pointer (some ⟨b4, 0, none⟩)), (4, .pointer (some ⟨b10, 0, none⟩)), (14, .pointer (some ⟨b7, 0, none⟩))]) (w' := w11) (by kernel_rfl) ?_
  refine WR.st (St.storeObj (t := 25) (k := 0) (cur' := #[.pointer (some ⟨b7, 0, none⟩)]) (.tmp 4) (.tmp 14) (by kernel_rfl) (by kernel_rfl) (by kernel_rfl) hS (by kernel_rfl) (by kernel_rfl) (by kernel_rfl) rfl rfl (fun w13 hS => ?_))
  refine WR.runk [] [] [0, 2, 3, 4] (L' := [(0, .slice A0 l0.length c0), (2, .pointer (some ⟨b1, 0, none⟩)), (3, .pointer (some ⟨b4, 0, none⟩)), (4, .pointer (some ⟨b10, 0, none⟩))]) (w' := w13) (by kernel_rfl) ?_
  refine WR.nil ?_
  refine At.go ?_
  refine WC.seq (by kernel_rfl) ?_
  refine WC.seq (by kernel_rfl) ?_
  refine WC.reg [0, 1, 2, 3, 4, 5, 6, 7, 8, 9, 10, 11, 12, 13, 14] (by kernel_rfl) (by kernel_rfl) ?_
  refine WR.runk [0, 1, 2, 3, 4] [5, 6, 7, 8, 9, 10, 11, 12, 13, 14] [0, 2, 3, 4, 19] (L' := [(0, .slice A0 l0.length c0), (2, .pointer (some ⟨b1, 0, none⟩)), (3, .pointer (some ⟨b4, 0, none⟩)), (4, .pointer (some ⟨b10, 0, none⟩)), (19, .bool ((Int.tmod (l0.length : Int) 264) != 0))]) (w' := w13) (by kernel_rfl) ?_
  refine WR.split 19 (b := ((Int.tmod (l0.length : Int) 264) != 0)) (by kernel_rfl) (fun hb14 => ?_) (fun hb14 => ?_)
  · replace H := ite_t H hb14
    refine WR.runk [5, 6, 7, 8, 9, 10, 11, 12, 13, 14] [] [0, 2, 3, 4, 29] (L' := [(0, .slice A0 l0.length c0), (2, .pointer (some ⟨b1, 0, none⟩)), (3, .pointer (some ⟨b4, 0, none⟩)), (4, .pointer (some ⟨b10, 0, none⟩)), (29, .bool true)]) (w' := w13) (by kernel_rfl) ?_
    refine WR.nil ?_
    refine At.go ?_
    refine WC.condT (by kernel_rfl) (by kernel_rfl) (by kernel_rfl) ?_
    refine WC.seq (by kernel_rfl) ?_
    refine WC.reg [0, 1] (by kernel_rfl) (by kernel_rfl) ?_
    have hS : Sat w13 (rf w0) [pts b1 (.cells #[.pointer none] 25 (0, 0)), pts b10 (.cells #[.pointer (some ⟨b7, 0, none⟩)] 25 (0, 0)), pts b7 (.cells #[.slice none 0 0, .slice none 0 0, .slice none 0 0] 52 (0, 0)), pts b4 (.cells #[.int .i64 0] 26 (0, 0)), mks []] := hS.sel [3, 0, 1, 2, 4] (by kernel_rfl)
    refine WR.st (St.storeObj (t := 25) (k := 0) (cur' := #[.pointer none]) (.tmp 2) (.const (.pointer none)) (by kernel_rfl) (by kernel_rfl) (by kernel_rfl) hS (by kernel_rfl) (by kernel_rfl) (by kernel_rfl) rfl rfl (fun w15 hS => ?_))
    refine WR.runk [] [1] [2, 3] (L' := [(2, .pointer (some ⟨b1, 0, none⟩)), (3, .pointer (some ⟨b4, 0, none⟩))]) (w' := w15) (by kernel_rfl) ?_
    have hS : Sat w15 (rf w0) [pts b4 (.cells #[.int .i64 0] 26 (0, 0)), pts b1 (.cells #[.pointer none] 25 (0, 0)), pts b10 (.cells #[.pointer (some ⟨b7, 0, none⟩)] 25 (0, 0)), pts b7 (.cells #[.slice none 0 0, .slice none 0 0, .slice none 0 0] 52 (0, 0)), mks []] := hS.sel [3, 0, 1, 2, 4] (by kernel_rfl)
    refine WR.st (St.storeObj (t := 26) (k := 0) (cur' := #[.int .i64 10]) (.tmp 3) (.const (.int .i64 10)) (by kernel_rfl) (by kernel_rfl) (by kernel_rfl) hS (by kernel_rfl) (by kernel_rfl) (by kernel_rfl) rfl rfl (fun w16 hS => ?_))
    refine WR.runk [] [] [2, 3] (L' := [(2, .pointer (some ⟨b1, 0, none⟩)), (3, .pointer (some ⟨b4, 0, none⟩))]) (w' := w16) (by kernel_rfl) ?_
    refine WR.nil ?_
    refine At.go ?_
    refine WC.ret (by kernel_rfl) ?_
    refine At.thenRet ?_
    obtain rfl := Option.some.inj H
    have hS := optP.nil (O := O52) hS
    have hS : Sat w16 (rf w0) [mks [], pts b1 (.cells #[.pointer none] 25 (0, 0)), pts b4 (.cells #[.int .i64 10] 26 (0, 0)), optP O52 (.pointer none) none] := hS.sel [5, 2, 1, 0] (by kernel_rfl)
    exact At.bodyM hS (fun w hS => ⟨_, fun T hT => results_cells2 (a := 2) (t := 25) (b := 3) (u := 26) hT (by kernel_rfl) (by kernel_rfl) (by kernel_rfl) (by kernel_rfl) (by kernel_rfl) (Sat.cellAt 0 0 hS rfl (by kernel_rfl)) (Sat.cellAt 1 0 hS rfl (by kernel_rfl)), ⟨_, rfl, _, rfl, (hS.sel [2] (by kernel_rfl))⟩⟩)
  · replace H := ite_f H hb14
    refine WR.runk [5, 6, 7, 8, 9] [10, 11, 12, 13, 14] [0, 2, 3, 4, 24] (L' := [(0, .slice A0 l0.length c0), (2, .pointer (some ⟨b1, 0, none⟩)), (3, .pointer (some ⟨b4, 0, none⟩)), (4, .pointer (some ⟨b10, 0, none⟩)), (24, .bool ((l0.length : Int) == 0))]) (w' := w13) (by kernel_rfl) ?_
    refine WR.split 24 (b := ((l0.length : Int) == 0)) (by kernel_rfl) (fun hb17 => ?_) (fun hb17 => ?_)
    · replace H := ite_t H hb17
      refine WR.runk [10, 11, 12, 13, 14] [] [0, 2, 3, 4, 29] (L' := [(0, .slice A0 l0.length c0), (2, .pointer (some ⟨b1, 0, none⟩)), (3, .pointer (some ⟨b4, 0, none⟩)), (4, .pointer (some ⟨b10, 0, none⟩)), (29, .bool true)]) (w' := w13) (by kernel_rfl) ?_
      refine WR.nil ?_
      refine At.go ?_
      refine WC.condT (by kernel_rfl) (by kernel_rfl) (by kernel_rfl) ?_
      refine WC.seq (by kernel_rfl) ?_
      refine WC.reg [0, 1] (by kernel_rfl) (by kernel_rfl) ?_
      have hS : Sat w13 (rf w0) [pts b1 (.cells #[.pointer none] 25 (0, 0)), pts b10 (.cells #[.pointer (some ⟨b7, 0, none⟩)] 25 (0, 0)), pts b7 (.cells #[.slice none 0 0, .slice none 0 0, .slice none 0 0] 52 (0, 0)), pts b4 (.cells #[.int .i64 0] 26 (0, 0)), mks []] := hS.sel [3, 0, 1, 2, 4] (by kernel_rfl)
      refine WR.st (St.storeObj (t := 25) (k := 0) (cur' := #[.pointer none]) (.tmp 2) (.const (.pointer none)) (by kernel_rfl) (by kernel_rfl) (by kernel_rfl) hS (by kernel_rfl) (by kernel_rfl) (by kernel_rfl) rfl rfl (fun w18 hS => ?_))
      refine WR.runk [] [1] [2, 3] (L' := [(2, .pointer (some ⟨b1, 0, none⟩)), (3, .pointer (some ⟨b4, 0, none⟩))]) (w' := w18) (by kernel_rfl) ?_
      have hS : Sat w18 (rf w0) [pts b4 (.cells #[.int .i64 0] 26 (0, 0)), pts b1 (.cells #[.pointer none] 25 (0, 0)), pts b10 (.cells #[.pointer (some ⟨b7, 0, none⟩)] 25 (0, 0)), pts b7 (.cells #[.slice none 0 0, .slice none 0 0, .slice none 0 0] 52 (0, 0)), mks []] := hS.sel [3, 0, 1, 2, 4] (by kernel_rfl)
      refine WR.st (St.storeObj (t := 26) (k := 0) (cur' := #[.int .i64 10]) (.tmp 3) (.const (.int .i64 10)) (by kernel_rfl) (by kernel_rfl) (by kernel_rfl) hS (by kernel_rfl) (by kernel_rfl) (by kernel_rfl) rfl rfl (fun w19 hS => ?_))
      refine WR.runk [] [] [2, 3] (L' := [(2, .pointer (some ⟨b1, 0, none⟩)), (3, .pointer (some ⟨b4, 0, none⟩))]) (w' := w19) (by kernel_rfl) ?_
      refine WR.nil ?_
      refine At.go ?_
      refine WC.ret (by kernel_rfl) ?_
      refine At.thenRet ?_
      obtain rfl := Option.some.inj H
      have hS := optP.nil (O := O52) hS
      have hS : Sat w19 (rf w0) [mks [], pts b1 (.cells #[.pointer none] 25 (0, 0)), pts b4 (.cells #[.int .i64 10] 26 (0, 0)), optP O52 (.pointer none) none] := hS.sel [5, 2, 1, 0] (by kernel_rfl)
      exact At.bodyM hS (fun w hS => ⟨_, fun T hT => results_cells2 (a := 2) (t := 25) (b := 3) (u := 26) hT (by kernel_rfl) (by kernel_rfl) (by kernel_rfl) (by kernel_rfl) (by kernel_rfl) (Sat.cellAt 0 0 hS rfl (by kernel_rfl)) (Sat.cellAt 1 0 hS rfl (by kernel_rfl)), ⟨_, rfl, _, rfl, (hS.sel [2] (by kernel_rfl))⟩⟩)
    · replace H := ite_f H hb17
      refine WR.runk [10, 11, 12, 13, 14] [] [0, 2, 3, 4, 29] (L' := [(0, .slice A0 l0.length c0), (2, .pointer (some ⟨b1, 0, none⟩)), (3, .pointer (some ⟨b4, 0, none⟩)), (4, .pointer (some ⟨b10, 0, none⟩)), (29, .bool (decide (wi (Int.tdiv (l0.length : Int) 264) > 4096)))]) (w' := w13) (by kernel_rfl) ?_
      refine WR.nil ?_
      refine At.go ?_
      refine WC.cond (by kernel_rfl) (decide (wi (Int.tdiv (l0.length : Int) 264) > 4096)) (by kernel_rfl) (by kernel_rfl) (fun hb20 => ?_) (fun hb20 => ?_)
      · replace H := ite_t H hb20
        refine WC.seq (by kernel_rfl) ?_
        refine WC.reg [0, 1] (by kernel_rfl) (by kernel_rfl) ?_
        refine WR.runk [] [0, 1] [2, 3] (L' := [(2, .pointer (some ⟨b1, 0, none⟩)), (3, .pointer (some ⟨b4, 0, none⟩))]) (w' := w13) (by kernel_rfl) ?_
        have hS : Sat w13 (rf w0) [pts b1 (.cells #[.pointer none] 25 (0, 0)), pts b10 (.cells #[.pointer (some ⟨b7, 0, none⟩)] 25 (0, 0)), pts b7 (.cells #[.slice none 0 0, .slice none 0 0, .slice none 0 0] 52 (0, 0)), pts b4 (.cells #[.int .i64 0] 26 (0, 0)), mks []] := hS.sel [3, 0, 1, 2, 4] (by kernel_rfl)
        refine WR.st (St.storeObj (t := 25) (k := 0) (cur' := #[.pointer none]) (.tmp 2) (.const (.pointer none)) (by kernel_rfl) (by kernel_rfl) (by kernel_rfl) hS (by kernel_rfl) (by kernel_rfl) (by kernel_rfl) rfl rfl (fun w21 hS => ?_))
        refine WR.runk [] [1] [2, 3] (L' := [(2, .pointer (some ⟨b1, 0, none⟩)), (3, .pointer (some ⟨b4, 0, none⟩))]) (w' := w21) (by kernel_rfl) ?_
        have hS : Sat w21 (rf w0) [pts b4 (.cells #[.int .i64 0] 26 (0, 0)), pts b1 (.cells #[.pointer none] 25 (0, 0)), pts b10 (.cells #[.pointer (some ⟨b7, 0, none⟩)] 25 (0, 0)), pts b7 (.cells #[.slice none 0 0, .slice none 0 0, .slice none 0 0] 52 (0, 0)), mks []] := hS.sel [3, 0, 1, 2, 4] (by kernel_rfl)
        refine WR.st (St.storeObj (t := 26) (k := 0) (cur' := #[.int .i64 10]) (.tmp 3) (.const (.int .i64 10)) (by kernel_rfl) (by kernel_rfl) (by kernel_rfl) hS (by kernel_rfl) (by kernel_rfl) (by kernel_rfl) rfl rfl (fun w22 hS => ?_))
        refine WR.runk [] [] [2, 3] (L' := [(2, .pointer (some ⟨b1, 0, none⟩)), (3, .pointer (some ⟨b4, 0, none⟩))]) (w' := w22) (by kernel_rfl) ?_
        refine WR.nil ?_
        refine At.go ?_
        refine WC.ret (by kernel_rfl) ?_
        refine At.thenRet ?_
        obtain rfl := Option.some.inj H
        have hS := optP.nil (O := O52) hS
        have hS : Sat w22 (rf w0) [mks [], pts b1 (.cells #[.pointer none] 25 (0, 0)), pts b4 (.cells #[.int .i64 10] 26 (0, 0)), optP O52 (.pointer none) none] := hS.sel [5, 2, 1, 0] (by kernel_rfl)
        exact At.bodyM hS (fun w hS => ⟨_, fun T hT => results_cells2 (a := 2) (t := 25) (b := 3) (u := 26) hT (by kernel_rfl) (by kernel_rfl) (by kernel_rfl) (by kernel_rfl) (by kernel_rfl) (Sat.cellAt 0 0 hS rfl (by kernel_rfl)) (Sat.cellAt 1 0 hS rfl (by kernel_rfl)), ⟨_, rfl, _, rfl, (hS.sel [2] (by kernel_rfl))⟩⟩)
      · replace H := ite_f H hb20
        refine WC.skip (by kernel_rfl) ?_
        refine At.go ?_
        refine WC.seq (by kernel_rfl) ?_
        refine WC.seq (by kernel_rfl) ?_
        refine WC.reg [0, 1] (by kernel_rfl) (by kernel_rfl) ?_
        refine WR.runk [0] [1] [0, 2, 3, 4, 30] (L' := [(0, .slice A0 l0.length c0), (2, .pointer (some ⟨b1, 0, none⟩)), (3, .pointer (some ⟨b4, 0, none⟩)), (4, .pointer (some ⟨b10, 0, none⟩)), (30, .slice A0 l0.length c0)]) (w' := w13) (by kernel_rfl) ?_
        refine WR.st (St.call (by kernel_rfl) (f := 24) (args := #[.slice A0 l0.length c0, .int .i64 ((264 : Nat) : Int)]) (by kernel_rfl) (chunk_calls w13 A0 c0 l0.length ((264 : Nat) : Int) (by decide)) ?_)
        rintro _ w25 ⟨b23, b24, rfl, hS26⟩
        have hS : Sat w25 (rf w0) [pts b23 (.cells #[.slice A0 l0.length c0] 22 (0, 0)), pts b24 (.cells #[.int .i64 ((264 : Nat) : Int)] 3 (0, 0)), pts b10 (.cells #[.pointer (some ⟨b7, 0, none⟩)] 25 (0, 0)), pts b7 (.cells #[.slice none 0 0, .slice none 0 0, .slice none 0 0] 52 (0, 0)), pts b4 (.cells #[.int .i64 0] 26 (0, 0)), pts b1 (.cells #[.pointer none] 25 (0, 0)), mks []] := hS.ext hS26
        refine WR.runk [] [] [0, 2, 3, 4, 31] (L' := [(0, .slice A0 l0.length c0), (2, .pointer (some ⟨b1, 0, none⟩)), (3, .pointer (some ⟨b4, 0, none⟩)), (4, .pointer (some ⟨b10, 0, none⟩)), (31, .func (.func 37) #[] #[.pointer (some ⟨b23, 0, none⟩), .pointer (some ⟨b24, 0, none⟩)])]) (w' := w25) (by kernel_rfl) ?_
        refine WR.nil ?_
        refine At.go ?_
        refine WC.block (by kernel_rfl) ?_
        have hS := hS.addNilR (α := (List Int)) 22 (Esl 5 (.int .u8)) 1
        have hS := hS.addNil (α := Int) 3 (r0 (.int .i64)) 1
        have hS := hS.addNil (α := Int) 3 (r0 (.int .i64)) 1
        have hS : Sat w25 (rf w0) [pts b7 (.cells #[.slice none 0 0, .slice none 0 0, .slice none 0 0] 52 (0, 0)), orw 22 (Esl 5 (.int .u8)) 1 none 0 ([] : List (List Int)), osl 3 (r0 (.int .i64)) 1 none 0 ([] : List Int), osl 3 (r0 (.int .i64)) 1 none 0 ([] : List Int), pts b23 (.cells #[.slice A0 l0.length c0] 22 (0, 0)), pts b24 (.cells #[.int .i64 ((264 : Nat) : Int)] 3 (0, 0)), pts b10 (.cells #[.pointer (some ⟨b7, 0, none⟩)] 25 (0, 0)), pts b4 (.cells #[.int .i64 0] 26 (0, 0)), pts b1 (.cells #[.pointer none] 25 (0, 0)), mks []] := hS.sel [6, 2, 1, 0, 3, 4, 5, 7, 8, 9] (by kernel_rfl)
        have hS : Sat w25 (rf w0) [O52 b7 (([] : List (List Int)), ([] : List Int), ([] : List Int)), pts b23 (.cells #[.slice A0 l0.length c0] 22 (0, 0)), pts b24 (.cells #[.int .i64 ((264 : Nat) : Int)] 3 (0, 0)), pts b10 (.cells #[.pointer (some ⟨b7, 0, none⟩)] 25 (0, 0)), pts b4 (.cells #[.int .i64 0] 26 (0, 0)), pts b1 (.cells #[.pointer none] 25 (0, 0)), mks []] := O52.close (([] : List (List Int)), ([] : List Int), ([] : List Int)) none 0 none 0 none 0 hS
        have hS : Sat w25 (rf w0) [mks [], pts b23 (.cells #[.slice A0 l0.length c0] 22 (0, 0)), pts b24 (.cells #[.int .i64 ((264 : Nat) : Int)] 3 (0, 0)), O52 b7 (([] : List (List Int)), ([] : List Int), ([] : List Int)), pts b1 (.cells #[.pointer none] 25 (0, 0)), pts b4 (.cells #[.int .i64 0] 26 (0, 0)), pts b10 (.cells #[.pointer (some ⟨b7, 0, none⟩)] 25 (0, 0))] := hS.sel [6, 1, 2, 0, 5, 4, 3] (by kernel_rfl)
        obtain ⟨_, e72, H⟩ := bind_ex H
        obtain ⟨o70, e71, H⟩ := bind_ex H
        refine WC.weaken [0, 2, 3, 4, 31] (L' := [(0, .slice A0 l0.length c0), (2, .pointer (some ⟨b1, 0, none⟩)), (3, .pointer (some ⟨b4, 0, none⟩)), (4, .pointer (some ⟨b10, 0, none⟩)), (31, .func (.func 37) #[] #[.pointer (some ⟨b23, 0, none⟩), .pointer (some ⟨b24, 0, none⟩)])]) (by kernel_rfl) ?_
        refine WC.range (sz := 264) 32 (by kernel_rfl) (by kernel_rfl) (by kernel_rfl) (by kernel_rfl) chunk_enters chunk_it (by kernel_rfl) (by kernel_rfl) (of_decide_eq_true (chk?_some e72)) (rdS.nz R0) (And.left R0) hS (fun T158 l159 r160 fn161 D73 X162 w74 hX163 hS => ?_)
        refine image_Open.l1_ok w0 A0 c0 l0 b1 b4 b7 b10 b23 b24 R0 T158 l159 r160 fn161 D73 X162 hX163 o70 (fun o75 w79 ho80 hS => ?_) (fun o77 w156 ho157 hS => ?_) FU 0 (([] : List (List Int)), ([] : List Int), ([] : List Int)) _ hS e71
        · subst ho80
          dsimp only at H
          refine At.blockNormal ?_
          refine At.go ?_
          refine WC.seq (by kernel_rfl) ?_
          refine WC.seq (by kernel_rfl) ?_
          refine WC.reg [0, 1, 2] (by kernel_rfl) (by kernel_rfl) ?_
          refine WR.runk [] [0, 1, 2] [0, 2, 3, 4] (L' := [(0, .slice A0 l0.length c0), (2, .pointer (some ⟨b1, 0, none⟩)), (3, .pointer (some ⟨b4, 0, none⟩)), (4, .pointer (some ⟨b10, 0, none⟩))]) (w' := w79) (by kernel_rfl) ?_
          refine WR.st (St.ofR (RSt.loadObj (t := 25) (k := 0) (v := .pointer (some ⟨b7, 0, none⟩)) (.tmp 4) (by kernel_rfl) (by kernel_rfl) (by kernel_rfl) 4 hS rfl (by kernel_rfl) rfl ?_))
          refine WR.runk [] [1, 2] [0, 2, 3, 4, 60] (L' := [(0, .slice A0 l0.length c0), (2, .pointer (some ⟨b1, 0, none⟩)), (3, .pointer (some ⟨b4, 0, none⟩)), (4, .pointer (some ⟨b10, 0, none⟩)), (60, .pointer (some ⟨b7, 0, none⟩))]) (w' := w79) (by kernel_rfl) ?_
          have hS : Sat w79 (rf w0) [O52 b7 o75, mks D73, pts b1 (.cells #[.pointer none] 25 (0, 0)), pts b4 (.cells #[.int .i64 0] 26 (0, 0)), pts b10 (.cells #[.pointer (some ⟨b7, 0, none⟩)] 25 (0, 0))] := hS.sel [1, 0, 2, 3, 4] (by kernel_rfl)
          obtain ⟨r81, e82, H⟩ := bind_ex H
          obtain ⟨B87, hso86, hsub84, hcs85, hb83⟩ := Sat.lend [O52 b7 o75] (cs := [mks D73, pts b1 (.cells #[.pointer none] 25 (0, 0)), pts b4 (.cells #[.int .i64 0] 26 (0, 0)), pts b10 (.cells #[.pointer (some ⟨b7, 0, none⟩)] 25 (0, 0))]) hS
          refine WR.st (St.call (by kernel_rfl) (f := 26) (args := #[.pointer (some ⟨b7, 0, none⟩)]) (by kernel_rfl) (image_Image_head.calls B87 w79 b7 o75 hso86  r81 e82) ?_)
          rintro _ w88 ⟨rfl, hS89⟩
          have hS : Sat w88 (rf w0) [O52 b7 r81.2, mks D73, pts b1 (.cells #[.pointer none] 25 (0, 0)), pts b4 (.cells #[.int .i64 0] 26 (0, 0)), pts b10 (.cells #[.pointer (some ⟨b7, 0, none⟩)] 25 (0, 0))] := hb83 _ _ hS89
          refine WR.runk [2] [] [0, 2, 3, 4, 62] (L' := [(0, .slice A0 l0.length c0), (2, .pointer (some ⟨b1, 0, none⟩)), (3, .pointer (some ⟨b4, 0, none⟩)), (4, .pointer (some ⟨b10, 0, none⟩)), (62, .bool (!r81.1))]) (w' := w88) (by kernel_rfl) ?_
          refine WR.nil ?_
          refine At.go ?_
          refine WC.cond (by kernel_rfl) (!r81.1) (by kernel_rfl) (by kernel_rfl) (fun hb90 => ?_) (fun hb90 => ?_)
          · replace H := ite_t H hb90
            refine WC.seq (by kernel_rfl) ?_
            refine WC.reg [0, 1] (by kernel_rfl) (by kernel_rfl) ?_
            refine WR.runk [] [0, 1] [2, 3] (L' := [(2, .pointer (some ⟨b1, 0, none⟩)), (3, .pointer (some ⟨b4, 0, none⟩))]) (w' := w88) (by kernel_rfl) ?_
            have hS : Sat w88 (rf w0) [pts b1 (.cells #[.pointer none] 25 (0, 0)), O52 b7 r81.2, mks D73, pts b4 (.cells #[.int .i64 0] 26 (0, 0)), pts b10 (.cells #[.pointer (some ⟨b7, 0, none⟩)] 25 (0, 0))] := hS.sel [2, 0, 1, 3, 4] (by kernel_rfl)
            refine WR.st (St.storeObj (t := 25) (k := 0) (cur' := #[.pointer none]) (.tmp 2) (.const (.pointer none)) (by kernel_rfl) (by kernel_rfl) (by kernel_rfl) hS (by kernel_rfl) (by kernel_rfl) (by kernel_rfl) rfl rfl (fun w91 hS => ?_))
            refine WR.runk [] [1] [2, 3] (L' := [(2, .pointer (some ⟨b1, 0, none⟩)), (3, .pointer (some ⟨b4, 0, none⟩))]) (w' := w91) (by kernel_rfl) ?_
            have hS : Sat w91 (rf w0) [pts b4 (.cells #[.int .i64 0] 26 (0, 0)), pts b1 (.cells #[.pointer none] 25 (0, 0)), O52 b7 r81.2, mks D73, pts b10 (.cells #[.pointer (some ⟨b7, 0, none⟩)] 25 (0, 0))] := hS.sel [3, 0, 1, 2, 4] (by kernel_rfl)
            refine WR.st (St.storeObj (t := 26) (k := 0) (cur' := #[.int .i64 10]) (.tmp 3) (.const (.int .i64 10)) (by kernel_rfl) (by kernel_rfl) (by kernel_rfl) hS (by kernel_rfl) (by kernel_rfl) (by kernel_rfl) rfl rfl (fun w92 hS => ?_))
            refine WR.runk [] [] [2, 3] (L' := [(2, .pointer (some ⟨b1, 0, none⟩)), (3, .pointer (some ⟨b4, 0, none⟩))]) (w' := w92) (by kernel_rfl) ?_
            refine WR.nil ?_
            refine At.go ?_
            refine WC.ret (by kernel_rfl) ?_
            refine At.thenRet ?_
            obtain rfl := Option.some.inj H
            have hS := optP.nil (O := O52) hS
            have hS : Sat w92 (rf w0) [mks D73, pts b1 (.cells #[.pointer none] 25 (0, 0)), pts b4 (.cells #[.int .i64 10] 26 (0, 0)), optP O52 (.pointer none) none] := hS.sel [4, 2, 1, 0] (by kernel_rfl)
            exact At.bodyM hS (fun w hS => ⟨_, fun T hT => results_cells2 (a := 2) (t := 25) (b := 3) (u := 26) hT (by kernel_rfl) (by kernel_rfl) (by kernel_rfl) (by kernel_rfl) (by kernel_rfl) (Sat.cellAt 0 0 hS rfl (by kernel_rfl)) (Sat.cellAt 1 0 hS rfl (by kernel_rfl)), ⟨_, rfl, _, rfl, (hS.sel [2] (by kernel_rfl))⟩⟩)
          · replace H := ite_f H hb90
            refine WC.skip (by kernel_rfl) ?_
            refine At.go ?_
            refine WC.seq (by kernel_rfl) ?_
            refine WC.reg [0] (by kernel_rfl) (by kernel_rfl) ?_
            refine WR.runk [0] [] [0, 2, 3, 4, 9] (L' := [(0, .slice A0 l0.length c0), (2, .pointer (some ⟨b1, 0, none⟩)), (3, .pointer (some ⟨b4, 0, none⟩)), (4, .pointer (some ⟨b10, 0, none⟩)), (9, .slice none 0 0)]) (w' := w88) (by kernel_rfl) ?_
            refine WR.nil ?_
            refine At.go ?_
            refine WC.seq (by kernel_rfl) ?_
            refine WC.seq (by kernel_rfl) ?_
            refine WC.reg [0, 1, 2, 3, 4, 5] (by kernel_rfl) (by kernel_rfl) ?_
            refine WR.st (St.ofR (RSt.loadObj (t := 25) (k := 0) (v := .pointer (some ⟨b7, 0, none⟩)) (.tmp 4) (by kernel_rfl) (by kernel_rfl) (by kernel_rfl) 4 hS rfl (by kernel_rfl) rfl ?_))
            refine WR.runk [1, 2] [3, 4, 5] [0, 2, 3, 4, 9, 65] (L' := [(0, .slice A0 l0.length c0), (2, .pointer (some ⟨b1, 0, none⟩)), (3, .pointer (some ⟨b4, 0, none⟩)), (4, .pointer (some ⟨b10, 0, none⟩)), (9, .slice none 0 0), (65, .pointer (some ⟨b7, 1, none⟩))]) (w' := w88) (by kernel_rfl) ?_
            obtain ⟨A93, c94, A95, c96, A97, c98, hS⟩ := O52.open hS
            have hS : Sat w88 (rf w0) [pts b7 (.cells #[.slice A93 r81.2.1.length c94, .slice A95 r81.2.2.1.length c96, .slice A97 r81.2.2.2.length c98] 52 (0, 0)), orw 22 (Esl 5 (.int .u8)) 1 A93 c94 r81.2.1, osl 3 (r0 (.int .i64)) 1 A95 c96 r81.2.2.1, osl 3 (r0 (.int .i64)) 1 A97 c98 r81.2.2.2, mks D73, pts b1 (.cells #[.pointer none] 25 (0, 0)), pts b4 (.cells #[.int .i64 0] 26 (0, 0)), pts b10 (.cells #[.pointer (some ⟨b7, 0, none⟩)] 25 (0, 0))] := hS
            refine WR.st (St.ofR (RSt.loadObj (t := 50) (k := 1) (v := .slice A95 r81.2.2.1.length c96) (.tmp 65) (by kernel_rfl) (by kernel_rfl) (by kernel_rfl) 0 hS rfl (by kernel_rfl) rfl ?_))
            refine WR.runk [4, 5] [] [0, 2, 3, 4, 9, 67, 68] (L' := [(0, .slice A0 l0.length c0), (2, .pointer (some ⟨b1, 0, none⟩)), (3, .pointer (some ⟨b4, 0, none⟩)), (4, .pointer (some ⟨b10, 0, none⟩)), (9, .slice none 0 0), (67, .int .i64 (r81.2.2.1.length : Int)), (68, .int .i64 0)]) (w' := w88) (by kernel_rfl) ?_
            refine WR.nil ?_
            refine At.go ?_
            refine WC.block (by kernel_rfl) ?_
            have hS := hS.addNilR (α := (List Int)) 22 (Esl 5 (.int .u8)) 1
            have hS : Sat w88 (rf w0) [orw 22 (Esl 5 (.int .u8)) 1 none 0 ([] : List (List Int)), pts b1 (.cells #[.pointer none] 25 (0, 0)), pts b4 (.cells #[.int .i64 0] 26 (0, 0)), pts b10 (.cells #[.pointer (some ⟨b7, 0, none⟩)] 25 (0, 0)), pts b7 (.cells #[.slice A93 r81.2.1.length c94, .slice A95 r81.2.2.1.length c96, .slice A97 r81.2.2.2.length c98] 52 (0, 0)), orw 22 (Esl 5 (.int .u8)) 1 A93 c94 r81.2.1, osl 3 (r0 (.int .i64)) 1 A95 c96 r81.2.2.1, osl 3 (r0 (.int .i64)) 1 A97 c98 r81.2.2.2, mks D73] := hS.sel [0, 6, 7, 8, 1, 2, 3, 4, 5] (by kernel_rfl)
            obtain ⟨o123, e124, H⟩ := bind_ex H
            refine WC.loop (by kernel_rfl) ?_
            refine WL.weaken [0, 2, 3, 4, 9, 67, 68] (L' := [(0, .slice A0 l0.length c0), (2, .pointer (some ⟨b1, 0, none⟩)), (3, .pointer (some ⟨b4, 0, none⟩)), (4, .pointer (some ⟨b10, 0, none⟩)), (9, .slice none 0 0), (67, .int .i64 (r81.2.2.1.length : Int)), (68, .int .i64 0)]) (by kernel_rfl) ?_
            refine image_Open.l2_ok w0 A0 c0 l0 b1 b4 b7 b10 r81 A93 c94 A95 c96 A97 c98 o123 (fun A9_q125 c9_q125 D_q125 w126 hS => ?_) FU ([] : List (List Int)) 0 none 0 D73 _ hS e124
            refine At.hit ?_
            refine At.go ?_
            refine WC.seq (by kernel_rfl) ?_
            refine WC.reg [0, 1, 2, 3, 4, 5, 6] (by kernel_rfl) (by kernel_rfl) ?_
            refine WR.runk [0] [1, 2, 3, 4, 5, 6] [0, 2, 3, 4, 79] (L' := [(0, .slice A0 l0.length c0), (2, .pointer (some ⟨b1, 0, none⟩)), (3, .pointer (some ⟨b4, 0, none⟩)), (4, .pointer (some ⟨b10, 0, none⟩)), (79, .slice A9_q125 o123.length c9_q125)]) (w' := w126) (by kernel_rfl) ?_
            obtain ⟨r128, e129, H⟩ := bind_ex H
            refine WR.st (St.call (by kernel_rfl) (f := 15) (args := #[.slice A9_q125 o123.length c9_q125]) (by kernel_rfl) (image_Build.calls w126 A9_q125 c9_q125 o123 (Sat.rdAnyS 1 hS rfl (fun _ h => orw.rdS (κ := (.slice 5 (.int .u8))) (Esl.rd (e := 5) (κ := (.int .u8))) h)) r128 e129) ?_)
            rintro _ w135 ⟨A137, c138, rfl, hS136⟩
            have hS : Sat w135 (rf w0) [osl 5 (r0 (.int .u8)) 1 A137 c138 r128.1, mks D_q125, orw 22 (Esl 5 (.int .u8)) 1 A9_q125 c9_q125 o123, pts b1 (.cells #[.pointer none] 25 (0, 0)), pts b4 (.cells #[.int .i64 0] 26 (0, 0)), pts b10 (.cells #[.pointer (some ⟨b7, 0, none⟩)] 25 (0, 0)), pts b7 (.cells #[.slice A93 r81.2.1.length c94, .slice A95 r81.2.2.1.length c96, .slice A97 r81.2.2.2.length c98] 52 (0, 0)), orw 22 (Esl 5 (.int .u8)) 1 A93 c94 r81.2.1, osl 3 (r0 (.int .i64)) 1 A95 c96 r81.2.2.1, osl 3 (r0 (.int .i64)) 1 A97 c98 r81.2.2.2] := hS.ext hS136
            refine WR.runk [2, 3, 4, 5, 6] [] [0, 2, 3, 4, 11, 12] (L' := [(0, .slice A0 l0.length c0), (2, .pointer (some ⟨b1, 0, none⟩)), (3, .pointer (some ⟨b4, 0, none⟩)), (4, .pointer (some ⟨b10, 0, none⟩)), (11, .slice A137 r128.1.length c138), (12, .int .i64 r128.2)]) (w' := w135) (by kernel_rfl) ?_
            refine WR.nil ?_
            refine At.go ?_
            refine WC.seq (by kernel_rfl) ?_
            refine WC.seq (by kernel_rfl) ?_
            refine WC.reg [0, 1, 2, 3, 4, 5, 6, 7] (by kernel_rfl) (by kernel_rfl) ?_
            refine WR.runk [0, 1, 2] [3, 4, 5, 6, 7] [0, 2, 3, 4, 11, 85] (L' := [(0, .slice A0 l0.length c0), (2, .pointer (some ⟨b1, 0, none⟩)), (3, .pointer (some ⟨b4, 0, none⟩)), (4, .pointer (some ⟨b10, 0, none⟩)), (11, .slice A137 r128.1.length c138), (85, .bool (r128.2 != 0))]) (w' := w135) (by kernel_rfl) ?_
            refine WR.split 85 (b := (r128.2 != 0)) (by kernel_rfl) (fun hb139 => ?_) (fun hb139 => ?_)
            · replace H := ite_t H hb139
              refine WR.runk [3, 4, 5, 6, 7] [] [2, 3, 4, 90] (L' := [(2, .pointer (some ⟨b1, 0, none⟩)), (3, .pointer (some ⟨b4, 0, none⟩)), (4, .pointer (some ⟨b10, 0, none⟩)), (90, .bool true)]) (w' := w135) (by kernel_rfl) ?_
              refine WR.nil ?_
              refine At.go ?_
              refine WC.condT (by kernel_rfl) (by kernel_rfl) (by kernel_rfl) ?_
              refine WC.seq (by kernel_rfl) ?_
              refine WC.reg [0, 1] (by kernel_rfl) (by kernel_rfl) ?_
              have hS : Sat w135 (rf w0) [pts b1 (.cells #[.pointer none] 25 (0, 0)), osl 5 (r0 (.int .u8)) 1 A137 c138 r128.1, mks D_q125, orw 22 (Esl 5 (.int .u8)) 1 A9_q125 c9_q125 o123, pts b4 (.cells #[.int .i64 0] 26 (0, 0)), pts b10 (.cells #[.pointer (some ⟨b7, 0, none⟩)] 25 (0, 0)), pts b7 (.cells #[.slice A93 r81.2.1.length c94, .slice A95 r81.2.2.1.length c96, .slice A97 r81.2.2.2.length c98] 52 (0, 0)), orw 22 (Esl 5 (.int .u8)) 1 A93 c94 r81.2.1, osl 3 (r0 (.int .i64)) 1 A95 c96 r81.2.2.1, osl 3 (r0 (.int .i64)) 1 A97 c98 r81.2.2.2] := hS.sel [3, 0, 1, 2, 4, 5, 6, 7, 8, 9] (by kernel_rfl)
              refine WR.st (St.storeObj (t := 25) (k := 0) (cur' := #[.pointer none]) (.tmp 2) (.const (.pointer none)) (by kernel_rfl) (by kernel_rfl) (by kernel_rfl) hS (by kernel_rfl) (by kernel_rfl) (by kernel_rfl) rfl rfl (fun w140 hS => ?_))
              refine WR.runk [] [1] [2, 3] (L' := [(2, .pointer (some ⟨b1, 0, none⟩)), (3, .pointer (some ⟨b4, 0, none⟩))]) (w' := w140) (by kernel_rfl) ?_
              have hS : Sat w140 (rf w0) [pts b4 (.cells #[.int .i64 0] 26 (0, 0)), pts b1 (.cells #[.pointer none] 25 (0, 0)), osl 5 (r0 (.int .u8)) 1 A137 c138 r128.1, mks D_q125, orw 22 (Esl 5 (.int .u8)) 1 A9_q125 c9_q125 o123, pts b10 (.cells #[.pointer (some ⟨b7, 0, none⟩)] 25 (0, 0)), pts b7 (.cells #[.slice A93 r81.2.1.length c94, .slice A95 r81.2.2.1.length c96, .slice A97 r81.2.2.2.length c98] 52 (0, 0)), orw 22 (Esl 5 (.int .u8)) 1 A93 c94 r81.2.1, osl 3 (r0 (.int .i64)) 1 A95 c96 r81.2.2.1, osl 3 (r0 (.int .i64)) 1 A97 c98 r81.2.2.2] := hS.sel [4, 0, 1, 2, 3, 5, 6, 7, 8, 9] (by kernel_rfl)
              refine WR.st (St.storeObj (t := 26) (k := 0) (cur' := #[.int .i64 10]) (.tmp 3) (.const (.int .i64 10)) (by kernel_rfl) (by kernel_rfl) (by kernel_rfl) hS (by kernel_rfl) (by kernel_rfl) (by kernel_rfl) rfl rfl (fun w141 hS => ?_))
              refine WR.runk [] [] [2, 3] (L' := [(2, .pointer (some ⟨b1, 0, none⟩)), (3, .pointer (some ⟨b4, 0, none⟩))]) (w' := w141) (by kernel_rfl) ?_
              refine WR.nil ?_
              refine At.go ?_
              refine WC.ret (by kernel_rfl) ?_
              refine At.thenRet ?_
              obtain rfl := Option.some.inj H
              have hS := optP.nil (O := O52) hS
              have hS : Sat w141 (rf w0) [mks D_q125, pts b1 (.cells #[.pointer none] 25 (0, 0)), pts b4 (.cells #[.int .i64 10] 26 (0, 0)), optP O52 (.pointer none) none] := hS.sel [4, 2, 1, 0] (by kernel_rfl)
              exact At.bodyM hS (fun w hS => ⟨_, fun T hT => results_cells2 (a := 2) (t := 25) (b := 3) (u := 26) hT (by kernel_rfl) (by kernel_rfl) (by kernel_rfl) (by kernel_rfl) (by kernel_rfl) (Sat.cellAt 0 0 hS rfl (by kernel_rfl)) (Sat.cellAt 1 0 hS rfl (by kernel_rfl)), ⟨_, rfl, _, rfl, (hS.sel [2] (by kernel_rfl))⟩⟩)
            · replace H := ite_f H hb139
              refine WR.runk [3, 4] [5, 6, 7] [2, 3, 4, 85, 86, 87] (L' := [(2, .pointer (some ⟨b1, 0, none⟩)), (3, .pointer (some ⟨b4, 0, none⟩)), (4, .pointer (some ⟨b10, 0, none⟩)), (85, .bool false), (86, .slice A137 r128.1.length c138), (87, .slice A0 l0.length c0)]) (w' := w135) (by kernel_rfl) ?_
              obtain ⟨r142, e143, H⟩ := bind_ex H
              refine WR.st (St.call (by kernel_rfl) (f := 27) (args := #[.slice A137 r128.1.length c138, .slice A0 l0.length c0]) (by kernel_rfl) (slices_Equal.calls w135 A137 c138 r128.1 (Sat.rdAt 0 hS rfl) A0 c0 l0 (rdS.up R0 hS.sub0) r142 e143) ?_)
              rintro _ w149 ⟨rfl, hS150⟩
              have hS : Sat w149 (rf w0) [osl 5 (r0 (.int .u8)) 1 A137 c138 r128.1, mks D_q125, orw 22 (Esl 5 (.int .u8)) 1 A9_q125 c9_q125 o123, pts b1 (.cells #[.pointer none] 25 (0, 0)), pts b4 (.cells #[.int .i64 0] 26 (0, 0)), pts b10 (.cells #[.pointer (some ⟨b7, 0, none⟩)] 25 (0, 0)), pts b7 (.cells #[.slice A93 r81.2.1.length c94, .slice A95 r81.2.2.1.length c96, .slice A97 r81.2.2.2.length c98] 52 (0, 0)), orw 22 (Esl 5 (.int .u8)) 1 A93 c94 r81.2.1, osl 3 (r0 (.int .i64)) 1 A95 c96 r81.2.2.1, osl 3 (r0 (.int .i64)) 1 A97 c98 r81.2.2.2] := hS.ext hS150
              refine WR.runk [6, 7] [] [2, 3, 4, 90] (L' := [(2, .pointer (some ⟨b1, 0, none⟩)), (3, .pointer (some ⟨b4, 0, none⟩)), (4, .pointer (some ⟨b10, 0, none⟩)), (90, .bool (!r142))]) (w' := w149) (by kernel_rfl) ?_
              refine WR.nil ?_
              refine At.go ?_
              refine WC.cond (by kernel_rfl) (!r142) (by kernel_rfl) (by kernel_rfl) (fun hb151 => ?_) (fun hb151 => ?_)
              · replace H := ite_t H hb151
                refine WC.seq (by kernel_rfl) ?_
                refine WC.reg [0, 1] (by kernel_rfl) (by kernel_rfl) ?_
                refine WR.runk [] [0, 1] [2, 3] (L' := [(2, .pointer (some ⟨b1, 0, none⟩)), (3, .pointer (some ⟨b4, 0, none⟩))]) (w' := w149) (by kernel_rfl) ?_
                have hS : Sat w149 (rf w0) [pts b1 (.cells #[.pointer none] 25 (0, 0)), osl 5 (r0 (.int .u8)) 1 A137 c138 r128.1, mks D_q125, orw 22 (Esl 5 (.int .u8)) 1 A9_q125 c9_q125 o123, pts b4 (.cells #[.int .i64 0] 26 (0, 0)), pts b10 (.cells #[.pointer (some ⟨b7, 0, none⟩)] 25 (0, 0)), pts b7 (.cells #[.slice A93 r81.2.1.length c94, .slice A95 r81.2.2.1.length c96, .slice A97 r81.2.2.2.length c98] 52 (0, 0)), orw 22 (Esl 5 (.int .u8)) 1 A93 c94 r81.2.1, osl 3 (r0 (.int .i64)) 1 A95 c96 r81.2.2.1, osl 3 (r0 (.int .i64)) 1 A97 c98 r81.2.2.2] := hS.sel [3, 0, 1, 2, 4, 5, 6, 7, 8, 9] (by kernel_rfl)
                refine WR.st (St.storeObj (t := 25) (k := 0) (cur' := #[.pointer none]) (.tmp 2) (.const (.pointer none)) (by kernel_rfl) (by kernel_rfl) (by kernel_rfl) hS (by kernel_rfl) (by kernel_rfl) (by kernel_rfl) rfl rfl (fun w152 hS => ?_))
                refine WR.runk [] [1] [2, 3] (L' := [(2, .pointer (some ⟨b1, 0, none⟩)), (3, .pointer (some ⟨b4, 0, none⟩))]) (w' := w152) (by kernel_rfl) ?_
                have hS : Sat w152 (rf w0) [pts b4 (.cells #[.int .i64 0] 26 (0, 0)), pts b1 (.cells #[.pointer none] 25 (0, 0)), osl 5 (r0 (.int .u8)) 1 A137 c138 r128.1, mks D_q125, orw 22 (Esl 5 (.int .u8)) 1 A9_q125 c9_q125 o123, pts b10 (.cells #[.pointer (some ⟨b7, 0, none⟩)] 25 (0, 0)), pts b7 (.cells #[.slice A93 r81.2.1.length c94, .slice A95 r81.2.2.1.length c96, .slice A97 r81.2.2.2.length c98] 52 (0, 0)), orw 22 (Esl 5 (.int .u8)) 1 A93 c94 r81.2.1, osl 3 (r0 (.int .i64)) 1 A95 c96 r81.2.2.1, osl 3 (r0 (.int .i64)) 1 A97 c98 r81.2.2.2] := hS.sel [4, 0, 1, 2, 3, 5, 6, 7, 8, 9] (by kernel_rfl)
                refine WR.st (St.storeObj (t := 26) (k := 0) (cur' := #[.int .i64 10]) (.tmp 3) (.const (.int .i64 10)) (by kernel_rfl) (by kernel_rfl) (by kernel_rfl) hS (by kernel_rfl) (by kernel_rfl) (by kernel_rfl) rfl rfl (fun w153 hS => ?_))
                refine WR.runk [] [] [2, 3] (L' := [(2, .pointer (some ⟨b1, 0, none⟩)), (3, .pointer (some ⟨b4, 0, none⟩))]) (w' := w153) (by kernel_rfl) ?_
                refine WR.nil ?_
                refine At.go ?_
                refine WC.ret (by kernel_rfl) ?_
                refine At.thenRet ?_
                obtain rfl := Option.some.inj H
                have hS := optP.nil (O := O52) hS
                have hS : Sat w153 (rf w0) [mks D_q125, pts b1 (.cells #[.pointer none] 25 (0, 0)), pts b4 (.cells #[.int .i64 10] 26 (0, 0)), optP O52 (.pointer none) none] := hS.sel [4, 2, 1, 0] (by kernel_rfl)
                exact At.bodyM hS (fun w hS => ⟨_, fun T hT => results_cells2 (a := 2) (t := 25) (b := 3) (u := 26) hT (by kernel_rfl) (by kernel_rfl) (by kernel_rfl) (by kernel_rfl) (by kernel_rfl) (Sat.cellAt 0 0 hS rfl (by kernel_rfl)) (Sat.cellAt 1 0 hS rfl (by kernel_rfl)), ⟨_, rfl, _, rfl, (hS.sel [2] (by kernel_rfl))⟩⟩)
              · replace H := ite_f H hb151
                refine WC.skip (by kernel_rfl) ?_
                refine At.go ?_
                refine WC.seq (by kernel_rfl) ?_
                refine WC.reg [0, 1, 2] (by kernel_rfl) (by kernel_rfl) ?_
                refine WR.runk [] [0, 1, 2] [2, 3, 4] (L' := [(2, .pointer (some ⟨b1, 0, none⟩)), (3, .pointer (some ⟨b4, 0, none⟩)), (4, .pointer (some ⟨b10, 0, none⟩))]) (w' := w149) (by kernel_rfl) ?_
                refine WR.st (St.ofR (RSt.loadObj (t := 25) (k := 0) (v := .pointer (some ⟨b7, 0, none⟩)) (.tmp 4) (by kernel_rfl) (by kernel_rfl) (by kernel_rfl) 5 hS rfl (by kernel_rfl) rfl ?_))
                refine WR.runk [] [1, 2] [2, 3, 91] (L' := [(2, .pointer (some ⟨b1, 0, none⟩)), (3, .pointer (some ⟨b4, 0, none⟩)), (91, .pointer (some ⟨b7, 0, none⟩))]) (w' := w149) (by kernel_rfl) ?_
                have hS : Sat w149 (rf w0) [pts b1 (.cells #[.pointer none] 25 (0, 0)), osl 5 (r0 (.int .u8)) 1 A137 c138 r128.1, mks D_q125, orw 22 (Esl 5 (.int .u8)) 1 A9_q125 c9_q125 o123, pts b4 (.cells #[.int .i64 0] 26 (0, 0)), pts b10 (.cells #[.pointer (some ⟨b7, 0, none⟩)] 25 (0, 0)), pts b7 (.cells #[.slice A93 r81.2.1.length c94, .slice A95 r81.2.2.1.length c96, .slice A97 r81.2.2.2.length c98] 52 (0, 0)), orw 22 (Esl 5 (.int .u8)) 1 A93 c94 r81.2.1, osl 3 (r0 (.int .i64)) 1 A95 c96 r81.2.2.1, osl 3 (r0 (.int .i64)) 1 A97 c98 r81.2.2.2] := hS.sel [3, 0, 1, 2, 4, 5, 6, 7, 8, 9] (by kernel_rfl)
                refine WR.st (St.storeObj (t := 25) (k := 0) (cur' := #[.pointer (some ⟨b7, 0, none⟩)]) (.tmp 2) (.tmp 91) (by kernel_rfl) (by kernel_rfl) (by kernel_rfl) hS (by kernel_rfl) (by kernel_rfl) (by kernel_rfl) rfl rfl (fun w154 hS => ?_))
                refine WR.runk [] [2] [2, 3] (L' := [(2, .pointer (some ⟨b1, 0, none⟩)), (3, .pointer (some ⟨b4, 0, none⟩))]) (w' := w154) (by kernel_rfl) ?_
                have hS : Sat w154 (rf w0) [pts b4 (.cells #[.int .i64 0] 26 (0, 0)), pts b1 (.cells #[.pointer (some ⟨b7, 0, none⟩)] 25 (0, 0)), osl 5 (r0 (.int .u8)) 1 A137 c138 r128.1, mks D_q125, orw 22 (Esl 5 (.int .u8)) 1 A9_q125 c9_q125 o123, pts b10 (.cells #[.pointer (some ⟨b7, 0, none⟩)] 25 (0, 0)), pts b7 (.cells #[.slice A93 r81.2.1.length c94, .slice A95 r81.2.2.1.length c96, .slice A97 r81.2.2.2.length c98] 52 (0, 0)), orw 22 (Esl 5 (.int .u8)) 1 A93 c94 r81.2.1, osl 3 (r0 (.int .i64)) 1 A95 c96 r81.2.2.1, osl 3 (r0 (.int .i64)) 1 A97 c98 r81.2.2.2] := hS.sel [4, 0, 1, 2, 3, 5, 6, 7, 8, 9] (by kernel_rfl)
                refine WR.st (St.storeObj (t := 26) (k := 0) (cur' := #[.int .i64 0]) (.tmp 3) (.const (.int .i64 0)) (by kernel_rfl) (by kernel_rfl) (by kernel_rfl) hS (by kernel_rfl) (by kernel_rfl) (by kernel_rfl) rfl rfl (fun w155 hS => ?_))
                refine WR.runk [] [] [2, 3] (L' := [(2, .pointer (some ⟨b1, 0, none⟩)), (3, .pointer (some ⟨b4, 0, none⟩))]) (w' := w155) (by kernel_rfl) ?_
                refine WR.nil ?_
                refine At.go ?_
                refine WC.ret (by kernel_rfl) ?_
                obtain rfl := Option.some.inj H
                have hS : Sat w155 (rf w0) [pts b7 (.cells #[.slice A93 r81.2.1.length c94, .slice A95 r81.2.2.1.length c96, .slice A97 r81.2.2.2.length c98] 52 (0, 0)), orw 22 (Esl 5 (.int .u8)) 1 A93 c94 r81.2.1, osl 3 (r0 (.int .i64)) 1 A95 c96 r81.2.2.1, osl 3 (r0 (.int .i64)) 1 A97 c98 r81.2.2.2, pts b4 (.cells #[.int .i64 0] 26 (0, 0)), pts b1 (.cells #[.pointer (some ⟨b7, 0, none⟩)] 25 (0, 0)), osl 5 (r0 (.int .u8)) 1 A137 c138 r128.1, mks D_q125, orw 22 (Esl 5 (.int .u8)) 1 A9_q125 c9_q125 o123, pts b10 (.cells #[.pointer (some ⟨b7, 0, none⟩)] 25 (0, 0))] := hS.sel [6, 7, 8, 9, 0, 1, 2, 3, 4, 5] (by kernel_rfl)
                have hS : Sat w155 (rf w0) [O52 b7 r81.2, pts b4 (.cells #[.int .i64 0] 26 (0, 0)), pts b1 (.cells #[.pointer (some ⟨b7, 0, none⟩)] 25 (0, 0)), osl 5 (r0 (.int .u8)) 1 A137 c138 r128.1, mks D_q125, orw 22 (Esl 5 (.int .u8)) 1 A9_q125 c9_q125 o123, pts b10 (.cells #[.pointer (some ⟨b7, 0, none⟩)] 25 (0, 0))] := O52.close r81.2 A93 c94 A95 c96 A97 c98 hS
                have hS : Sat w155 (rf w0) [optP O52 (.pointer (some ⟨b7, 0, none⟩)) (some r81.2), pts b4 (.cells #[.int .i64 0] 26 (0, 0)), pts b1 (.cells #[.pointer (some ⟨b7, 0, none⟩)] 25 (0, 0)), osl 5 (r0 (.int .u8)) 1 A137 c138 r128.1, mks D_q125, orw 22 (Esl 5 (.int .u8)) 1 A9_q125 c9_q125 o123, pts b10 (.cells #[.pointer (some ⟨b7, 0, none⟩)] 25 (0, 0))] := optP.mk hS
                have hS : Sat w155 (rf w0) [mks D_q125, pts b1 (.cells #[.pointer (some ⟨b7, 0, none⟩)] 25 (0, 0)), pts b4 (.cells #[.int .i64 0] 26 (0, 0)), optP O52 (.pointer (some ⟨b7, 0, none⟩)) (some r81.2)] := hS.sel [4, 2, 1, 0] (by kernel_rfl)
                exact At.bodyM hS (fun w hS => ⟨_, fun T hT => results_cells2 (a := 2) (t := 25) (b := 3) (u := 26) hT (by kernel_rfl) (by kernel_rfl) (by kernel_rfl) (by kernel_rfl) (by kernel_rfl) (Sat.cellAt 0 0 hS rfl (by kernel_rfl)) (Sat.cellAt 1 0 hS rfl (by kernel_rfl)), ⟨_, rfl, _, rfl, (hS.sel [2] (by kernel_rfl))⟩⟩)
        · subst ho157
          dsimp only at H
          refine At.blockRet ?_
          refine At.thenRet ?_
          obtain rfl := Option.some.inj H
          have hS := optP.nil (O := O52) hS
          have hS : Sat w156 (rf w0) [mks D73, pts b1 (.cells #[.pointer none] 25 (0, 0)), pts b4 (.cells #[.int .i64 o77.2] 26 (0, 0)), optP O52 (.pointer none) none] := hS.sel [1, 3, 4, 0] (by kernel_rfl)
          exact At.bodyM hS (fun w hS => ⟨_, fun T hT => results_cells2 (a := 2) (t := 25) (b := 3) (u := 26) hT (by kernel_rfl) (by kernel_rfl) (by kernel_rfl) (by kernel_rfl) (by kernel_rfl) (Sat.cellAt 0 0 hS rfl (by kernel_rfl)) (Sat.cellAt 1 0 hS rfl (by kernel_rfl)), ⟨_, rfl, _, rfl, (hS.sel [2] (by kernel_rfl))⟩⟩)
/-! ### 17 (*colophon/image.Image).First -/
def image_Image_First.f (p0 : Option ((List (List Int)) × (List Int) × (List Int))) (a1 : Int) : Option Int := ((image_Image_has.f p0 a1).bind fun r1 => (if (!r1) then some 0 else (p0.bind fun y13 => ((at? y13.2.2 a1).bind fun v28 => some v28))))
def image_Image_First.post (w : World) (r : Int) (v : Value) (w' : World) : Prop := v = (.int .i64 r : Value) ∧ Sat w' (rf w) []
theorem image_Image_First.calls (w0 : World) (v0 : Value) (p0 : Option ((List (List Int)) × (List Int) × (List Int))) (R0 : rd (hp w0) (.ptr 52 (.pair (.slice 22 (.slice 5 (.int .u8))) (.pair (.slice 3 (.int .i64)) (.slice 3 (.int .i64))))) [v0] p0) (a1 : Int) (r : Int) (H : image_Image_First.f p0 a1 = some r) :
    Calls Try.prog 17 #[v0, .int .i64 a1] w0 (fun e w' => ∃ v, e = .returned v ∧ image_Image_First.post w0 r v w') := by
  have hS : Sat w0 (rf w0) [] := Sat.start w0
  unfold image_Image_First.f at H
  refine calls_of_WC (vs := [v0, .int .i64 a1]) Try.func17 (c := C17) (n := 16) (by kernel_rfl) (by kernel_rfl) (by kernel_rfl) ?_
  refine WC.seq (by kernel_rfl) ?_
  refine WC.reg [0] (by kernel_rfl) (by kernel_rfl) ?_
  refine WR.runk [0] [] [0, 1] (L' := [(0, v0), (1, .int .i64 a1)]) (w' := w0) (by kernel_rfl) ?_
  refine WR.nil ?_
  refine At.go ?_
  refine WC.seq (by kernel_rfl) ?_
  refine WC.seq (by kernel_rfl) ?_
  refine WC.reg [0, 1, 2, 3] (by kernel_rfl) (by kernel_rfl) ?_
  refine WR.runk [0, 1] [2, 3] [0, 1, 5, 6] (L' := [(0, v0), (1, .int .i64 a1), (5, v0), (6, .int .i64 a1)]) (w' := w0) (by kernel_rfl) ?_
  obtain ⟨r1, e2, H⟩ := bind_ex H
  refine WR.st (St.call (by kernel_rfl) (f := 32) (args := #[v0, .int .i64 a1]) (by kernel_rfl) (image_Image_has.calls w0 (v0) p0 (rd.mono hS.sub0 _ _ _ R0) a1 r1 e2) ?_)
  rintro _ w8 ⟨rfl, hS9⟩
  have hS : Sat w8 (rf w0) [] := hS.ext hS9
  refine WR.runk [3] [] [0, 1, 8] (L' := [(0, v0), (1, .int .i64 a1), (8, .bool (!r1))]) (w' := w8) (by kernel_rfl) ?_
  refine WR.nil ?_
  refine At.go ?_
  refine WC.cond (by kernel_rfl) (!r1) (by kernel_rfl) (by kernel_rfl) (fun hb10 => ?_) (fun hb10 => ?_)
  · replace H := ite_t H hb10
    refine WC.seq (by kernel_rfl) ?_
    refine WC.reg [0] (by kernel_rfl) (by kernel_rfl) ?_
    refine WR.runk [0] [] [4] (L' := [(4, .int .i64 0)]) (w' := w8) (by kernel_rfl) ?_
    refine WR.nil ?_
    refine At.go ?_
    refine WC.ret (by kernel_rfl) ?_
    refine At.thenRet ?_
    obtain rfl := Option.some.inj H
    have hS : Sat w8 (rf w0) [] := hS.sel [] (by kernel_rfl)
    exact At.body [.int .i64 0] (by kernel_rfl) ⟨_, rfl, rfl, hS⟩
  · replace H := ite_f H hb10
    refine WC.skip (by kernel_rfl) ?_
    refine At.go ?_
    refine WC.seq (by kernel_rfl) ?_
    refine WC.reg [0, 1, 2, 3, 4, 5, 6, 7] (by kernel_rfl) (by kernel_rfl) ?_
    refine WR.runk [0] [1, 2, 3, 4, 5, 6, 7] [1, 9] (L' := [(1, .int .i64 a1), (9, v0)]) (w' := w8) (by kernel_rfl) ?_
    obtain ⟨y13, hr11, H⟩ := bind_ex H
    obtain ⟨b14, fr15, A19, c20, A22, c23, A25, c26, hv16, hb17, R21, R24, R27⟩ := P52.open R0 hr11
    have R18 := R0
    rw [hv16, hr11] at R18
    try subst hv16
    replace R21 : rdS (rd (hp w0) (.slice 5 (.int .u8))) 1 (hp w0) A19 c20 y13.1 := R21
    replace R24 : rdS (r0 (.int .i64)) 1 (hp w0) A22 c23 y13.2.1 := R24
    replace R27 : rdS (r0 (.int .i64)) 1 (hp w0) A25 c26 y13.2.2 := R27
    refine WR.runk [1, 2] [3, 4, 5, 6, 7] [1, 11] (L' := [(1, .int .i64 a1), (11, .pointer (some ⟨b14, 2, none⟩))]) (w' := w8) (by kernel_rfl) ?_
    refine WR.st (St.ofR (RSt.loadRo (t := 50) (k := 2) (v := .slice A25 y13.2.2.length c26) (.tmp 11) (by kernel_rfl) (by kernel_rfl) (by kernel_rfl) hS.sub0 hb17 (by kernel_rfl) rfl ?_))
    refine WR.runk [4] [5, 6, 7] [12, 13] (L' := [(12, .slice A25 y13.2.2.length c26), (13, .int .i64 a1)]) (w' := w8) (by kernel_rfl) ?_
    obtain ⟨v28, e29, H⟩ := bind_ex H
    refine WR.st (St.ofP (PSt.idx (k := .i64) (.tmp 12) (.tmp 13) (by kernel_rfl) (by kernel_rfl) E50 (by kernel_rfl) (by kernel_rfl) (rdS.up R27 hS.sub0) e29 ?_))
    refine WR.runk [] [6, 7] [14] (L' := [(14, .pointer (some (adr A25 a1.toNat 1)))]) (w' := w8) (by kernel_rfl) ?_
    refine WR.st (St.ofR (RSt.loadInt (t := 3) (.tmp 14) (by kernel_rfl) (by kernel_rfl) (by kernel_rfl) (by kernel_rfl) (rdS.up R27 hS.sub0) e29 ?_))
    refine WR.runk [7] [] [4] (L' := [(4, .int .i64 v28)]) (w' := w8) (by kernel_rfl) ?_
    refine WR.nil ?_
    refine At.go ?_
    refine WC.ret (by kernel_rfl) ?_
    obtain rfl := Option.some.inj H
    have hS : Sat w8 (rf w0) [] := hS.sel [] (by kernel_rfl)
    exact At.body [.int .i64 v28] (by kernel_rfl) ⟨_, rfl, rfl, hS⟩
/-! ### 18 (*colophon/image.Image).Size -/
def image_Image_Size.f (p0 : Option ((List (List Int)) × (List Int) × (List Int))) (a1 : Int) : Option Int := ((image_Image_has.f p0 a1).bind fun r1 => (if (!r1) then some 0 else (p0.bind fun y13 => ((at? y13.2.1 a1).bind fun v28 => some v28))))
def image_Image_Size.post (w : World) (r : Int) (v : Value) (w' : World) : Prop := v = (.int .i64 r : Value) ∧ Sat w' (rf w) []
theorem image_Image_Size.calls (w0 : World) (v0 : Value) (p0 : Option ((List (List Int)) × (List Int) × (List Int))) (R0 : rd (hp w0) (.ptr 52 (.pair (.slice 22 (.slice 5 (.int .u8))) (.pair (.slice 3 (.int .i64)) (.slice 3 (.int .i64))))) [v0] p0) (a1 : Int) (r : Int) (H : image_Image_Size.f p0 a1 = some r) :
    Calls Try.prog 18 #[v0, .int .i64 a1] w0 (fun e w' => ∃ v, e = .returned v ∧ image_Image_Size.post w0 r v w') := by
  have hS : Sat w0 (rf w0) [] := Sat.start w0
  unfold image_Image_Size.f at H
  refine calls_of_WC (vs := [v0, .int .i64 a1]) Try.func18 (c := C18) (n := 16) (by kernel_rfl) (by kernel_rfl) (by kernel_rfl) ?_
  refine WC.seq (by kernel_rfl) ?_
  refine WC.reg [0] (by kernel_rfl) (by kernel_rfl) ?_
  refine WR.runk [0] [] [0, 1] (L' := [(0, v0), (1, .int .i64 a1)]) (w' := w0) (by kernel_rfl) ?_
  refine WR.nil ?_
  refine At.go ?_
  refine WC.seq (by kernel_rfl) ?_
  refine WC.seq (by kernel_rfl) ?_
  refine WC.reg [0, 1, 2, 3] (by kernel_rfl) (by kernel_rfl) ?_
  refine WR.runk [0, 1] [2, 3] [0, 1, 5, 6] (L' := [(0, v0), (1, .int .i64 a1), (5, v0), (6, .int .i64 a1)]) (w' := w0) (by kernel_rfl) ?_
  obtain ⟨r1, e2, H⟩ := bind_ex H
  refine WR.st (St.call (by kernel_rfl) (f := 32) (args := #[v0, .int .i64 a1]) (by kernel_rfl) (image_Image_has.calls w0 (v0) p0 (rd.mono hS.sub0 _ _ _ R0) a1 r1 e2) ?_)
  rintro _ w8 ⟨rfl, hS9⟩
  have hS : Sat w8 (rf w0) [] := hS.ext hS9
  refine WR.runk [3] [] [0, 1, 8] (L' := [(0, v0), (1, .int .i64 a1), (8, .bool (!r1))]) (w' := w8) (by kernel_rfl) ?_
  refine WR.nil ?_
  refine At.go ?_
  refine WC.cond (by kernel_rfl) (!r1) (by kernel_rfl) (by kernel_rfl) (fun hb10 => ?_) (fun hb10 => ?_)
  · replace H := ite_t H hb10
    refine WC.seq (by kernel_rfl) ?_
    refine WC.reg [0] (by kernel_rfl) (by kernel_rfl) ?_
    refine WR.runk [0] [] [4] (L' := [(4, .int .i64 0)]) (w' := w8) (by kernel_rfl) ?_
    refine WR.nil ?_
    refine At.go ?_
    refine WC.ret (by kernel_rfl) ?_
    refine At.thenRet ?_
    obtain rfl := Option.some.inj H
    have hS : Sat w8 (rf w0) [] := hS.sel [] (by kernel_rfl)
    exact At.body [.int .i64 0] (by kernel_rfl) ⟨_, rfl, rfl, hS⟩
  · replace H := ite_f H hb10
    refine WC.skip (by kernel_rfl) ?_
    refine At.go ?_
    refine WC.seq (by kernel_rfl) ?_
    refine WC.reg [0, 1, 2, 3, 4, 5, 6, 7] (by kernel_rfl) (by kernel_rfl) ?_
    refine WR.runk [0] [1, 2, 3, 4, 5, 6, 7] [1, 9] (L' := [(1, .int .i64 a1), (9, v0)]) (w' := w8) (by kernel_rfl) ?_
    obtain ⟨y13, hr11, H⟩ := bind_ex H
    obtain ⟨b14, fr15, A19, c20, A22, c23, A25, c26, hv16, hb17, R21, R24, R27⟩ := P52.open R0 hr11
    have R18 := R0
    rw [hv16, hr11] at R18
    try subst hv16
    replace R21 : rdS (rd (hp w0) (.slice 5 (.int .u8))) 1 (hp w0) A19 c20 y13.1 := R21
    replace R24 : rdS (r0 (.int .i64)) 1 (hp w0) A22 c23 y13.2.1 := R24
    replace R27 : rdS (r0 (.int .i64)) 1 (hp w0) A25 c26 y13.2.2 := R27
    refine WR.runk [1, 2] [3, 4, 5, 6, 7] [1, 11] (L' := [(1, .int .i64 a1), (11, .pointer (some ⟨b14, 1, none⟩))]) (w' := w8) (by kernel_rfl) ?_
    refine WR.st (St.ofR (RSt.loadRo (t := 50) (k := 1) (v := .slice A22 y13.2.1.length c23) (.tmp 11) (by kernel_rfl) (by kernel_rfl) (by kernel_rfl) hS.sub0 hb17 (by kernel_rfl) rfl ?_))
    refine WR.runk [4] [5, 6, 7] [12, 13] (L' := [(12, .slice A22 y13.2.1.length c23), (13, .int .i64 a1)]) (w' := w8) (by kernel_rfl) ?_
    obtain ⟨v28, e29, H⟩ := bind_ex H
    refine WR.st (St.ofP (PSt.idx (k := .i64) (.tmp 12) (.tmp 13) (by kernel_rfl) (by kernel_rfl) E50 (by kernel_rfl) (by kernel_rfl) (rdS.up R24 hS.sub0) e29 ?_))
    refine WR.runk [] [6, 7] [14] (L' := [(14, .pointer (some (adr A22 a1.toNat 1)))]) (w' := w8) (by kernel_rfl) ?_
    refine WR.st (St.ofR (RSt.loadInt (t := 3) (.tmp 14) (by kernel_rfl) (by kernel_rfl) (by kernel_rfl) (by kernel_rfl) (rdS.up R24 hS.sub0) e29 ?_))
    refine WR.runk [7] [] [4] (L' := [(4, .int .i64 v28)]) (w' := w8) (by kernel_rfl) ?_
    refine WR.nil ?_
    refine At.go ?_
    refine WC.ret (by kernel_rfl) ?_
    obtain rfl := Option.some.inj H
    have hS : Sat w8 (rf w0) [] := hS.sel [] (by kernel_rfl)
    exact At.body [.int .i64 v28] (by kernel_rfl) ⟨_, rfl, rfl, hS⟩
/-! ### 19 (*colophon/image.Image).Pages -/
def image_Image_Pages.f (p0 : Option ((List (List Int)) × (List Int) × (List Int))) : Option Int := (match p0 with | none => some 0 | some y3 => some (y3.1.length : Int))
def image_Image_Pages.post (w : World) (r : Int) (v : Value) (w' : World) : Prop := v = (.int .i64 r : Value) ∧ Sat w' (rf w) []
theorem image_Image_Pages.calls (w0 : World) (v0 : Value) (p0 : Option ((List (List Int)) × (List Int) × (List Int))) (R0 : rd (hp w0) (.ptr 52 (.pair (.slice 22 (.slice 5 (.int .u8))) (.pair (.slice 3 (.int .i64)) (.slice 3 (.int .i64))))) [v0] p0) (r : Int) (H : image_Image_Pages.f p0 = some r) :
    Calls Try.prog 19 #[v0] w0 (fun e w' => ∃ v, e = .returned v ∧ image_Image_Pages.post w0 r v w') := by
  have hS : Sat w0 (rf w0) [] := Sat.start w0
  unfold image_Image_Pages.f at H
  refine calls_of_WC (vs := [v0]) Try.func19 (c := C19) (n := 10) (by kernel_rfl) (by kernel_rfl) (by kernel_rfl) ?_
  refine WC.seq (by kernel_rfl) ?_
  refine WC.reg [0] (by kernel_rfl) (by kernel_rfl) ?_
  refine WR.runk [0] [] [0] (L' := [(0, v0)]) (w' := w0) (by kernel_rfl) ?_
  refine WR.nil ?_
  refine At.go ?_
  refine WC.seq (by kernel_rfl) ?_
  refine WC.seq (by kernel_rfl) ?_
  refine WC.reg [0, 1] (by kernel_rfl) (by kernel_rfl) ?_
  refine WR.runk [0] [1] [0, 3] (L' := [(0, v0), (3, v0)]) (w' := w0) (by kernel_rfl) ?_
  rcases opt_cases p0 with hr1 | ⟨y3, hr1⟩
  · rw [hr1] at H
    dsimp only at H
    have hx2 := rd_ptr_none R0 hr1
    try subst hx2
    refine WR.runk [1] [] [0, 4] (L' := [(0, .pointer none), (4, .bool true)]) (w' := w0) (by kernel_rfl) ?_
    refine WR.nil ?_
    refine At.go ?_
    refine WC.condT (by kernel_rfl) (by kernel_rfl) (by kernel_rfl) ?_
    refine WC.seq (by kernel_rfl) ?_
    refine WC.reg [0] (by kernel_rfl) (by kernel_rfl) ?_
    refine WR.runk [0] [] [2] (L' := [(2, .int .i64 0)]) (w' := w0) (by kernel_rfl) ?_
    refine WR.nil ?_
    refine At.go ?_
    refine WC.ret (by kernel_rfl) ?_
    refine At.thenRet ?_
    obtain rfl := Option.some.inj H
    have hS : Sat w0 (rf w0) [] := hS.sel [] (by kernel_rfl)
    exact At.body [.int .i64 0] (by kernel_rfl) ⟨_, rfl, rfl, hS⟩
  · rw [hr1] at H
    dsimp only at H
    obtain ⟨b4, fr5, A9, c10, A12, c13, A15, c16, hv6, hb7, R11, R14, R17⟩ := P52.open R0 hr1
    have R8 := R0
    rw [hv6, hr1] at R8
    try subst hv6
    replace R11 : rdS (rd (hp w0) (.slice 5 (.int .u8))) 1 (hp w0) A9 c10 y3.1 := R11
    replace R14 : rdS (r0 (.int .i64)) 1 (hp w0) A12 c13 y3.2.1 := R14
    replace R17 : rdS (r0 (.int .i64)) 1 (hp w0) A15 c16 y3.2.2 := R17
    refine WR.runk [1] [] [0, 4] (L' := [(0, .pointer (some ⟨b4, 0, none⟩)), (4, .bool false)]) (w' := w0) (by kernel_rfl) ?_
    refine WR.nil ?_
    refine At.go ?_
    refine WC.condF (by kernel_rfl) (by kernel_rfl) (by kernel_rfl) ?_
    refine WC.skip (by kernel_rfl) ?_
    refine At.go ?_
    refine WC.seq (by kernel_rfl) ?_
    refine WC.reg [0, 1, 2, 3, 4, 5] (by kernel_rfl) (by kernel_rfl) ?_
    refine WR.runk [0, 1, 2] [3, 4, 5] [7] (L' := [(7, .pointer (some ⟨b4, 0, none⟩))]) (w' := w0) (by kernel_rfl) ?_
    refine WR.st (St.ofR (RSt.loadRo (t := 29) (k := 0) (v := .slice A9 y3.1.length c10) (.tmp 7) (by kernel_rfl) (by kernel_rfl) (by kernel_rfl) hS.sub0 hb7 (by kernel_rfl) rfl ?_))
    refine WR.runk [4, 5] [] [2] (L' := [(2, .int .i64 (y3.1.length : Int))]) (w' := w0) (by kernel_rfl) ?_
    refine WR.nil ?_
    refine At.go ?_
    refine WC.ret (by kernel_rfl) ?_
    obtain rfl := Option.some.inj H
    have hS : Sat w0 (rf w0) [] := hS.sel [] (by kernel_rfl)
    exact At.body [.int .i64 (y3.1.length : Int)] (by kernel_rfl) ⟨_, rfl, rfl, hS⟩
/-! ### 8 colophon/colophonlaw06.first -/
def colophonlaw06_first.f : Option Bool := ((make? 140737488355328 0 300).bind fun y4 => ((image_Build.f ([([97, 98] : List Int), ([] : List Int), y4] : List (List Int))).bind fun r11 => ((image_Open.f r11.1).bind fun r22 => (if (r11.2 != 0) then some false else (if (r22.2 != 0) then some false else (match r22.1 with | none => some false | some y34 => (if ((r11.1.length : Int) != 1056) then some false else ((sub? r11.1 1 (r11.1.length : Int)).bind fun y40 => ((image_Open.f y40).bind fun r45 => ((image_Image_Sections.f (some y34)).bind fun r55 => (if (r55 == 3) then ((image_Image_First.f (some y34) 2).bind fun r65 => (if (r65 == 2) then ((image_Image_Size.f (some y34) 2).bind fun r75 => (if (r75 == 300) then ((image_Image_Pages.f (some y34)).bind fun r85 => (if (r85 == 4) then ((image_Image_Section.f (some y34) 0).bind fun r95 => (if ((bs r95).toList == (⟨#[97, 98]⟩ : ByteArray).toList) then (match r45.1 with | none => some (r45.2 == 10) | some y107 => some false) else some false)) else some false)) else some false)) else some false)) else some false)))))))))))
def colophonlaw06_first.post (w : World) (r : Bool) (v : Value) (w' : World) : Prop := v = (.bool r : Value) ∧ Sat w' (rf w) []
theorem colophonlaw06_first.calls (w0 : World) (r : Bool) (H : colophonlaw06_first.f = some r) :
    Calls Try.prog 8 #[] w0 (fun e w' => ∃ v, e = .returned v ∧ colophonlaw06_first.post w0 r v w') := by
  have hS : Sat w0 (rf w0) [] := Sat.start w0
  unfold colophonlaw06_first.f at H
  refine calls_of_WC (vs := []) Try.func8 (c := C8) (n := 73) (by kernel_rfl) (by kernel_rfl) (by kernel_rfl) ?_
  refine WC.seq (by kernel_rfl) ?_
  refine WC.reg [0] (by kernel_rfl) (by kernel_rfl) ?_
  refine WR.runk [0] [] [] (L' := []) (w' := w0) (by kernel_rfl) ?_
  refine WR.nil ?_
  refine At.go ?_
  refine WC.seq (by kernel_rfl) ?_
  refine WC.reg [0, 1, 2, 3, 4, 5, 6, 7, 8, 9] (by kernel_rfl) (by kernel_rfl) ?_
  refine WR.st (St.box hS (by kernel_rfl) (.cells #[.int .u8 97, .int .u8 98] 5) (fun b1 => .slice (some ⟨b1, 0, none⟩) 2 2) (fun _ => by kernel_rfl) (fun b1 w2 hS => ?_))
  refine WR.runk [] [1, 2, 3, 4, 5, 6, 7, 8, 9] [8] (L' := [(8, .slice (some ⟨b1, 0, none⟩) 2 2)]) (w' := w2) (by kernel_rfl) ?_
  refine WR.st (St.mark (t := 22) (e := 5) (m := 2) (cp := 2) (.tmp 8) (by kernel_rfl) (by kernel_rfl) (by kernel_rfl) (by kernel_rfl) hS (by kernel_rfl) (fun w3 hS => ?_))
  refine WR.runk [] [2, 3, 4, 5, 6, 7, 8, 9] [9] (L' := [(9, .slice (some ⟨b1, 0, none⟩) 2 2)]) (w' := w3) (by kernel_rfl) ?_
  obtain ⟨y4, e5, H⟩ := bind_ex H
  refine WR.st (St.make' (t := 22) (e := 5) (sz := 1) (bytes := 1) (k1 := .i64) (k2 := .i64) (R := (r0 (.int .u8))) (.const (.int .i64 300)) (.const (.int .i64 300)) (by kernel_rfl) (by kernel_rfl) (.int .u8 0) (by kernel_rfl) (by kernel_rfl) rfl (by kernel_rfl) hS (by kernel_rfl) (by kernel_rfl) 140737488355328 (by kernel_rfl) (by kernel_rfl) e5 (fun A6 c7 w8 hS => ?_))
  refine WR.runk [] [3, 4, 5, 6, 7, 8, 9] [9, 10] (L' := [(9, .slice (some ⟨b1, 0, none⟩) 2 2), (10, .slice A6 y4.length c7)]) (w' := w8) (by kernel_rfl) ?_
  refine WR.st (St.box hS (by kernel_rfl) (.cells #[.slice (some ⟨b1, 0, none⟩) 2 2, .slice none 0 0, .slice A6 y4.length c7] 22) (fun b9 => .slice (some ⟨b9, 0, none⟩) 3 3) (fun _ => by kernel_rfl) (fun b9 w10 hS => ?_))
  refine WR.runk [] [4, 5, 6, 7, 8, 9] [11] (L' := [(11, .slice (some ⟨b9, 0, none⟩) 3 3)]) (w' := w10) (by kernel_rfl) ?_
  obtain ⟨r11, e12, H⟩ := bind_ex H
  refine WR.st (St.call (by kernel_rfl) (f := 15) (args := #[.slice (some ⟨b9, 0, none⟩) 3 3]) (by kernel_rfl) (image_Build.calls w10 (some ⟨b9, 0, none⟩) 3 ([([97, 98] : List Int), ([] : List Int), y4] : List (List Int)) (Sat.ptsAt 0 (rd (hp w10) (.slice 5 (.int .u8))) 1 ([([97, 98] : List Int), ([] : List Int), y4] : List (List Int)) hS rfl rfl (rdL.cons1 ⟨_, _, rfl, (rdS.r0up (Sat.ptsAt 2 (r0 (.int .u8)) 1 ([97, 98] : List Int) hS rfl rfl (rdL.cons1 rfl (rdL.cons1 rfl (rdL.nil _ _)))))⟩ (rdL.cons1 ⟨_, _, rfl, (rdS.r0up (rdS.nil _ _ _))⟩ (rdL.cons1 ⟨_, _, rfl, (rdS.r0up (Sat.rdAt 1 hS rfl))⟩ (rdL.nil _ _))))) r11 e12) ?_)
  rintro _ w18 ⟨A20, c21, rfl, hS19⟩
  have hS : Sat w18 (rf w0) [osl 5 (r0 (.int .u8)) 1 A20 c21 r11.1, pts b9 (.cells #[.slice (some ⟨b1, 0, none⟩) 2 2, .slice none 0 0, .slice A6 y4.length c7] 22 (0, 0)), osl 5 (r0 (.int .u8)) 1 A6 c7 y4, pts b1 (.cells #[.int .u8 97, .int .u8 98] 5 (2, 3))] := hS.ext hS19
  refine WR.runk [5, 6, 7, 8, 9] [] [1, 2] (L' := [(1, .slice A20 r11.1.length c21), (2, .int .i64 r11.2)]) (w' := w18) (by kernel_rfl) ?_
  refine WR.nil ?_
  refine At.go ?_
  refine WC.seq (by kernel_rfl) ?_
  refine WC.reg [0, 1, 2, 3, 4, 5, 6] (by kernel_rfl) (by kernel_rfl) ?_
  refine WR.runk [0] [1, 2, 3, 4, 5, 6] [1, 2, 16] (L' := [(1, .slice A20 r11.1.length c21), (2, .int .i64 r11.2), (16, .slice A20 r11.1.length c21)]) (w' := w18) (by kernel_rfl) ?_
  obtain ⟨r22, e23, H⟩ := bind_ex H
  refine WR.st (St.call (by kernel_rfl) (f := 10) (args := #[.slice A20 r11.1.length c21]) (by kernel_rfl) (image_Open.calls w18 A20 c21 r11.1 (Sat.rdAt 0 hS rfl) r22 e23) ?_)
  rintro _ w29 ⟨pv31, rfl, hS30⟩
  have hS : Sat w29 (rf w0) [optP O52 pv31 r22.1, osl 5 (r0 (.int .u8)) 1 A20 c21 r11.1, pts b9 (.cells #[.slice (some ⟨b1, 0, none⟩) 2 2, .slice none 0 0, .slice A6 y4.length c7] 22 (0, 0)), osl 5 (r0 (.int .u8)) 1 A6 c7 y4, pts b1 (.cells #[.int .u8 97, .int .u8 98] 5 (2, 3))] := hS.ext hS30
  refine WR.runk [2, 3, 4, 5, 6] [] [1, 2, 3, 4] (L' := [(1, .slice A20 r11.1.length c21), (2, .int .i64 r11.2), (3, pv31), (4, .int .i64 r22.2)]) (w' := w29) (by kernel_rfl) ?_
  refine WR.nil ?_
  refine At.go ?_
  refine WC.seq (by kernel_rfl) ?_
  refine WC.seq (by kernel_rfl) ?_
  refine WC.reg [0, 1, 2, 3, 4, 5, 6, 7, 8, 9, 10, 11, 12, 13, 14] (by kernel_rfl) (by kernel_rfl) ?_
  refine WR.runk [0, 1, 2] [3, 4, 5, 6, 7, 8, 9, 10, 11, 12, 13, 14] [1, 3, 4, 22] (L' := [(1, .slice A20 r11.1.length c21), (3, pv31), (4, .int .i64 r22.2), (22, .bool (r11.2 != 0))]) (w' := w29) (by kernel_rfl) ?_
  refine WR.split 22 (b := (r11.2 != 0)) (by kernel_rfl) (fun hb32 => ?_) (fun hb32 => ?_)
  · replace H := ite_t H hb32
    refine WR.runk [3, 4, 5, 6, 7, 8, 9, 10, 11, 12, 13, 14] [] [1, 3, 34] (L' := [(1, .slice A20 r11.1.length c21), (3, pv31), (34, .bool true)]) (w' := w29) (by kernel_rfl) ?_
    refine WR.nil ?_
    refine At.go ?_
    refine WC.condT (by kernel_rfl) (by kernel_rfl) (by kernel_rfl) ?_
    refine WC.seq (by kernel_rfl) ?_
    refine WC.reg [0] (by kernel_rfl) (by kernel_rfl) ?_
    refine WR.runk [0] [] [0] (L' := [(0, .bool false)]) (w' := w29) (by kernel_rfl) ?_
    refine WR.nil ?_
    refine At.go ?_
    refine WC.ret (by kernel_rfl) ?_
    refine At.thenRet ?_
    obtain rfl := Option.some.inj H
    have hS : Sat w29 (rf w0) [] := hS.sel [] (by kernel_rfl)
    exact At.body [.bool false] (by kernel_rfl) ⟨_, rfl, rfl, hS⟩
  · replace H := ite_f H hb32
    refine WR.runk [3, 4, 5, 6] [7, 8, 9, 10, 11, 12, 13, 14] [1, 3, 26] (L' := [(1, .slice A20 r11.1.length c21), (3, pv31), (26, .bool (r22.2 != 0))]) (w' := w29) (by kernel_rfl) ?_
    refine WR.split 26 (b := (r22.2 != 0)) (by kernel_rfl) (fun hb33 => ?_) (fun hb33 => ?_)
    · replace H := ite_t H hb33
      refine WR.runk [7, 8, 9, 10, 11, 12, 13, 14] [] [1, 3, 34] (L' := [(1, .slice A20 r11.1.length c21), (3, pv31), (34, .bool true)]) (w' := w29) (by kernel_rfl) ?_
      refine WR.nil ?_
      refine At.go ?_
      refine WC.condT (by kernel_rfl) (by kernel_rfl) (by kernel_rfl) ?_
      refine WC.seq (by kernel_rfl) ?_
      refine WC.reg [0] (by kernel_rfl) (by kernel_rfl) ?_
      refine WR.runk [0] [] [0] (L' := [(0, .bool false)]) (w' := w29) (by kernel_rfl) ?_
      refine WR.nil ?_
      refine At.go ?_
      refine WC.ret (by kernel_rfl) ?_
      refine At.thenRet ?_
      obtain rfl := Option.some.inj H
      have hS : Sat w29 (rf w0) [] := hS.sel [] (by kernel_rfl)
      exact At.body [.bool false] (by kernel_rfl) ⟨_, rfl, rfl, hS⟩
    · replace H := ite_f H hb33
      refine WR.runk [7] [8, 9, 10, 11, 12, 13, 14] [1, 3, 26, 27] (L' := [(1, .slice A20 r11.1.length c21), (3, pv31), (26, .bool false), (27, pv31)]) (w' := w29) (by kernel_rfl) ?_
      rcases hr35 : r22.1 with _ | y34
      · rw [hr35] at H
        dsimp only at H
        have hv36 := optP.none hS hr35
        subst hv36
        have hS : Sat w29 (rf w0) [osl 5 (r0 (.int .u8)) 1 A20 c21 r11.1, pts b9 (.cells #[.slice (some ⟨b1, 0, none⟩) 2 2, .slice none 0 0, .slice A6 y4.length c7] 22 (0, 0)), osl 5 (r0 (.int .u8)) 1 A6 c7 y4, pts b1 (.cells #[.int .u8 97, .int .u8 98] 5 (2, 3))] := hS.sel [1, 2, 3, 4] (by kernel_rfl)
        refine WR.runk [8, 9, 10, 11, 12, 13, 14] [] [1, 3, 34] (L' := [(1, .slice A20 r11.1.length c21), (3, .pointer none), (34, .bool true)]) (w' := w29) (by kernel_rfl) ?_
        refine WR.nil ?_
        refine At.go ?_
        refine WC.condT (by kernel_rfl) (by kernel_rfl) (by kernel_rfl) ?_
        refine WC.seq (by kernel_rfl) ?_
        refine WC.reg [0] (by kernel_rfl) (by kernel_rfl) ?_
        refine WR.runk [0] [] [0] (L' := [(0, .bool false)]) (w' := w29) (by kernel_rfl) ?_
        refine WR.nil ?_
        refine At.go ?_
        refine WC.ret (by kernel_rfl) ?_
        refine At.thenRet ?_
        obtain rfl := Option.some.inj H
        have hS : Sat w29 (rf w0) [] := hS.sel [] (by kernel_rfl)
        exact At.body [.bool false] (by kernel_rfl) ⟨_, rfl, rfl, hS⟩
      · rw [hr35] at H
        dsimp only at H
        obtain ⟨b37, hv36, hN113⟩ := optP.some hS hr35
        subst hv36
        have hS : Sat w29 (rf w0) [O52 b37 y34, osl 5 (r0 (.int .u8)) 1 A20 c21 r11.1, pts b9 (.cells #[.slice (some ⟨b1, 0, none⟩) 2 2, .slice none 0 0, .slice A6 y4.length c7] 22 (0, 0)), osl 5 (r0 (.int .u8)) 1 A6 c7 y4, pts b1 (.cells #[.int .u8 97, .int .u8 98] 5 (2, 3))] := hN113
        refine WR.runk [8, 9, 10, 11, 12, 13, 14] [] [1, 3, 34] (L' := [(1, .slice A20 r11.1.length c21), (3, .pointer (some ⟨b37, 0, none⟩)), (34, .bool ((r11.1.length : Int) != 1056))]) (w' := w29) (by kernel_rfl) ?_
        refine WR.nil ?_
        refine At.go ?_
        refine WC.cond (by kernel_rfl) ((r11.1.length : Int) != 1056) (by kernel_rfl) (by kernel_rfl) (fun hb39 => ?_) (fun hb39 => ?_)
        · replace H := ite_t H hb39
          refine WC.seq (by kernel_rfl) ?_
          refine WC.reg [0] (by kernel_rfl) (by kernel_rfl) ?_
          refine WR.runk [0] [] [0] (L' := [(0, .bool false)]) (w' := w29) (by kernel_rfl) ?_
          refine WR.nil ?_
          refine At.go ?_
          refine WC.ret (by kernel_rfl) ?_
          refine At.thenRet ?_
          obtain rfl := Option.some.inj H
          have hS : Sat w29 (rf w0) [] := hS.sel [] (by kernel_rfl)
          exact At.body [.bool false] (by kernel_rfl) ⟨_, rfl, rfl, hS⟩
        · replace H := ite_f H hb39
          refine WC.skip (by kernel_rfl) ?_
          refine At.go ?_
          refine WC.seq (by kernel_rfl) ?_
          refine WC.reg [0, 1, 2, 3, 4, 5, 6, 7] (by kernel_rfl) (by kernel_rfl) ?_
          refine WR.runk [0] [1, 2, 3, 4, 5, 6, 7] [3, 36] (L' := [(3, .pointer (some ⟨b37, 0, none⟩)), (36, .slice A20 r11.1.length c21)]) (w' := w29) (by kernel_rfl) ?_
          obtain ⟨y40, e41, H⟩ := bind_ex H
          refine WR.st (St.ofP (PSt.sub (A := A20) (c := c21) (.tmp 36) (some (.const (.int .i64 1))) none none (by kernel_rfl) (by kernel_rfl) E22 (by kernel_rfl) (Sat.rdAt 1 hS rfl).1 e41 (Exists.intro IntKind.i64 (by kernel_rfl)) ⟨rfl, rfl⟩ trivial (fun A42 c43 T44 => ?_)))
          refine WR.runk [] [2, 3, 4, 5, 6, 7] [3, 37] (L' := [(3, .pointer (some ⟨b37, 0, none⟩)), (37, .slice A42 y40.length c43)]) (w' := w29) (by kernel_rfl) ?_
          obtain ⟨r45, e46, H⟩ := bind_ex H
          refine WR.st (St.call (by kernel_rfl) (f := 10) (args := #[.slice A42 y40.length c43]) (by kernel_rfl) (image_Open.calls w29 A42 c43 y40 (T44.rd _ _ (Sat.rdAt 1 hS rfl)) r45 e46) ?_)
          rintro _ w52 ⟨pv54, rfl, hS53⟩
          have hS : Sat w52 (rf w0) [optP O52 pv54 r45.1, O52 b37 y34, osl 5 (r0 (.int .u8)) 1 A20 c21 r11.1, pts b9 (.cells #[.slice (some ⟨b1, 0, none⟩) 2 2, .slice none 0 0, .slice A6 y4.length c7] 22 (0, 0)), osl 5 (r0 (.int .u8)) 1 A6 c7 y4, pts b1 (.cells #[.int .u8 97, .int .u8 98] 5 (2, 3))] := hS.ext hS53
          refine WR.runk [3, 4, 5, 6, 7] [] [3, 5, 6] (L' := [(3, .pointer (some ⟨b37, 0, none⟩)), (5, pv54), (6, .int .i64 r45.2)]) (w' := w52) (by kernel_rfl) ?_
          refine WR.nil ?_
          refine At.go ?_
          refine WC.seq (by kernel_rfl) ?_
          refine WC.reg [0, 1, 2, 3, 4, 5, 6, 7, 8, 9, 10, 11, 12, 13, 14, 15, 16, 17, 18, 19, 20, 21, 22, 23, 24, 25, 26, 27, 28, 29, 30, 31, 32] (by kernel_rfl) (by kernel_rfl) ?_
          refine WR.runk [0] [1, 2, 3, 4, 5, 6, 7, 8, 9, 10, 11, 12, 13, 14, 15, 16, 17, 18, 19, 20, 21, 22, 23, 24, 25, 26, 27, 28, 29, 30, 31, 32] [3, 5, 6, 41] (L' := [(3, .pointer (some ⟨b37, 0, none⟩)), (5, pv54), (6, .int .i64 r45.2), (41, .pointer (some ⟨b37, 0, none⟩))]) (w' := w52) (by kernel_rfl) ?_
          obtain ⟨r55, e56, H⟩ := bind_ex H
          refine WR.st (St.call (by kernel_rfl) (f := 16) (args := #[.pointer (some ⟨b37, 0, none⟩)]) (by kernel_rfl) (image_Image_Sections.calls w52 (.pointer (some ⟨b37, 0, none⟩)) (some y34) (Sat.rdAny 1 hS rfl (fun _ h => O52.rd _ _ _ h)) r55 e56) ?_)
          rintro _ w62 ⟨rfl, hS63⟩
          have hS : Sat w62 (rf w0) [optP O52 pv54 r45.1, O52 b37 y34, osl 5 (r0 (.int .u8)) 1 A20 c21 r11.1, pts b9 (.cells #[.slice (some ⟨b1, 0, none⟩) 2 2, .slice none 0 0, .slice A6 y4.length c7] 22 (0, 0)), osl 5 (r0 (.int .u8)) 1 A6 c7 y4, pts b1 (.cells #[.int .u8 97, .int .u8 98] 5 (2, 3))] := hS.ext hS63
          refine WR.runk [2, 3] [4, 5, 6, 7, 8, 9, 10, 11, 12, 13, 14, 15, 16, 17, 18, 19, 20, 21, 22, 23, 24, 25, 26, 27, 28, 29, 30, 31, 32] [3, 5, 6, 44] (L' := [(3, .pointer (some ⟨b37, 0, none⟩)), (5, pv54), (6, .int .i64 r45.2), (44, .bool (r55 == 3))]) (w' := w62) (by kernel_rfl) ?_
          refine WR.split 44 (b := (r55 == 3)) (by kernel_rfl) (fun hb64 => ?_) (fun hb64 => ?_)
          · replace H := ite_t H hb64
            refine WR.runk [4] [5, 6, 7, 8, 9, 10, 11, 12, 13, 14, 15, 16, 17, 18, 19, 20, 21, 22, 23, 24, 25, 26, 27, 28, 29, 30, 31, 32] [3, 5, 6, 44, 45] (L' := [(3, .pointer (some ⟨b37, 0, none⟩)), (5, pv54), (6, .int .i64 r45.2), (44, .bool true), (45, .pointer (some ⟨b37, 0, none⟩))]) (w' := w62) (by kernel_rfl) ?_
            obtain ⟨r65, e66, H⟩ := bind_ex H
            refine WR.st (St.call (by kernel_rfl) (f := 17) (args := #[.pointer (some ⟨b37, 0, none⟩), .int .i64 2]) (by kernel_rfl) (image_Image_First.calls w62 (.pointer (some ⟨b37, 0, none⟩)) (some y34) (Sat.rdAny 1 hS rfl (fun _ h => O52.rd _ _ _ h)) 2 r65 e66) ?_)
            rintro _ w72 ⟨rfl, hS73⟩
            have hS : Sat w72 (rf w0) [optP O52 pv54 r45.1, O52 b37 y34, osl 5 (r0 (.int .u8)) 1 A20 c21 r11.1, pts b9 (.cells #[.slice (some ⟨b1, 0, none⟩) 2 2, .slice none 0 0, .slice A6 y4.length c7] 22 (0, 0)), osl 5 (r0 (.int .u8)) 1 A6 c7 y4, pts b1 (.cells #[.int .u8 97, .int .u8 98] 5 (2, 3))] := hS.ext hS73
            refine WR.runk [6, 7, 8] [9, 10, 11, 12, 13, 14, 15, 16, 17, 18, 19, 20, 21, 22, 23, 24, 25, 26, 27, 28, 29, 30, 31, 32] [3, 5, 6, 49] (L' := [(3, .pointer (some ⟨b37, 0, none⟩)), (5, pv54), (6, .int .i64 r45.2), (49, .bool (r65 == 2))]) (w' := w72) (by kernel_rfl) ?_
            refine WR.split 49 (b := (r65 == 2)) (by kernel_rfl) (fun hb74 => ?_) (fun hb74 => ?_)
            · replace H := ite_t H hb74
              refine WR.runk [9] [10, 11, 12, 13, 14, 15, 16, 17, 18, 19, 20, 21, 22, 23, 24, 25, 26, 27, 28, 29, 30, 31, 32] [3, 5, 6, 49, 50] (L' := [(3, .pointer (some ⟨b37, 0, none⟩)), (5, pv54), (6, .int .i64 r45.2), (49, .bool true), (50, .pointer (some ⟨b37, 0, none⟩))]) (w' := w72) (by kernel_rfl) ?_
              obtain ⟨r75, e76, H⟩ := bind_ex H
              refine WR.st (St.call (by kernel_rfl) (f := 18) (args := #[.pointer (some ⟨b37, 0, none⟩), .int .i64 2]) (by kernel_rfl) (image_Image_Size.calls w72 (.pointer (some ⟨b37, 0, none⟩)) (some y34) (Sat.rdAny 1 hS rfl (fun _ h => O52.rd _ _ _ h)) 2 r75 e76) ?_)
              rintro _ w82 ⟨rfl, hS83⟩
              have hS : Sat w82 (rf w0) [optP O52 pv54 r45.1, O52 b37 y34, osl 5 (r0 (.int .u8)) 1 A20 c21 r11.1, pts b9 (.cells #[.slice (some ⟨b1, 0, none⟩) 2 2, .slice none 0 0, .slice A6 y4.length c7] 22 (0, 0)), osl 5 (r0 (.int .u8)) 1 A6 c7 y4, pts b1 (.cells #[.int .u8 97, .int .u8 98] 5 (2, 3))] := hS.ext hS83
              refine WR.runk [11, 12, 13] [14, 15, 16, 17, 18, 19, 20, 21, 22, 23, 24, 25, 26, 27, 28, 29, 30, 31, 32] [3, 5, 6, 54] (L' := [(3, .pointer (some ⟨b37, 0, none⟩)), (5, pv54), (6, .int .i64 r45.2), (54, .bool (r75 == 300))]) (w' := w82) (by kernel_rfl) ?_
              refine WR.split 54 (b := (r75 == 300)) (by kernel_rfl) (fun hb84 => ?_) (fun hb84 => ?_)
              · replace H := ite_t H hb84
                refine WR.runk [14] [15, 16, 17, 18, 19, 20, 21, 22, 23, 24, 25, 26, 27, 28, 29, 30, 31, 32] [3, 5, 6, 54, 55] (L' := [(3, .pointer (some ⟨b37, 0, none⟩)), (5, pv54), (6, .int .i64 r45.2), (54, .bool true), (55, .pointer (some ⟨b37, 0, none⟩))]) (w' := w82) (by kernel_rfl) ?_
                obtain ⟨r85, e86, H⟩ := bind_ex H
                refine WR.st (St.call (by kernel_rfl) (f := 19) (args := #[.pointer (some ⟨b37, 0, none⟩)]) (by kernel_rfl) (image_Image_Pages.calls w82 (.pointer (some ⟨b37, 0, none⟩)) (some y34) (Sat.rdAny 1 hS rfl (fun _ h => O52.rd _ _ _ h)) r85 e86) ?_)
                rintro _ w92 ⟨rfl, hS93⟩
                have hS : Sat w92 (rf w0) [optP O52 pv54 r45.1, O52 b37 y34, osl 5 (r0 (.int .u8)) 1 A20 c21 r11.1, pts b9 (.cells #[.slice (some ⟨b1, 0, none⟩) 2 2, .slice none 0 0, .slice A6 y4.length c7] 22 (0, 0)), osl 5 (r0 (.int .u8)) 1 A6 c7 y4, pts b1 (.cells #[.int .u8 97, .int .u8 98] 5 (2, 3))] := hS.ext hS93
                refine WR.runk [16, 17, 18] [19, 20, 21, 22, 23, 24, 25, 26, 27, 28, 29, 30, 31, 32] [3, 5, 6, 59] (L' := [(3, .pointer (some ⟨b37, 0, none⟩)), (5, pv54), (6, .int .i64 r45.2), (59, .bool (r85 == 4))]) (w' := w92) (by kernel_rfl) ?_
                refine WR.split 59 (b := (r85 == 4)) (by kernel_rfl) (fun hb94 => ?_) (fun hb94 => ?_)
                · replace H := ite_t H hb94
                  refine WR.runk [19] [20, 21, 22, 23, 24, 25, 26, 27, 28, 29, 30, 31, 32] [5, 6, 59, 60] (L' := [(5, pv54), (6, .int .i64 r45.2), (59, .bool true), (60, .pointer (some ⟨b37, 0, none⟩))]) (w' := w92) (by kernel_rfl) ?_
                  obtain ⟨r95, e96, H⟩ := bind_ex H
                  refine WR.st (St.call (by kernel_rfl) (f := 22) (args := #[.pointer (some ⟨b37, 0, none⟩), .int .i64 0]) (by kernel_rfl) (image_Image_Section.calls w92 (.pointer (some ⟨b37, 0, none⟩)) (some y34) (Sat.rdAny 1 hS rfl (fun _ h => O52.rd _ _ _ h)) 0 r95 e96) ?_)
                  rintro _ w102 ⟨A104, c105, rfl, hS103⟩
                  have hS : Sat w102 (rf w0) [osl 5 (r0 (.int .u8)) 1 A104 c105 r95, optP O52 pv54 r45.1, O52 b37 y34, osl 5 (r0 (.int .u8)) 1 A20 c21 r11.1, pts b9 (.cells #[.slice (some ⟨b1, 0, none⟩) 2 2, .slice none 0 0, .slice A6 y4.length c7] 22 (0, 0)), osl 5 (r0 (.int .u8)) 1 A6 c7 y4, pts b1 (.cells #[.int .u8 97, .int .u8 98] 5 (2, 3))] := hS.ext hS103
                  refine WR.runk [] [21, 22, 23, 24, 25, 26, 27, 28, 29, 30, 31, 32] [5, 6, 59, 61] (L' := [(5, pv54), (6, .int .i64 r45.2), (59, .bool true), (61, .slice A104 r95.length c105)]) (w' := w102) (by kernel_rfl) ?_
                  refine WR.st (St.ofR (RSt.toStr (src := 22) (dst := 9) (e := 5) (.tmp 61) (by kernel_rfl) (by kernel_rfl) (by kernel_rfl) (by kernel_rfl) (by kernel_rfl) (by kernel_rfl) (Sat.rdAt 0 hS rfl) ?_))
                  refine WR.runk [22, 23, 24] [25, 26, 27, 28, 29, 30, 31, 32] [5, 6, 65] (L' := [(5, pv54), (6, .int .i64 r45.2), (65, .bool ((bs r95).toList == (⟨#[97, 98]⟩ : ByteArray).toList))]) (w' := w102) (by kernel_rfl) ?_
                  refine WR.split 65 (b := ((bs r95).toList == (⟨#[97, 98]⟩ : ByteArray).toList)) (by kernel_rfl) (fun hb106 => ?_) (fun hb106 => ?_)
                  · replace H := ite_t H hb106
                    refine WR.runk [25] [26, 27, 28, 29, 30, 31, 32] [6, 65, 66] (L' := [(6, .int .i64 r45.2), (65, .bool true), (66, pv54)]) (w' := w102) (by kernel_rfl) ?_
                    have hS : Sat w102 (rf w0) [optP O52 pv54 r45.1, osl 5 (r0 (.int .u8)) 1 A104 c105 r95, O52 b37 y34, osl 5 (r0 (.int .u8)) 1 A20 c21 r11.1, pts b9 (.cells #[.slice (some ⟨b1, 0, none⟩) 2 2, .slice none 0 0, .slice A6 y4.length c7] 22 (0, 0)), osl 5 (r0 (.int .u8)) 1 A6 c7 y4, pts b1 (.cells #[.int .u8 97, .int .u8 98] 5 (2, 3))] := hS.sel [1, 0, 2, 3, 4, 5, 6] (by kernel_rfl)
                    rcases hr108 : r45.1 with _ | y107
                    · rw [hr108] at H
                      dsimp only at H
                      have hv109 := optP.none hS hr108
                      subst hv109
                      have hS : Sat w102 (rf w0) [osl 5 (r0 (.int .u8)) 1 A104 c105 r95, O52 b37 y34, osl 5 (r0 (.int .u8)) 1 A20 c21 r11.1, pts b9 (.cells #[.slice (some ⟨b1, 0, none⟩) 2 2, .slice none 0 0, .slice A6 y4.length c7] 22 (0, 0)), osl 5 (r0 (.int .u8)) 1 A6 c7 y4, pts b1 (.cells #[.int .u8 97, .int .u8 98] 5 (2, 3))] := hS.sel [1, 2, 3, 4, 5, 6] (by kernel_rfl)
                      refine WR.runk [26, 27, 28, 29, 30, 31, 32] [] [0] (L' := [(0, .bool (r45.2 == 10))]) (w' := w102) (by kernel_rfl) ?_
                      refine WR.nil ?_
                      refine At.go ?_
                      refine WC.ret (by kernel_rfl) ?_
                      obtain rfl := Option.some.inj H
                      have hS : Sat w102 (rf w0) [] := hS.sel [] (by kernel_rfl)
                      exact At.body [.bool (r45.2 == 10)] (by kernel_rfl) ⟨_, rfl, rfl, hS⟩
                    · rw [hr108] at H
                      dsimp only at H
                      obtain ⟨b110, hv109, hN112⟩ := optP.some hS hr108
                      subst hv109
                      have hS : Sat w102 (rf w0) [O52 b110 y107, osl 5 (r0 (.int .u8)) 1 A104 c105 r95, O52 b37 y34, osl 5 (r0 (.int .u8)) 1 A20 c21 r11.1, pts b9 (.cells #[.slice (some ⟨b1, 0, none⟩) 2 2, .slice none 0 0, .slice A6 y4.length c7] 22 (0, 0)), osl 5 (r0 (.int .u8)) 1 A6 c7 y4, pts b1 (.cells #[.int .u8 97, .int .u8 98] 5 (2, 3))] := hN112
                      refine WR.runk [26, 27, 28, 29, 30, 31, 32] [] [0] (L' := [(0, .bool false)]) (w' := w102) (by kernel_rfl) ?_
                      refine WR.nil ?_
                      refine At.go ?_
                      refine WC.ret (by kernel_rfl) ?_
                      obtain rfl := Option.some.inj H
                      have hS : Sat w102 (rf w0) [] := hS.sel [] (by kernel_rfl)
                      exact At.body [.bool false] (by kernel_rfl) ⟨_, rfl, rfl, hS⟩
                  · replace H := ite_f H hb106
                    refine WR.runk [25, 26, 27, 28, 29, 30, 31, 32] [] [0] (L' := [(0, .bool false)]) (w' := w102) (by kernel_rfl) ?_
                    refine WR.nil ?_
                    refine At.go ?_
                    refine WC.ret (by kernel_rfl) ?_
                    obtain rfl := Option.some.inj H
                    have hS : Sat w102 (rf w0) [] := hS.sel [] (by kernel_rfl)
                    exact At.body [.bool false] (by kernel_rfl) ⟨_, rfl, rfl, hS⟩
                · replace H := ite_f H hb94
                  refine WR.runk [19, 20, 21, 22, 23, 24, 25, 26, 27, 28, 29, 30, 31, 32] [] [0] (L' := [(0, .bool false)]) (w' := w92) (by kernel_rfl) ?_
                  refine WR.nil ?_
                  refine At.go ?_
                  refine WC.ret (by kernel_rfl) ?_
                  obtain rfl := Option.some.inj H
                  have hS : Sat w92 (rf w0) [] := hS.sel [] (by kernel_rfl)
                  exact At.body [.bool false] (by kernel_rfl) ⟨_, rfl, rfl, hS⟩
              · replace H := ite_f H hb84
                refine WR.runk [14, 15, 16, 17, 18, 19, 20, 21, 22, 23, 24, 25, 26, 27, 28, 29, 30, 31, 32] [] [0] (L' := [(0, .bool false)]) (w' := w82) (by kernel_rfl) ?_
                refine WR.nil ?_
                refine At.go ?_
                refine WC.ret (by kernel_rfl) ?_
                obtain rfl := Option.some.inj H
                have hS : Sat w82 (rf w0) [] := hS.sel [] (by kernel_rfl)
                exact At.body [.bool false] (by kernel_rfl) ⟨_, rfl, rfl, hS⟩
            · replace H := ite_f H hb74
              refine WR.runk [9, 10, 11, 12, 13, 14, 15, 16, 17, 18, 19, 20, 21, 22, 23, 24, 25, 26, 27, 28, 29, 30, 31, 32] [] [0] (L' := [(0, .bool false)]) (w' := w72) (by kernel_rfl) ?_
              refine WR.nil ?_
              refine At.go ?_
              refine WC.ret (by kernel_rfl) ?_
              obtain rfl := Option.some.inj H
              have hS : Sat w72 (rf w0) [] := hS.sel [] (by kernel_rfl)
              exact At.body [.bool false] (by kernel_rfl) ⟨_, rfl, rfl, hS⟩
          · replace H := ite_f H hb64
            refine WR.runk [4, 5, 6, 7, 8, 9, 10, 11, 12, 13, 14, 15, 16, 17, 18, 19, 20, 21, 22, 23, 24, 25, 26, 27, 28, 29, 30, 31, 32] [] [0] (L' := [(0, .bool false)]) (w' := w62) (by kernel_rfl) ?_
            refine WR.nil ?_
            refine At.go ?_
            refine WC.ret (by kernel_rfl) ?_
            obtain rfl := Option.some.inj H
            have hS : Sat w62 (rf w0) [] := hS.sel [] (by kernel_rfl)
            exact At.body [.bool false] (by kernel_rfl) ⟨_, rfl, rfl, hS⟩
/-! ### 23 colophon/colophonref04.Sum -/
def colophonref04_Sum.l1 (l0 : List Int) : Nat → Int → Int → Option Int
  | 0, _, _ => none
  | k + 1, x3_l1, x4_l1 => (if decide (x4_l1 < wi (8 * (l0.length : Int))) then ((at? l0 (wi (Int.tdiv x4_l1 8))).bind fun v2 => (if (((Int.tmod x3_l1 2) == 1) != ((iand .u8 (ishr .u8 v2 (IntKind.wrap .u64 (Int.tmod x4_l1 8))) 1) == 1)) then colophonref04_Sum.l1 l0 k (ixor .u32 (IntKind.wrap .u32 (Int.tdiv x3_l1 2)) 3988292384) (wi (x4_l1 + 1)) else colophonref04_Sum.l1 l0 k (IntKind.wrap .u32 (Int.tdiv x3_l1 2)) (wi (x4_l1 + 1)))) else some x3_l1)
def colophonref04_Sum.f (l0 : List Int) : Option Int := ((colophonref04_Sum.l1 l0 FU 4294967295 0).bind fun o5 => some (IntKind.wrap .u32 (4294967295 - o5)))
def colophonref04_Sum.post (w : World) (r : Int) (v : Value) (w' : World) : Prop := v = (.int .u32 r : Value) ∧ Sat w' (rf w) []
theorem colophonref04_Sum.l1_ok {Q} (w0 : World) (A0 : Option Addr) (c0 : Nat) (l0 : List Int) (R0 : rdS (r0 (.int .u8)) 1 (hp w0) A0 c0 l0) (out : Int) (hn0 : ∀ (w : World), Sat w (rf w0) [] → At Q (.exit 0) 37 [(3, .int .u32 out)] w) :
    ∀ (k : Nat) (x3_l1 : Int) (x4_l1 : Int) (w : World), Sat w (rf w0) [] → colophonref04_Sum.l1 l0 k x3_l1 x4_l1 = some out → WL Try.prog (cbody (cbody (cr (cl (cr (cr C23)))))) Q 37 [(0, .slice A0 l0.length c0), (3, .int .u32 x3_l1), (4, .int .i64 x4_l1)] w := by
  intro k
  induction k with
  | zero => intro x3_l1 x4_l1 w hS H; exact absurd (show none = some out from H) (by simp)
  | succ k ih =>
    intro x3_l1 x4_l1 w hS H
    unfold colophonref04_Sum.l1 at H
    refine WL.round ?_
    refine WC.seq (by kernel_rfl) ?_
    refine WC.seq (by kernel_rfl) ?_
    refine WC.reg [0, 1, 2, 3, 4] (by kernel_rfl) (by kernel_rfl) ?_
    refine WR.runk [0, 1, 2, 3, 4] [] [0, 3, 4, 11] (L' := [(0, .slice A0 l0.length c0), (3, .int .u32 x3_l1), (4, .int .i64 x4_l1), (11, .bool (decide (x4_l1 < wi (8 * (l0.length : Int)))))]) (w' := w) (by kernel_rfl) ?_
    refine WR.nil ?_
    refine At.go ?_
    refine WC.cond (by kernel_rfl) (decide (x4_l1 < wi (8 * (l0.length : Int)))) (by kernel_rfl) (by kernel_rfl) (fun hb1 => ?_) (fun hb1 => ?_)
    · replace H := ite_t H hb1
      refine WC.skip (by kernel_rfl) ?_
      refine At.go ?_
      refine WC.seq (by kernel_rfl) ?_
      refine WC.block (by kernel_rfl) ?_
      refine WC.seq (by kernel_rfl) ?_
      refine WC.reg [0, 1, 2, 3] (by kernel_rfl) (by kernel_rfl) ?_
      refine WR.runk [0, 1, 2, 3] [] [0, 3, 4, 5] (L' := [(0, .slice A0 l0.length c0), (3, .int .u32 x3_l1), (4, .int .i64 x4_l1), (5, .bool ((Int.tmod x3_l1 2) == 1))]) (w' := w) (by kernel_rfl) ?_
      refine WR.nil ?_
      refine At.go ?_
      refine WC.seq (by kernel_rfl) ?_
      refine WC.reg [0, 1, 2, 3, 4, 5, 6, 7, 8, 9, 10, 11] (by kernel_rfl) (by kernel_rfl) ?_
      refine WR.runk [0, 1, 2] [3, 4, 5, 6, 7, 8, 9, 10, 11] [0, 3, 4, 5, 17, 19] (L' := [(0, .slice A0 l0.length c0), (3, .int .u32 x3_l1), (4, .int .i64 x4_l1), (5, .bool ((Int.tmod x3_l1 2) == 1)), (17, .slice A0 l0.length c0), (19, .int .i64 (wi (Int.tdiv x4_l1 8)))]) (w' := w) (by kernel_rfl) ?_
      obtain ⟨v2, e3, H⟩ := bind_ex H
      refine WR.st (St.ofP (PSt.idx (k := .i64) (.tmp 17) (.tmp 19) (by kernel_rfl) (by kernel_rfl) E22 (by kernel_rfl) (by kernel_rfl) (rdS.up R0 hS.sub0) e3 ?_))
      refine WR.runk [] [4, 5, 6, 7, 8, 9, 10, 11] [0, 3, 4, 5, 20] (L' := [(0, .slice A0 l0.length c0), (3, .int .u32 x3_l1), (4, .int .i64 x4_l1), (5, .bool ((Int.tmod x3_l1 2) == 1)), (20, .pointer (some (adr A0 (wi (Int.tdiv x4_l1 8)).toNat 1)))]) (w' := w) (by kernel_rfl) ?_
      refine WR.st (St.ofR (RSt.loadInt (t := 5) (.tmp 20) (by kernel_rfl) (by kernel_rfl) (by kernel_rfl) (by kernel_rfl) (rdS.up R0 hS.sub0) e3 ?_))
      refine WR.runk [5, 6, 7] [8, 9, 10, 11] [0, 3, 4, 5, 21, 24] (L' := [(0, .slice A0 l0.length c0), (3, .int .u32 x3_l1), (4, .int .i64 x4_l1), (5, .bool ((Int.tmod x3_l1 2) == 1)), (21, .int .u8 v2), (24, .int .u64 (IntKind.wrap .u64 (Int.tmod x4_l1 8)))]) (w' := w) (by kernel_rfl) ?_
      refine WR.st (St.ofP (PSt.shift (k := .u8) (k2 := .u64) (t := 5) (t2 := 40) (a := v2) (b := (IntKind.wrap .u64 (Int.tmod x4_l1 8))) .shr (by decide) (.tmp 21) (.tmp 24) (by kernel_rfl) (by kernel_rfl) (by kernel_rfl) (by kernel_rfl) (wrap_u64_nonneg _) ?_))
      refine WR.runk [9, 10, 11] [] [0, 3, 4, 5, 6] (L' := [(0, .slice A0 l0.length c0), (3, .int .u32 x3_l1), (4, .int .i64 x4_l1), (5, .bool ((Int.tmod x3_l1 2) == 1)), (6, .bool ((iand .u8 (ishr .u8 v2 (IntKind.wrap .u64 (Int.tmod x4_l1 8))) 1) == 1))]) (w' := w) (by kernel_rfl) ?_
      refine WR.nil ?_
      refine At.go ?_
      refine WC.seq (by kernel_rfl) ?_
      refine WC.reg [0, 1, 2] (by kernel_rfl) (by kernel_rfl) ?_
      refine WR.runk [0, 1, 2] [] [0, 3, 4, 5, 6] (L' := [(0, .slice A0 l0.length c0), (3, .int .u32 (IntKind.wrap .u32 (Int.tdiv x3_l1 2))), (4, .int .i64 x4_l1), (5, .bool ((Int.tmod x3_l1 2) == 1)), (6, .bool ((iand .u8 (ishr .u8 v2 (IntKind.wrap .u64 (Int.tmod x4_l1 8))) 1) == 1))]) (w' := w) (by kernel_rfl) ?_
      refine WR.nil ?_
      refine At.go ?_
      refine WC.seq (by kernel_rfl) ?_
      refine WC.reg [0, 1, 2] (by kernel_rfl) (by kernel_rfl) ?_
      refine WR.runk [0, 1, 2] [] [0, 3, 4, 32] (L' := [(0, .slice A0 l0.length c0), (3, .int .u32 (IntKind.wrap .u32 (Int.tdiv x3_l1 2))), (4, .int .i64 x4_l1), (32, .bool (((Int.tmod x3_l1 2) == 1) != ((iand .u8 (ishr .u8 v2 (IntKind.wrap .u64 (Int.tmod x4_l1 8))) 1) == 1)))]) (w' := w) (by kernel_rfl) ?_
      refine WR.nil ?_
      refine At.go ?_
      refine WC.cond (by kernel_rfl) (((Int.tmod x3_l1 2) == 1) != ((iand .u8 (ishr .u8 v2 (IntKind.wrap .u64 (Int.tmod x4_l1 8))) 1) == 1)) (by kernel_rfl) (by kernel_rfl) (fun hb4 => ?_) (fun hb4 => ?_)
      · replace H := ite_t H hb4
        refine WC.reg [0, 1, 2] (by kernel_rfl) (by kernel_rfl) ?_
        refine WR.runk [0, 1, 2] [] [0, 3, 4] (L' := [(0, .slice A0 l0.length c0), (3, .int .u32 (ixor .u32 (IntKind.wrap .u32 (Int.tdiv x3_l1 2)) 3988292384)), (4, .int .i64 x4_l1)]) (w' := w) (by kernel_rfl) ?_
        refine WR.nil ?_
        refine At.blockNormal ?_
        refine At.go ?_
        refine WC.reg [0, 1, 2] (by kernel_rfl) (by kernel_rfl) ?_
        refine WR.runk [0, 1, 2] [] [0, 3, 4] (L' := [(0, .slice A0 l0.length c0), (3, .int .u32 (ixor .u32 (IntKind.wrap .u32 (Int.tdiv x3_l1 2)) 3988292384)), (4, .int .i64 (wi (x4_l1 + 1)))]) (w' := w) (by kernel_rfl) ?_
        refine WR.nil ?_
        have hS : Sat w (rf w0) [] := hS.sel [] (by kernel_rfl)
        refine At.again ?_
        refine WL.weaken [0, 3, 4] (L' := [(0, .slice A0 l0.length c0), (3, .int .u32 (ixor .u32 (IntKind.wrap .u32 (Int.tdiv x3_l1 2)) 3988292384)), (4, .int .i64 (wi (x4_l1 + 1)))]) (by kernel_rfl) ?_
        exact ih (ixor .u32 (IntKind.wrap .u32 (Int.tdiv x3_l1 2)) 3988292384) (wi (x4_l1 + 1)) _ hS H
      · replace H := ite_f H hb4
        refine WC.skip (by kernel_rfl) ?_
        refine At.blockNormal ?_
        refine At.go ?_
        refine WC.reg [0, 1, 2] (by kernel_rfl) (by kernel_rfl) ?_
        refine WR.runk [0, 1, 2] [] [0, 3, 4] (L' := [(0, .slice A0 l0.length c0), (3, .int .u32 (IntKind.wrap .u32 (Int.tdiv x3_l1 2))), (4, .int .i64 (wi (x4_l1 + 1)))]) (w' := w) (by kernel_rfl) ?_
        refine WR.nil ?_
        have hS : Sat w (rf w0) [] := hS.sel [] (by kernel_rfl)
        refine At.again ?_
        refine WL.weaken [0, 3, 4] (L' := [(0, .slice A0 l0.length c0), (3, .int .u32 (IntKind.wrap .u32 (Int.tdiv x3_l1 2))), (4, .int .i64 (wi (x4_l1 + 1)))]) (by kernel_rfl) ?_
        exact ih (IntKind.wrap .u32 (Int.tdiv x3_l1 2)) (wi (x4_l1 + 1)) _ hS H
    · replace H := ite_f H hb1
      refine WC.exit (by kernel_rfl) ?_
      refine At.thenExit ?_
      refine At.thenExit ?_
      obtain rfl := Option.some.inj H
      have hS : Sat w (rf w0) [] := hS.sel [] (by kernel_rfl)
      refine At.weaken [3] (L' := [(3, .int .u32 x3_l1)]) (by kernel_rfl) ?_
      exact hn0 _ hS
theorem colophonref04_Sum.calls (w0 : World) (A0 : Option Addr) (c0 : Nat) (l0 : List Int) (R0 : rdS (r0 (.int .u8)) 1 (hp w0) A0 c0 l0) (r : Int) (H : colophonref04_Sum.f l0 = some r) :
    Calls Try.prog 23 #[.slice A0 l0.length c0] w0 (fun e w' => ∃ v, e = .returned v ∧ colophonref04_Sum.post w0 r v w') := by
  have hS : Sat w0 (rf w0) [] := Sat.start w0
  unfold colophonref04_Sum.f at H
  refine calls_of_WC (vs := [.slice A0 l0.length c0]) Try.func23 (c := C23) (n := 37) (by kernel_rfl) (by kernel_rfl) (by kernel_rfl) ?_
  refine WC.seq (by kernel_rfl) ?_
  refine WC.reg [0] (by kernel_rfl) (by kernel_rfl) ?_
  refine WR.runk [0] [] [0] (L' := [(0, .slice A0 l0.length c0)]) (w' := w0) (by kernel_rfl) ?_
  refine WR.nil ?_
  refine At.go ?_
  refine WC.seq (by kernel_rfl) ?_
  refine WC.reg [0] (by kernel_rfl) (by kernel_rfl) ?_
  refine WR.runk [0] [] [0, 3] (L' := [(0, .slice A0 l0.length c0), (3, .int .u32 4294967295)]) (w' := w0) (by kernel_rfl) ?_
  refine WR.nil ?_
  refine At.go ?_
  refine WC.seq (by kernel_rfl) ?_
  refine WC.seq (by kernel_rfl) ?_
  refine WC.reg [0] (by kernel_rfl) (by kernel_rfl) ?_
  refine WR.runk [0] [] [0, 3, 4] (L' := [(0, .slice A0 l0.length c0), (3, .int .u32 4294967295), (4, .int .i64 0)]) (w' := w0) (by kernel_rfl) ?_
  refine WR.nil ?_
  refine At.go ?_
  refine WC.block (by kernel_rfl) ?_
  have hS : Sat w0 (rf w0) [] := hS.sel [] (by kernel_rfl)
  obtain ⟨o5, e6, H⟩ := bind_ex H
  refine WC.loop (by kernel_rfl) ?_
  refine WL.weaken [0, 3, 4] (L' := [(0, .slice A0 l0.length c0), (3, .int .u32 4294967295), (4, .int .i64 0)]) (by kernel_rfl) ?_
  refine colophonref04_Sum.l1_ok w0 A0 c0 l0 R0 o5 (fun w8 hS => ?_) FU 4294967295 0 _ hS e6
  refine At.hit ?_
  refine At.go ?_
  refine WC.seq (by kernel_rfl) ?_
  refine WC.reg [0, 1, 2] (by kernel_rfl) (by kernel_rfl) ?_
  refine WR.runk [0, 1, 2] [] [2] (L' := [(2, .int .u32 (IntKind.wrap .u32 (4294967295 - o5)))]) (w' := w8) (by kernel_rfl) ?_
  refine WR.nil ?_
  refine At.go ?_
  refine WC.ret (by kernel_rfl) ?_
  obtain rfl := Option.some.inj H
  have hS : Sat w8 (rf w0) [] := hS.sel [] (by kernel_rfl)
  exact At.body [.int .u32 (IntKind.wrap .u32 (4294967295 - o5))] (by kernel_rfl) ⟨_, rfl, rfl, hS⟩
/-! ### 9 colophon/colophonref04.Put -/
def colophonref04_Put.l1 : Nat → (List Int) → Int → Int → Option (List Int)
  | 0, _, _, _ => none
  | k + 1, x3_l1, x4_l1, x5_l1 => (if decide (x5_l1 < 4) then ((app? 140737488355328 x3_l1 ([IntKind.wrap .u8 (Int.tmod x4_l1 256)] : List Int)).bind fun y21 => colophonref04_Put.l1 k y21 (IntKind.wrap .u32 (Int.tdiv x4_l1 256)) (wi (x5_l1 + 1))) else some x3_l1)
def colophonref04_Put.f (l0 : List Int) : Option (List Int) := ((app? 140737488355328 (([] : List Int) : List Int) l0).bind fun y4 => ((colophonref04_Sum.f l0).bind fun r8 => ((colophonref04_Put.l1 FU y4 r8 0).bind fun o25 => some o25)))
def colophonref04_Put.post (w : World) (r : (List Int)) (v : Value) (w' : World) : Prop := ∃ (A0' : Option Addr) (c0' : Nat), v = (.slice A0' r.length c0' : Value) ∧ Sat w' (rf w) [osl 5 (r0 (.int .u8)) 1 A0' c0' r]
theorem colophonref04_Put.l1_ok {Q} (w0 : World) (out : (List Int)) (hn0 : ∀ (A3_q : Option Addr) (c3_q : Nat) (w : World), Sat w (rf w0) [osl 5 (r0 (.int .u8)) 1 A3_q c3_q out] → At Q (.exit 0) 24 [(3, .slice A3_q out.length c3_q)] w) :
    ∀ (k : Nat) (x3_l1 : List Int) (x4_l1 : Int) (x5_l1 : Int) (A3_l1 : Option Addr) (c3_l1 : Nat) (w : World), Sat w (rf w0) [osl 5 (r0 (.int .u8)) 1 A3_l1 c3_l1 x3_l1] → colophonref04_Put.l1 k x3_l1 x4_l1 x5_l1 = some out → WL Try.prog (cbody (cbody (cr (cl (cr (cr (cr C9))))))) Q 24 [(3, .slice A3_l1 x3_l1.length c3_l1), (4, .int .u32 x4_l1), (5, .int .i64 x5_l1)] w := by
  intro k
  induction k with
  | zero => intro x3_l1 x4_l1 x5_l1 A3_l1 c3_l1 w hS H; exact absurd (show none = some out from H) (by simp)
  | succ k ih =>
    intro x3_l1 x4_l1 x5_l1 A3_l1 c3_l1 w hS H
    unfold colophonref04_Put.l1 at H
    refine WL.round ?_
    refine WC.seq (by kernel_rfl) ?_
    refine WC.seq (by kernel_rfl) ?_
    refine WC.reg [0, 1] (by kernel_rfl) (by kernel_rfl) ?_
    refine WR.runk [0, 1] [] [3, 4, 5, 12] (L' := [(3, .slice A3_l1 x3_l1.length c3_l1), (4, .int .u32 x4_l1), (5, .int .i64 x5_l1), (12, .bool (decide (x5_l1 < 4)))]) (w' := w) (by kernel_rfl) ?_
    refine WR.nil ?_
    refine At.go ?_
    refine WC.cond (by kernel_rfl) (decide (x5_l1 < 4)) (by kernel_rfl) (by kernel_rfl) (fun hb17 => ?_) (fun hb17 => ?_)
    · replace H := ite_t H hb17
      refine WC.skip (by kernel_rfl) ?_
      refine At.go ?_
      refine WC.seq (by kernel_rfl) ?_
      refine WC.block (by kernel_rfl) ?_
      refine WC.seq (by kernel_rfl) ?_
      refine WC.reg [0, 1, 2, 3, 4, 5, 6] (by kernel_rfl) (by kernel_rfl) ?_
      refine WR.runk [0, 1, 2, 3] [4, 5, 6] [3, 4, 5, 15, 18] (L' := [(3, .slice A3_l1 x3_l1.length c3_l1), (4, .int .u32 x4_l1), (5, .int .i64 x5_l1), (15, .slice A3_l1 x3_l1.length c3_l1), (18, .int .u8 (IntKind.wrap .u8 (Int.tmod x4_l1 256)))]) (w' := w) (by kernel_rfl) ?_
      refine WR.st (St.box hS (by kernel_rfl) (.cells #[.int .u8 (IntKind.wrap .u8 (Int.tmod x4_l1 256))] 5) (fun b18 => .slice (some ⟨b18, 0, none⟩) 1 1) (fun _ => by kernel_rfl) (fun b18 w19 hS => ?_))
      refine WR.runk [] [5, 6] [3, 4, 5, 15, 19] (L' := [(3, .slice A3_l1 x3_l1.length c3_l1), (4, .int .u32 x4_l1), (5, .int .i64 x5_l1), (15, .slice A3_l1 x3_l1.length c3_l1), (19, .slice (some ⟨b18, 0, none⟩) 1 1)]) (w' := w19) (by kernel_rfl) ?_
      have hS : Sat w19 (rf w0) [osl 5 (r0 (.int .u8)) 1 A3_l1 c3_l1 x3_l1, pts b18 (.cells #[.int .u8 (IntKind.wrap .u8 (Int.tmod x4_l1 256))] 5 (0, 0))] := hS.sel [1, 0] (by kernel_rfl)
      obtain ⟨y21, e20, H⟩ := bind_ex H
      refine WR.st (St.append' (.tmp 15) (.tmp 19) (by kernel_rfl) (by kernel_rfl) E22 (r0_one _) hS (by kernel_rfl) (by kernel_rfl) (Sat.ptsAt 1 (r0 (.int .u8)) 1 ([IntKind.wrap .u8 (Int.tmod x4_l1 256)] : List Int) hS rfl rfl (rdL.cons1 rfl (rdL.nil _ _))) 140737488355328 (by kernel_rfl) (by kernel_rfl) e20 (fun A22 c23 w24 hS => ?_))
      refine WR.runk [6] [] [3, 4, 5] (L' := [(3, .slice A22 y21.length c23), (4, .int .u32 x4_l1), (5, .int .i64 x5_l1)]) (w' := w24) (by kernel_rfl) ?_
      refine WR.nil ?_
      refine At.go ?_
      refine WC.reg [0, 1, 2] (by kernel_rfl) (by kernel_rfl) ?_
      refine WR.runk [0, 1, 2] [] [3, 4, 5] (L' := [(3, .slice A22 y21.length c23), (4, .int .u32 (IntKind.wrap .u32 (Int.tdiv x4_l1 256))), (5, .int .i64 x5_l1)]) (w' := w24) (by kernel_rfl) ?_
      refine WR.nil ?_
      refine At.blockNormal ?_
      refine At.go ?_
      refine WC.reg [0, 1, 2] (by kernel_rfl) (by kernel_rfl) ?_
      refine WR.runk [0, 1, 2] [] [3, 4, 5] (L' := [(3, .slice A22 y21.length c23), (4, .int .u32 (IntKind.wrap .u32 (Int.tdiv x4_l1 256))), (5, .int .i64 (wi (x5_l1 + 1)))]) (w' := w24) (by kernel_rfl) ?_
      refine WR.nil ?_
      have hS : Sat w24 (rf w0) [osl 5 (r0 (.int .u8)) 1 A22 c23 y21] := hS.sel [0] (by kernel_rfl)
      refine At.again ?_
      refine WL.weaken [3, 4, 5] (L' := [(3, .slice A22 y21.length c23), (4, .int .u32 (IntKind.wrap .u32 (Int.tdiv x4_l1 256))), (5, .int .i64 (wi (x5_l1 + 1)))]) (by kernel_rfl) ?_
      exact ih y21 (IntKind.wrap .u32 (Int.tdiv x4_l1 256)) (wi (x5_l1 + 1)) A22 c23 _ hS H
    · replace H := ite_f H hb17
      refine WC.exit (by kernel_rfl) ?_
      refine At.thenExit ?_
      refine At.thenExit ?_
      obtain rfl := Option.some.inj H
      have hS : Sat w (rf w0) [osl 5 (r0 (.int .u8)) 1 A3_l1 c3_l1 x3_l1] := hS.sel [0] (by kernel_rfl)
      refine At.weaken [3] (L' := [(3, .slice A3_l1 x3_l1.length c3_l1)]) (by kernel_rfl) ?_
      exact hn0 A3_l1 c3_l1 _ hS
theorem colophonref04_Put.calls (w0 : World) (A0 : Option Addr) (c0 : Nat) (l0 : List Int) (R0 : rdS (r0 (.int .u8)) 1 (hp w0) A0 c0 l0) (r : (List Int)) (H : colophonref04_Put.f l0 = some r) :
    Calls Try.prog 9 #[.slice A0 l0.length c0] w0 (fun e w' => ∃ v, e = .returned v ∧ colophonref04_Put.post w0 r v w') := by
  have hS : Sat w0 (rf w0) [] := Sat.start w0
  unfold colophonref04_Put.f at H
  refine calls_of_WC (vs := [.slice A0 l0.length c0]) Try.func9 (c := C9) (n := 24) (by kernel_rfl) (by kernel_rfl) (by kernel_rfl) ?_
  refine WC.seq (by kernel_rfl) ?_
  refine WC.reg [0] (by kernel_rfl) (by kernel_rfl) ?_
  refine WR.runk [0] [] [0] (L' := [(0, .slice A0 l0.length c0)]) (w' := w0) (by kernel_rfl) ?_
  refine WR.nil ?_
  refine At.go ?_
  refine WC.seq (by kernel_rfl) ?_
  refine WC.reg [0, 1, 2, 3] (by kernel_rfl) (by kernel_rfl) ?_
  refine WR.st (St.box hS (by kernel_rfl) (.cells #[] 5) (fun b1 => .slice (some ⟨b1, 0, none⟩) 0 0) (fun _ => by kernel_rfl) (fun b1 w2 hS => ?_))
  refine WR.runk [1] [2, 3] [0, 6, 7] (L' := [(0, .slice A0 l0.length c0), (6, .slice (some ⟨b1, 0, none⟩) 0 0), (7, .slice A0 l0.length c0)]) (w' := w2) (by kernel_rfl) ?_
  have hS : Sat w2 (rf w0) [osl 5 (r0 (.int .u8)) 1 (some ⟨b1, 0, none⟩) (([] : List Int) : List Int).length (([] : List Int) : List Int)] := Sat.toOsl' (r0 (.int .u8)) 1 (([] : List Int) : List Int) hS rfl (rdL.nil _ _)
  obtain ⟨y4, e3, H⟩ := bind_ex H
  refine WR.st (St.append' (.tmp 6) (.tmp 7) (by kernel_rfl) (by kernel_rfl) E22 (r0_one _) hS (by kernel_rfl) (by kernel_rfl) (rdS.up R0 hS.sub0) 140737488355328 (by kernel_rfl) (by kernel_rfl) e3 (fun A5 c6 w7 hS => ?_))
  refine WR.runk [3] [] [0, 3] (L' := [(0, .slice A0 l0.length c0), (3, .slice A5 y4.length c6)]) (w' := w7) (by kernel_rfl) ?_
  refine WR.nil ?_
  refine At.go ?_
  refine WC.seq (by kernel_rfl) ?_
  refine WC.reg [0, 1, 2] (by kernel_rfl) (by kernel_rfl) ?_
  refine WR.runk [0] [1, 2] [3, 9] (L' := [(3, .slice A5 y4.length c6), (9, .slice A0 l0.length c0)]) (w' := w7) (by kernel_rfl) ?_
  obtain ⟨r8, e9, H⟩ := bind_ex H
  refine WR.st (St.call (by kernel_rfl) (f := 23) (args := #[.slice A0 l0.length c0]) (by kernel_rfl) (colophonref04_Sum.calls w7 A0 c0 l0 (rdS.up R0 hS.sub0) r8 e9) ?_)
  rintro _ w15 ⟨rfl, hS16⟩
  have hS : Sat w15 (rf w0) [osl 5 (r0 (.int .u8)) 1 A5 c6 y4] := hS.ext hS16
  refine WR.runk [2] [] [3, 4] (L' := [(3, .slice A5 y4.length c6), (4, .int .u32 r8)]) (w' := w15) (by kernel_rfl) ?_
  refine WR.nil ?_
  refine At.go ?_
  refine WC.seq (by kernel_rfl) ?_
  refine WC.seq (by kernel_rfl) ?_
  refine WC.reg [0] (by kernel_rfl) (by kernel_rfl) ?_
  refine WR.runk [0] [] [3, 4, 5] (L' := [(3, .slice A5 y4.length c6), (4, .int .u32 r8), (5, .int .i64 0)]) (w' := w15) (by kernel_rfl) ?_
  refine WR.nil ?_
  refine At.go ?_
  refine WC.block (by kernel_rfl) ?_
  have hS : Sat w15 (rf w0) [osl 5 (r0 (.int .u8)) 1 A5 c6 y4] := hS.sel [0] (by kernel_rfl)
  obtain ⟨o25, e26, H⟩ := bind_ex H
  refine WC.loop (by kernel_rfl) ?_
  refine WL.weaken [3, 4, 5] (L' := [(3, .slice A5 y4.length c6), (4, .int .u32 r8), (5, .int .i64 0)]) (by kernel_rfl) ?_
  refine colophonref04_Put.l1_ok w0 o25 (fun A3_q27 c3_q27 w28 hS => ?_) FU y4 r8 0 A5 c6 _ hS e26
  refine At.hit ?_
  refine At.go ?_
  refine WC.seq (by kernel_rfl) ?_
  refine WC.reg [0, 1] (by kernel_rfl) (by kernel_rfl) ?_
  refine WR.runk [0, 1] [] [2] (L' := [(2, .slice A3_q27 o25.length c3_q27)]) (w' := w28) (by kernel_rfl) ?_
  refine WR.nil ?_
  refine At.go ?_
  refine WC.ret (by kernel_rfl) ?_
  obtain rfl := Option.some.inj H
  have hS : Sat w28 (rf w0) [osl 5 (r0 (.int .u8)) 1 A3_q27 c3_q27 o25] := hS.sel [0] (by kernel_rfl)
  exact At.body [.slice A3_q27 o25.length c3_q27] (by kernel_rfl) ⟨_, rfl, _, _, rfl, hS⟩
/-! ### 28 colophon/colophonref05.Get -/
def colophonref05_Get.f (l0 : List Int) : Option (Int × (List Int) × Int) := (if decide ((l0.length : Int) < 264) then some (0, ([] : List Int), 50) else (if decide ((l0.length : Int) > 264) then some (0, ([] : List Int), 51) else ((sub? l0 0 260).bind fun y5 => ((colophonref04_Put.f y5).bind fun r10 => (if (!((bs r10).toList == (bs l0).toList)) then some (0, ([] : List Int), 40) else ((at? l0 257).bind fun v22 => (if decide (v22 > 15) then some (0, ([] : List Int), 10) else ((at? l0 258).bind fun v25 => (if decide (v25 > 0) then some (0, ([] : List Int), 10) else ((at? l0 259).bind fun v28 => (if decide (v28 > 0) then some (0, ([] : List Int), 10) else ((at? l0 256).bind fun v33 => ((sub? l0 0 256).bind fun y35 => some (wi ((wi v33) + (wi (256 * (wi v22)))), y35, 0))))))))))))))
def colophonref05_Get.post (A0 : Option Addr) (c0 : Nat) (l0 : List Int) (w : World) (r : Int × (List Int) × Int) (v : Value) (w' : World) : Prop := ∃ (A1' : Option Addr) (c1' : Nat), v = .tuple #[.int .i64 r.1, .slice A1' r.2.1.length c1', .int .i64 r.2.2] ∧ SubT 1 A0 c0 l0 A1' c1' r.2.1 ∧ Sat w' (rf w) []
theorem colophonref05_Get.calls (w0 : World) (A0 : Option Addr) (c0 : Nat) (l0 : List Int) (R0 : rdS (r0 (.int .u8)) 1 (hp w0) A0 c0 l0) (r : Int × (List Int) × Int) (H : colophonref05_Get.f l0 = some r) :
    Calls Try.prog 28 #[.slice A0 l0.length c0] w0 (fun e w' => ∃ v, e = .returned v ∧ colophonref05_Get.post A0 c0 l0 w0 r v w') := by
  have hS : Sat w0 (rf w0) [] := Sat.start w0
  unfold colophonref05_Get.f at H
  refine calls_of_WC (vs := [.slice A0 l0.length c0]) Try.func28 (c := C28) (n := 46) (by kernel_rfl) (by kernel_rfl) (by kernel_rfl) ?_
  refine WC.seq (by kernel_rfl) ?_
  refine WC.reg [0, 1, 2] (by kernel_rfl) (by kernel_rfl) ?_
  refine WR.runk [0, 1, 2] [] [0] (L' := [(0, .slice A0 l0.length c0)]) (w' := w0) (by kernel_rfl) ?_
  refine WR.nil ?_
  refine At.go ?_
  refine WC.seq (by kernel_rfl) ?_
  refine WC.seq (by kernel_rfl) ?_
  refine WC.reg [0, 1, 2] (by kernel_rfl) (by kernel_rfl) ?_
  refine WR.runk [0, 1, 2] [] [0, 7] (L' := [(0, .slice A0 l0.length c0), (7, .bool (decide ((l0.length : Int) < 264)))]) (w' := w0) (by kernel_rfl) ?_
  refine WR.nil ?_
  refine At.go ?_
  refine WC.cond (by kernel_rfl) (decide ((l0.length : Int) < 264)) (by kernel_rfl) (by kernel_rfl) (fun hb1 => ?_) (fun hb1 => ?_)
  · replace H := ite_t H hb1
    refine WC.seq (by kernel_rfl) ?_
    refine WC.reg [0, 1, 2] (by kernel_rfl) (by kernel_rfl) ?_
    refine WR.runk [0, 1, 2] [] [2, 3, 4] (L' := [(2, .int .i64 0), (3, .slice none 0 0), (4, .int .i64 50)]) (w' := w0) (by kernel_rfl) ?_
    refine WR.nil ?_
    refine At.go ?_
    refine WC.ret (by kernel_rfl) ?_
    refine At.thenRet ?_
    obtain rfl := Option.some.inj H
    have hS : Sat w0 (rf w0) [] := hS.sel [] (by kernel_rfl)
    exact At.body [.int .i64 0, .slice none 0 0, .int .i64 50] (by kernel_rfl) ⟨_, rfl, _, _, rfl, (SubT.nil _ _ _ _), hS⟩
  · replace H := ite_f H hb1
    refine WC.skip (by kernel_rfl) ?_
    refine At.go ?_
    refine WC.seq (by kernel_rfl) ?_
    refine WC.seq (by kernel_rfl) ?_
    refine WC.reg [0, 1, 2] (by kernel_rfl) (by kernel_rfl) ?_
    refine WR.runk [0, 1, 2] [] [0, 10] (L' := [(0, .slice A0 l0.length c0), (10, .bool (decide ((l0.length : Int) > 264)))]) (w' := w0) (by kernel_rfl) ?_
    refine WR.nil ?_
    refine At.go ?_
    refine WC.cond (by kernel_rfl) (decide ((l0.length : Int) > 264)) (by kernel_rfl) (by kernel_rfl) (fun hb2 => ?_) (fun hb2 => ?_)
    · replace H := ite_t H hb2
      refine WC.seq (by kernel_rfl) ?_
      refine WC.reg [0, 1, 2] (by kernel_rfl) (by kernel_rfl) ?_
      refine WR.runk [0, 1, 2] [] [2, 3, 4] (L' := [(2, .int .i64 0), (3, .slice none 0 0), (4, .int .i64 51)]) (w' := w0) (by kernel_rfl) ?_
      refine WR.nil ?_
      refine At.go ?_
      refine WC.ret (by kernel_rfl) ?_
      refine At.thenRet ?_
      obtain rfl := Option.some.inj H
      have hS : Sat w0 (rf w0) [] := hS.sel [] (by kernel_rfl)
      exact At.body [.int .i64 0, .slice none 0 0, .int .i64 51] (by kernel_rfl) ⟨_, rfl, _, _, rfl, (SubT.nil _ _ _ _), hS⟩
    · replace H := ite_f H hb2
      refine WC.skip (by kernel_rfl) ?_
      refine At.go ?_
      refine WC.seq (by kernel_rfl) ?_
      refine WC.seq (by kernel_rfl) ?_
      refine WC.drawn (by kernel_rfl) (by kernel_rfl) 7 (by kernel_rfl) (fun w3 hw4 => ?_)
      have hS := hS.heap hw4.1 hw4.2
      refine WD.weaken [0] (L' := [(0, .slice A0 l0.length c0)]) (by kernel_rfl) ?_
      refine WD.pure (i := 0) (v := .slice A0 l0.length c0) (by kernel_rfl) (by kernel_rfl) (fun _ => by kernel_rfl) ?_
      refine WD.weaken [0, 11] (L' := [(0, .slice A0 l0.length c0), (11, .slice A0 l0.length c0)]) (by kernel_rfl) ?_
      obtain ⟨y5, e6, H⟩ := bind_ex H
      refine WD.ofP (i := 1) (by kernel_rfl) (PSt.sub (A := A0) (c := c0) (.tmp 11) none (some (.const (.int .i64 260))) none (by kernel_rfl) (by kernel_rfl) E22 (by kernel_rfl) (rdS.up R0 hS.sub0).1 e6 rfl (Exists.intro IntKind.i64 (by kernel_rfl)) trivial (fun A7 c8 T9 => ?_))
      refine WD.weaken [0, 12] (L' := [(0, .slice A0 l0.length c0), (12, .slice A7 y5.length c8)]) (by kernel_rfl) ?_
      refine WD.pure (i := 4) (v := .slice A0 l0.length c0) (by kernel_rfl) (by kernel_rfl) (fun _ => by kernel_rfl) ?_
      refine WD.weaken [0, 12, 15] (L' := [(0, .slice A0 l0.length c0), (12, .slice A7 y5.length c8), (15, .slice A0 l0.length c0)]) (by kernel_rfl) ?_
      refine WD.ofR (i := 5) (by kernel_rfl) (RSt.toStr (src := 22) (dst := 9) (e := 5) (.tmp 15) (by kernel_rfl) (by kernel_rfl) (by kernel_rfl) (by kernel_rfl) (by kernel_rfl) (by kernel_rfl) (rdS.up R0 hS.sub0) ?_)
      refine WD.weaken [0, 12, 16] (L' := [(0, .slice A0 l0.length c0), (12, .slice A7 y5.length c8), (16, .string (bs l0))]) (by kernel_rfl) ?_
      obtain ⟨r10, e11, H⟩ := bind_ex H
      refine WD.act (i := 2) (by kernel_rfl) (St.call (by kernel_rfl) (f := 9) (args := #[.slice A7 y5.length c8]) (by kernel_rfl) (colophonref04_Put.calls w3 A7 c8 y5 (T9.rd _ _ (rdS.up R0 hS.sub0)) r10 e11) ?_)
      rintro _ w17 ⟨A19, c20, rfl, hS18⟩
      have hS : Sat w17 (rf w0) [osl 5 (r0 (.int .u8)) 1 A19 c20 r10] := hS.ext hS18
      refine ⟨(asked.cons (RSt.run (n := 46) (RSt.toStr (src := 22) (dst := 9) (e := 5) (.tmp 15) (by kernel_rfl) (by kernel_rfl) (by kernel_rfl) (by kernel_rfl) (by kernel_rfl) (by kernel_rfl) (rdS.up R0 hS.sub0) rfl)) (asked.nil _ _)), ?_⟩
      refine WD.weaken [0, 13, 16] (L' := [(0, .slice A0 l0.length c0), (13, .slice A19 r10.length c20), (16, .string (bs l0))]) (by kernel_rfl) ?_
      refine WD.ofR (i := 3) (by kernel_rfl) (RSt.toStr (src := 22) (dst := 9) (e := 5) (.tmp 13) (by kernel_rfl) (by kernel_rfl) (by kernel_rfl) (by kernel_rfl) (by kernel_rfl) (by kernel_rfl) (Sat.rdAt 0 hS rfl) ?_)
      refine WD.weaken [0, 14, 16] (L' := [(0, .slice A0 l0.length c0), (14, .string (bs r10)), (16, .string (bs l0))]) (by kernel_rfl) ?_
      refine WD.pure (i := 6) (v := .bool (!((bs r10).toList == (bs l0).toList))) (by kernel_rfl) (by kernel_rfl) (fun _ => by kernel_rfl) ?_
      refine WD.weaken [0, 17] (L' := [(0, .slice A0 l0.length c0), (17, .bool (!((bs r10).toList == (bs l0).toList)))]) (by kernel_rfl) ?_
      refine WD.nil (by kernel_rfl) ?_
      refine At.go ?_
      refine WC.cond (by kernel_rfl) (!((bs r10).toList == (bs l0).toList)) (by kernel_rfl) (by kernel_rfl) (fun hb21 => ?_) (fun hb21 => ?_)
      · replace H := ite_t H hb21
        refine WC.seq (by kernel_rfl) ?_
        refine WC.reg [0, 1, 2] (by kernel_rfl) (by kernel_rfl) ?_
        refine WR.runk [0, 1, 2] [] [2, 3, 4] (L' := [(2, .int .i64 0), (3, .slice none 0 0), (4, .int .i64 40)]) (w' := w17) (by kernel_rfl) ?_
        refine WR.nil ?_
        refine At.go ?_
        refine WC.ret (by kernel_rfl) ?_
        refine At.thenRet ?_
        obtain rfl := Option.some.inj H
        have hS : Sat w17 (rf w0) [] := hS.sel [] (by kernel_rfl)
        exact At.body [.int .i64 0, .slice none 0 0, .int .i64 40] (by kernel_rfl) ⟨_, rfl, _, _, rfl, (SubT.nil _ _ _ _), hS⟩
      · replace H := ite_f H hb21
        refine WC.skip (by kernel_rfl) ?_
        refine At.go ?_
        refine WC.seq (by kernel_rfl) ?_
        refine WC.seq (by kernel_rfl) ?_
        refine WC.reg [0, 1, 2, 3, 4, 5, 6, 7, 8, 9, 10, 11, 12, 13, 14, 15] (by kernel_rfl) (by kernel_rfl) ?_
        refine WR.runk [0] [1, 2, 3, 4, 5, 6, 7, 8, 9, 10, 11, 12, 13, 14, 15] [0, 18] (L' := [(0, .slice A0 l0.length c0), (18, .slice A0 l0.length c0)]) (w' := w17) (by kernel_rfl) ?_
        obtain ⟨v22, e23, H⟩ := bind_ex H
        refine WR.st (St.ofP (PSt.idx (k := .i64) (.tmp 18) (.const (.int .i64 257)) (by kernel_rfl) (by kernel_rfl) E22 (by kernel_rfl) (by kernel_rfl) (rdS.up R0 hS.sub0) e23 ?_))
        refine WR.runk [] [2, 3, 4, 5, 6, 7, 8, 9, 10, 11, 12, 13, 14, 15] [0, 19] (L' := [(0, .slice A0 l0.length c0), (19, .pointer (some (adr A0 (257 : Int).toNat 1)))]) (w' := w17) (by kernel_rfl) ?_
        refine WR.st (St.ofR (RSt.loadInt (t := 5) (.tmp 19) (by kernel_rfl) (by kernel_rfl) (by kernel_rfl) (by kernel_rfl) (rdS.up R0 hS.sub0) e23 ?_))
        refine WR.runk [3, 4] [5, 6, 7, 8, 9, 10, 11, 12, 13, 14, 15] [0, 22] (L' := [(0, .slice A0 l0.length c0), (22, .bool (decide (v22 > 15)))]) (w' := w17) (by kernel_rfl) ?_
        refine WR.split 22 (b := decide (v22 > 15)) (by kernel_rfl) (fun hb24 => ?_) (fun hb24 => ?_)
        · replace H := ite_t H hb24
          refine WR.runk [5, 6, 7, 8, 9, 10, 11, 12, 13, 14, 15] [] [0, 33] (L' := [(0, .slice A0 l0.length c0), (33, .bool true)]) (w' := w17) (by kernel_rfl) ?_
          refine WR.nil ?_
          refine At.go ?_
          refine WC.condT (by kernel_rfl) (by kernel_rfl) (by kernel_rfl) ?_
          refine WC.seq (by kernel_rfl) ?_
          refine WC.reg [0, 1, 2] (by kernel_rfl) (by kernel_rfl) ?_
          refine WR.runk [0, 1, 2] [] [2, 3, 4] (L' := [(2, .int .i64 0), (3, .slice none 0 0), (4, .int .i64 10)]) (w' := w17) (by kernel_rfl) ?_
          refine WR.nil ?_
          refine At.go ?_
          refine WC.ret (by kernel_rfl) ?_
          refine At.thenRet ?_
          obtain rfl := Option.some.inj H
          have hS : Sat w17 (rf w0) [] := hS.sel [] (by kernel_rfl)
          exact At.body [.int .i64 0, .slice none 0 0, .int .i64 10] (by kernel_rfl) ⟨_, rfl, _, _, rfl, (SubT.nil _ _ _ _), hS⟩
        · replace H := ite_f H hb24
          refine WR.runk [5] [6, 7, 8, 9, 10, 11, 12, 13, 14, 15] [0, 22, 23] (L' := [(0, .slice A0 l0.length c0), (22, .bool false), (23, .slice A0 l0.length c0)]) (w' := w17) (by kernel_rfl) ?_
          obtain ⟨v25, e26, H⟩ := bind_ex H
          refine WR.st (St.ofP (PSt.idx (k := .i64) (.tmp 23) (.const (.int .i64 258)) (by kernel_rfl) (by kernel_rfl) E22 (by kernel_rfl) (by kernel_rfl) (rdS.up R0 hS.sub0) e26 ?_))
          refine WR.runk [] [7, 8, 9, 10, 11, 12, 13, 14, 15] [0, 22, 24] (L' := [(0, .slice A0 l0.length c0), (22, .bool false), (24, .pointer (some (adr A0 (258 : Int).toNat 1)))]) (w' := w17) (by kernel_rfl) ?_
          refine WR.st (St.ofR (RSt.loadInt (t := 5) (.tmp 24) (by kernel_rfl) (by kernel_rfl) (by kernel_rfl) (by kernel_rfl) (rdS.up R0 hS.sub0) e26 ?_))
          refine WR.runk [8, 9, 10] [11, 12, 13, 14, 15] [0, 28] (L' := [(0, .slice A0 l0.length c0), (28, .bool (decide (v25 > 0)))]) (w' := w17) (by kernel_rfl) ?_
          refine WR.split 28 (b := decide (v25 > 0)) (by kernel_rfl) (fun hb27 => ?_) (fun hb27 => ?_)
          · replace H := ite_t H hb27
            refine WR.runk [11, 12, 13, 14, 15] [] [0, 33] (L' := [(0, .slice A0 l0.length c0), (33, .bool true)]) (w' := w17) (by kernel_rfl) ?_
            refine WR.nil ?_
            refine At.go ?_
            refine WC.condT (by kernel_rfl) (by kernel_rfl) (by kernel_rfl) ?_
            refine WC.seq (by kernel_rfl) ?_
            refine WC.reg [0, 1, 2] (by kernel_rfl) (by kernel_rfl) ?_
            refine WR.runk [0, 1, 2] [] [2, 3, 4] (L' := [(2, .int .i64 0), (3, .slice none 0 0), (4, .int .i64 10)]) (w' := w17) (by kernel_rfl) ?_
            refine WR.nil ?_
            refine At.go ?_
            refine WC.ret (by kernel_rfl) ?_
            refine At.thenRet ?_
            obtain rfl := Option.some.inj H
            have hS : Sat w17 (rf w0) [] := hS.sel [] (by kernel_rfl)
            exact At.body [.int .i64 0, .slice none 0 0, .int .i64 10] (by kernel_rfl) ⟨_, rfl, _, _, rfl, (SubT.nil _ _ _ _), hS⟩
          · replace H := ite_f H hb27
            refine WR.runk [11] [12, 13, 14, 15] [0, 28, 29] (L' := [(0, .slice A0 l0.length c0), (28, .bool false), (29, .slice A0 l0.length c0)]) (w' := w17) (by kernel_rfl) ?_
            obtain ⟨v28, e29, H⟩ := bind_ex H
            refine WR.st (St.ofP (PSt.idx (k := .i64) (.tmp 29) (.const (.int .i64 259)) (by kernel_rfl) (by kernel_rfl) E22 (by kernel_rfl) (by kernel_rfl) (rdS.up R0 hS.sub0) e29 ?_))
            refine WR.runk [] [13, 14, 15] [0, 28, 30] (L' := [(0, .slice A0 l0.length c0), (28, .bool false), (30, .pointer (some (adr A0 (259 : Int).toNat 1)))]) (w' := w17) (by kernel_rfl) ?_
            refine WR.st (St.ofR (RSt.loadInt (t := 5) (.tmp 30) (by kernel_rfl) (by kernel_rfl) (by kernel_rfl) (by kernel_rfl) (rdS.up R0 hS.sub0) e29 ?_))
            refine WR.runk [14, 15] [] [0, 33] (L' := [(0, .slice A0 l0.length c0), (33, .bool (decide (v28 > 0)))]) (w' := w17) (by kernel_rfl) ?_
            refine WR.nil ?_
            refine At.go ?_
            refine WC.cond (by kernel_rfl) (decide (v28 > 0)) (by kernel_rfl) (by kernel_rfl) (fun hb30 => ?_) (fun hb30 => ?_)
            · replace H := ite_t H hb30
              refine WC.seq (by kernel_rfl) ?_
              refine WC.reg [0, 1, 2] (by kernel_rfl) (by kernel_rfl) ?_
              refine WR.runk [0, 1, 2] [] [2, 3, 4] (L' := [(2, .int .i64 0), (3, .slice none 0 0), (4, .int .i64 10)]) (w' := w17) (by kernel_rfl) ?_
              refine WR.nil ?_
              refine At.go ?_
              refine WC.ret (by kernel_rfl) ?_
              refine At.thenRet ?_
              obtain rfl := Option.some.inj H
              have hS : Sat w17 (rf w0) [] := hS.sel [] (by kernel_rfl)
              exact At.body [.int .i64 0, .slice none 0 0, .int .i64 10] (by kernel_rfl) ⟨_, rfl, _, _, rfl, (SubT.nil _ _ _ _), hS⟩
            · replace H := ite_f H hb30
              refine WC.skip (by kernel_rfl) ?_
              refine At.go ?_
              refine WC.seq (by kernel_rfl) ?_
              refine WC.drawn (by kernel_rfl) (by kernel_rfl) 15 (by kernel_rfl) (fun w31 hw32 => ?_)
              have hS := hS.heap hw32.1 hw32.2
              refine WD.weaken [0] (L' := [(0, .slice A0 l0.length c0)]) (by kernel_rfl) ?_
              refine WD.pure (i := 0) (v := .slice A0 l0.length c0) (by kernel_rfl) (by kernel_rfl) (fun _ => by kernel_rfl) ?_
              refine WD.weaken [0, 34] (L' := [(0, .slice A0 l0.length c0), (34, .slice A0 l0.length c0)]) (by kernel_rfl) ?_
              obtain ⟨v33, e34, H⟩ := bind_ex H
              refine WD.ofP (i := 1) (by kernel_rfl) (PSt.idx (k := .i64) (.tmp 34) (.const (.int .i64 256)) (by kernel_rfl) (by kernel_rfl) E22 (by kernel_rfl) (by kernel_rfl) (rdS.up R0 hS.sub0) e34 ?_)
              refine WD.weaken [0, 35] (L' := [(0, .slice A0 l0.length c0), (35, .pointer (some (adr A0 (256 : Int).toNat 1)))]) (by kernel_rfl) ?_
              refine WD.ofR (i := 2) (by kernel_rfl) (RSt.loadInt (t := 5) (.tmp 35) (by kernel_rfl) (by kernel_rfl) (by kernel_rfl) (by kernel_rfl) (rdS.up R0 hS.sub0) e34 ?_)
              refine WD.weaken [0, 36] (L' := [(0, .slice A0 l0.length c0), (36, .int .u8 v33)]) (by kernel_rfl) ?_
              refine WD.pure (i := 3) (v := .int .i64 (wi v33)) (by kernel_rfl) (by kernel_rfl) (fun _ => by kernel_rfl) ?_
              refine WD.weaken [0, 37] (L' := [(0, .slice A0 l0.length c0), (37, .int .i64 (wi v33))]) (by kernel_rfl) ?_
              refine WD.pure (i := 4) (v := .slice A0 l0.length c0) (by kernel_rfl) (by kernel_rfl) (fun _ => by kernel_rfl) ?_
              refine WD.weaken [0, 37, 38] (L' := [(0, .slice A0 l0.length c0), (37, .int .i64 (wi v33)), (38, .slice A0 l0.length c0)]) (by kernel_rfl) ?_
              refine WD.ofP (i := 5) (by kernel_rfl) (PSt.idx (k := .i64) (.tmp 38) (.const (.int .i64 257)) (by kernel_rfl) (by kernel_rfl) E22 (by kernel_rfl) (by kernel_rfl) (rdS.up R0 hS.sub0) e23 ?_)
              refine WD.weaken [0, 37, 39] (L' := [(0, .slice A0 l0.length c0), (37, .int .i64 (wi v33)), (39, .pointer (some (adr A0 (257 : Int).toNat 1)))]) (by kernel_rfl) ?_
              refine WD.ofR (i := 6) (by kernel_rfl) (RSt.loadInt (t := 5) (.tmp 39) (by kernel_rfl) (by kernel_rfl) (by kernel_rfl) (by kernel_rfl) (rdS.up R0 hS.sub0) e23 ?_)
              refine WD.weaken [0, 37, 40] (L' := [(0, .slice A0 l0.length c0), (37, .int .i64 (wi v33)), (40, .int .u8 v22)]) (by kernel_rfl) ?_
              refine WD.pure (i := 7) (v := .int .i64 (wi v22)) (by kernel_rfl) (by kernel_rfl) (fun _ => by kernel_rfl) ?_
              refine WD.weaken [0, 37, 41] (L' := [(0, .slice A0 l0.length c0), (37, .int .i64 (wi v33)), (41, .int .i64 (wi v22))]) (by kernel_rfl) ?_
              refine WD.pure (i := 8) (v := .int .i64 (wi (256 * (wi v22)))) (by kernel_rfl) (by kernel_rfl) (fun _ => by kernel_rfl) ?_
              refine WD.weaken [0, 37, 42] (L' := [(0, .slice A0 l0.length c0), (37, .int .i64 (wi v33)), (42, .int .i64 (wi (256 * (wi v22))))]) (by kernel_rfl) ?_
              refine WD.pure (i := 9) (v := .int .i64 (wi ((wi v33) + (wi (256 * (wi v22)))))) (by kernel_rfl) (by kernel_rfl) (fun _ => by kernel_rfl) ?_
              refine WD.weaken [0, 43] (L' := [(0, .slice A0 l0.length c0), (43, .int .i64 (wi ((wi v33) + (wi (256 * (wi v22))))))]) (by kernel_rfl) ?_
              refine WD.pure (i := 10) (v := .slice A0 l0.length c0) (by kernel_rfl) (by kernel_rfl) (fun _ => by kernel_rfl) ?_
              refine WD.weaken [43, 44] (L' := [(43, .int .i64 (wi ((wi v33) + (wi (256 * (wi v22)))))), (44, .slice A0 l0.length c0)]) (by kernel_rfl) ?_
              obtain ⟨y35, e36, H⟩ := bind_ex H
              refine WD.ofP (i := 11) (by kernel_rfl) (PSt.sub (A := A0) (c := c0) (.tmp 44) none (some (.const (.int .i64 256))) none (by kernel_rfl) (by kernel_rfl) E22 (by kernel_rfl) (rdS.up R0 hS.sub0).1 e36 rfl (Exists.intro IntKind.i64 (by kernel_rfl)) trivial (fun A37 c38 T39 => ?_))
              refine WD.weaken [43, 45] (L' := [(43, .int .i64 (wi ((wi v33) + (wi (256 * (wi v22)))))), (45, .slice A37 y35.length c38)]) (by kernel_rfl) ?_
              refine WD.pure (i := 12) (v := .int .i64 (wi ((wi v33) + (wi (256 * (wi v22)))))) (by kernel_rfl) (by kernel_rfl) (fun _ => by kernel_rfl) ?_
              refine WD.weaken [2, 45] (L' := [(2, .int .i64 (wi ((wi v33) + (wi (256 * (wi v22)))))), (45, .slice A37 y35.length c38)]) (by kernel_rfl) ?_
              refine WD.pure (i := 13) (v := .slice A37 y35.length c38) (by kernel_rfl) (by kernel_rfl) (fun _ => by kernel_rfl) ?_
              refine WD.weaken [2, 3] (L' := [(2, .int .i64 (wi ((wi v33) + (wi (256 * (wi v22)))))), (3, .slice A37 y35.length c38)]) (by kernel_rfl) ?_
              refine WD.pure (i := 14) (v := .int .i64 0) (by kernel_rfl) (by kernel_rfl) (fun _ => by kernel_rfl) ?_
              refine WD.weaken [2, 3, 4] (L' := [(2, .int .i64 (wi ((wi v33) + (wi (256 * (wi v22)))))), (3, .slice A37 y35.length c38), (4, .int .i64 0)]) (by kernel_rfl) ?_
              refine WD.nil (by kernel_rfl) ?_
              refine At.go ?_
              refine WC.ret (by kernel_rfl) ?_
              obtain rfl := Option.some.inj H
              have hS : Sat w31 (rf w0) [] := hS.sel [] (by kernel_rfl)
              exact At.body [.int .i64 (wi ((wi v33) + (wi (256 * (wi v22))))), .slice A37 y35.length c38, .int .i64 0] (by kernel_rfl) ⟨_, rfl, _, _, rfl, (SubT.trans (SubT.refl _ _ _ _) T39), hS⟩
/-! ### 33 colophon/colophonref05.Put -/
def colophonref05_Put.l1 (l1 : List Int) : Nat → (List Int) → Option (List Int)
  | 0, _ => none
  | k + 1, x6_l1 => (if decide ((x6_l1.length : Int) < 256) then ((app? 140737488355328 x6_l1 ([0] : List Int)).bind fun y15 => colophonref05_Put.l1 l1 k y15) else some x6_l1)
def colophonref05_Put.f (a0 : Int) (l1 : List Int) : Option ((List Int) × Int) := (if decide (a0 < 0) then some (([] : List Int), 2) else (if decide (a0 > 4095) then some (([] : List Int), 2) else (if decide ((l1.length : Int) > 256) then some (([] : List Int), 80) else ((app? 140737488355328 (([] : List Int) : List Int) l1).bind fun y7 => ((colophonref05_Put.l1 l1 FU y7).bind fun o19 => ((app? 140737488355328 o19 ([IntKind.wrap .u8 (Int.tmod a0 256), IntKind.wrap .u8 (wi (Int.tdiv a0 256)), 0, 0] : List Int)).bind fun y27 => ((colophonref04_Put.f y27).bind fun r31 => some (r31, 0))))))))
def colophonref05_Put.post (w : World) (r : (List Int) × Int) (v : Value) (w' : World) : Prop := ∃ (A0' : Option Addr) (c0' : Nat), v = .tuple #[.slice A0' r.1.length c0', .int .i64 r.2] ∧ Sat w' (rf w) [osl 5 (r0 (.int .u8)) 1 A0' c0' r.1]
theorem colophonref05_Put.l1_ok {Q} (w0 : World) (a0 : Int) (l1 : List Int) (out : (List Int)) (hn0 : ∀ (A6_q : Option Addr) (c6_q : Nat) (w : World), Sat w (rf w0) [osl 5 (r0 (.int .u8)) 1 A6_q c6_q out] → At Q (.exit 0) 35 [(0, .int .i64 a0), (6, .slice A6_q out.length c6_q)] w) :
    ∀ (k : Nat) (x6_l1 : List Int) (A6_l1 : Option Addr) (c6_l1 : Nat) (w : World), Sat w (rf w0) [osl 5 (r0 (.int .u8)) 1 A6_l1 c6_l1 x6_l1] → colophonref05_Put.l1 l1 k x6_l1 = some out → WL Try.prog (cbody (cbody (cl (cr (cr (cr (cr C33))))))) Q 35 [(0, .int .i64 a0), (6, .slice A6_l1 x6_l1.length c6_l1)] w := by
  intro k
  induction k with
  | zero => intro x6_l1 A6_l1 c6_l1 w hS H; exact absurd (show none = some out from H) (by simp)
  | succ k ih =>
    intro x6_l1 A6_l1 c6_l1 w hS H
    unfold colophonref05_Put.l1 at H
    refine WL.round ?_
    refine WC.seq (by kernel_rfl) ?_
    refine WC.seq (by kernel_rfl) ?_
    refine WC.reg [0, 1, 2] (by kernel_rfl) (by kernel_rfl) ?_
    refine WR.runk [0, 1, 2] [] [0, 6, 21] (L' := [(0, .int .i64 a0), (6, .slice A6_l1 x6_l1.length c6_l1), (21, .bool (decide ((x6_l1.length : Int) < 256)))]) (w' := w) (by kernel_rfl) ?_
    refine WR.nil ?_
    refine At.go ?_
    refine WC.cond (by kernel_rfl) (decide ((x6_l1.length : Int) < 256)) (by kernel_rfl) (by kernel_rfl) (fun hb11 => ?_) (fun hb11 => ?_)
    · replace H := ite_t H hb11
      refine WC.skip (by kernel_rfl) ?_
      refine At.go ?_
      refine WC.block (by kernel_rfl) ?_
      refine WC.reg [0, 1, 2, 3] (by kernel_rfl) (by kernel_rfl) ?_
      refine WR.runk [0] [1, 2, 3] [0, 6, 22] (L' := [(0, .int .i64 a0), (6, .slice A6_l1 x6_l1.length c6_l1), (22, .slice A6_l1 x6_l1.length c6_l1)]) (w' := w) (by kernel_rfl) ?_
      refine WR.st (St.box hS (by kernel_rfl) (.cells #[.int .u8 0] 5) (fun b12 => .slice (some ⟨b12, 0, none⟩) 1 1) (fun _ => by kernel_rfl) (fun b12 w13 hS => ?_))
      refine WR.runk [] [2, 3] [0, 6, 22, 23] (L' := [(0, .int .i64 a0), (6, .slice A6_l1 x6_l1.length c6_l1), (22, .slice A6_l1 x6_l1.length c6_l1), (23, .slice (some ⟨b12, 0, none⟩) 1 1)]) (w' := w13) (by kernel_rfl) ?_
      have hS : Sat w13 (rf w0) [osl 5 (r0 (.int .u8)) 1 A6_l1 c6_l1 x6_l1, pts b12 (.cells #[.int .u8 0] 5 (0, 0))] := hS.sel [1, 0] (by kernel_rfl)
      obtain ⟨y15, e14, H⟩ := bind_ex H
      refine WR.st (St.append' (.tmp 22) (.tmp 23) (by kernel_rfl) (by kernel_rfl) E22 (r0_one _) hS (by kernel_rfl) (by kernel_rfl) (Sat.ptsAt 1 (r0 (.int .u8)) 1 ([0] : List Int) hS rfl rfl (rdL.cons1 rfl (rdL.nil _ _))) 140737488355328 (by kernel_rfl) (by kernel_rfl) e14 (fun A16 c17 w18 hS => ?_))
      refine WR.runk [3] [] [0, 6] (L' := [(0, .int .i64 a0), (6, .slice A16 y15.length c17)]) (w' := w18) (by kernel_rfl) ?_
      refine WR.nil ?_
      refine At.blockNormal ?_
      have hS : Sat w18 (rf w0) [osl 5 (r0 (.int .u8)) 1 A16 c17 y15] := hS.sel [0] (by kernel_rfl)
      refine At.again ?_
      refine WL.weaken [0, 6] (L' := [(0, .int .i64 a0), (6, .slice A16 y15.length c17)]) (by kernel_rfl) ?_
      exact ih y15 A16 c17 _ hS H
    · replace H := ite_f H hb11
      refine WC.exit (by kernel_rfl) ?_
      refine At.thenExit ?_
      refine At.thenExit ?_
      obtain rfl := Option.some.inj H
      have hS : Sat w (rf w0) [osl 5 (r0 (.int .u8)) 1 A6_l1 c6_l1 x6_l1] := hS.sel [0] (by kernel_rfl)
      refine At.weaken [0, 6] (L' := [(0, .int .i64 a0), (6, .slice A6_l1 x6_l1.length c6_l1)]) (by kernel_rfl) ?_
      exact hn0 A6_l1 c6_l1 _ hS
theorem colophonref05_Put.calls (w0 : World) (a0 : Int) (A1 : Option Addr) (c1 : Nat) (l1 : List Int) (R1 : rdS (r0 (.int .u8)) 1 (hp w0) A1 c1 l1) (r : (List Int) × Int) (H : colophonref05_Put.f a0 l1 = some r) :
    Calls Try.prog 33 #[.int .i64 a0, .slice A1 l1.length c1] w0 (fun e w' => ∃ v, e = .returned v ∧ colophonref05_Put.post w0 r v w') := by
  have hS : Sat w0 (rf w0) [] := Sat.start w0
  unfold colophonref05_Put.f at H
  refine calls_of_WC (vs := [.int .i64 a0, .slice A1 l1.length c1]) Try.func33 (c := C33) (n := 35) (by kernel_rfl) (by kernel_rfl) (by kernel_rfl) ?_
  refine WC.seq (by kernel_rfl) ?_
  refine WC.reg [0, 1] (by kernel_rfl) (by kernel_rfl) ?_
  refine WR.runk [0, 1] [] [0, 1] (L' := [(0, .int .i64 a0), (1, .slice A1 l1.length c1)]) (w' := w0) (by kernel_rfl) ?_
  refine WR.nil ?_
  refine At.go ?_
  refine WC.seq (by kernel_rfl) ?_
  refine WC.seq (by kernel_rfl) ?_
  refine WC.reg [0, 1, 2, 3, 4, 5] (by kernel_rfl) (by kernel_rfl) ?_
  refine WR.runk [0, 1, 2] [3, 4, 5] [0, 1, 9] (L' := [(0, .int .i64 a0), (1, .slice A1 l1.length c1), (9, .bool (decide (a0 < 0)))]) (w' := w0) (by kernel_rfl) ?_
  refine WR.split 9 (b := decide (a0 < 0)) (by kernel_rfl) (fun hb1 => ?_) (fun hb1 => ?_)
  · replace H := ite_t H hb1
    refine WR.runk [3, 4, 5] [] [0, 1, 12] (L' := [(0, .int .i64 a0), (1, .slice A1 l1.length c1), (12, .bool true)]) (w' := w0) (by kernel_rfl) ?_
    refine WR.nil ?_
    refine At.go ?_
    refine WC.condT (by kernel_rfl) (by kernel_rfl) (by kernel_rfl) ?_
    refine WC.seq (by kernel_rfl) ?_
    refine WC.reg [0, 1] (by kernel_rfl) (by kernel_rfl) ?_
    refine WR.runk [0, 1] [] [4, 5] (L' := [(4, .slice none 0 0), (5, .int .i64 2)]) (w' := w0) (by kernel_rfl) ?_
    refine WR.nil ?_
    refine At.go ?_
    refine WC.ret (by kernel_rfl) ?_
    refine At.thenRet ?_
    obtain rfl := Option.some.inj H
    have hS := hS.addNil (α := Int) 5 (r0 (.int .u8)) 1
    have hS : Sat w0 (rf w0) [osl 5 (r0 (.int .u8)) 1 none 0 ([] : List Int)] := hS.sel [0] (by kernel_rfl)
    exact At.body [.slice none 0 0, .int .i64 2] (by kernel_rfl) ⟨_, rfl, _, _, rfl, hS⟩
  · replace H := ite_f H hb1
    refine WR.runk [3, 4, 5] [] [0, 1, 12] (L' := [(0, .int .i64 a0), (1, .slice A1 l1.length c1), (12, .bool (decide (a0 > 4095)))]) (w' := w0) (by kernel_rfl) ?_
    refine WR.nil ?_
    refine At.go ?_
    refine WC.cond (by kernel_rfl) (decide (a0 > 4095)) (by kernel_rfl) (by kernel_rfl) (fun hb2 => ?_) (fun hb2 => ?_)
    · replace H := ite_t H hb2
      refine WC.seq (by kernel_rfl) ?_
      refine WC.reg [0, 1] (by kernel_rfl) (by kernel_rfl) ?_
      refine WR.runk [0, 1] [] [4, 5] (L' := [(4, .slice none 0 0), (5, .int .i64 2)]) (w' := w0) (by kernel_rfl) ?_
      refine WR.nil ?_
      refine At.go ?_
      refine WC.ret (by kernel_rfl) ?_
      refine At.thenRet ?_
      obtain rfl := Option.some.inj H
      have hS := hS.addNil (α := Int) 5 (r0 (.int .u8)) 1
      have hS : Sat w0 (rf w0) [osl 5 (r0 (.int .u8)) 1 none 0 ([] : List Int)] := hS.sel [0] (by kernel_rfl)
      exact At.body [.slice none 0 0, .int .i64 2] (by kernel_rfl) ⟨_, rfl, _, _, rfl, hS⟩
    · replace H := ite_f H hb2
      refine WC.skip (by kernel_rfl) ?_
      refine At.go ?_
      refine WC.seq (by kernel_rfl) ?_
      refine WC.seq (by kernel_rfl) ?_
      refine WC.reg [0, 1, 2] (by kernel_rfl) (by kernel_rfl) ?_
      refine WR.runk [0, 1, 2] [] [0, 1, 15] (L' := [(0, .int .i64 a0), (1, .slice A1 l1.length c1), (15, .bool (decide ((l1.length : Int) > 256)))]) (w' := w0) (by kernel_rfl) ?_
      refine WR.nil ?_
      refine At.go ?_
      refine WC.cond (by kernel_rfl) (decide ((l1.length : Int) > 256)) (by kernel_rfl) (by kernel_rfl) (fun hb3 => ?_) (fun hb3 => ?_)
      · replace H := ite_t H hb3
        refine WC.seq (by kernel_rfl) ?_
        refine WC.reg [0, 1] (by kernel_rfl) (by kernel_rfl) ?_
        refine WR.runk [0, 1] [] [4, 5] (L' := [(4, .slice none 0 0), (5, .int .i64 80)]) (w' := w0) (by kernel_rfl) ?_
        refine WR.nil ?_
        refine At.go ?_
        refine WC.ret (by kernel_rfl) ?_
        refine At.thenRet ?_
        obtain rfl := Option.some.inj H
        have hS := hS.addNil (α := Int) 5 (r0 (.int .u8)) 1
        have hS : Sat w0 (rf w0) [osl 5 (r0 (.int .u8)) 1 none 0 ([] : List Int)] := hS.sel [0] (by kernel_rfl)
        exact At.body [.slice none 0 0, .int .i64 80] (by kernel_rfl) ⟨_, rfl, _, _, rfl, hS⟩
      · replace H := ite_f H hb3
        refine WC.skip (by kernel_rfl) ?_
        refine At.go ?_
        refine WC.seq (by kernel_rfl) ?_
        refine WC.reg [0, 1, 2, 3] (by kernel_rfl) (by kernel_rfl) ?_
        refine WR.runk [] [0, 1, 2, 3] [0, 1] (L' := [(0, .int .i64 a0), (1, .slice A1 l1.length c1)]) (w' := w0) (by kernel_rfl) ?_
        refine WR.st (St.box hS (by kernel_rfl) (.cells #[] 5) (fun b4 => .slice (some ⟨b4, 0, none⟩) 0 0) (fun _ => by kernel_rfl) (fun b4 w5 hS => ?_))
        refine WR.runk [1] [2, 3] [0, 16, 17] (L' := [(0, .int .i64 a0), (16, .slice (some ⟨b4, 0, none⟩) 0 0), (17, .slice A1 l1.length c1)]) (w' := w5) (by kernel_rfl) ?_
        have hS : Sat w5 (rf w0) [osl 5 (r0 (.int .u8)) 1 (some ⟨b4, 0, none⟩) (([] : List Int) : List Int).length (([] : List Int) : List Int)] := Sat.toOsl' (r0 (.int .u8)) 1 (([] : List Int) : List Int) hS rfl (rdL.nil _ _)
        obtain ⟨y7, e6, H⟩ := bind_ex H
        refine WR.st (St.append' (.tmp 16) (.tmp 17) (by kernel_rfl) (by kernel_rfl) E22 (r0_one _) hS (by kernel_rfl) (by kernel_rfl) (rdS.up R1 hS.sub0) 140737488355328 (by kernel_rfl) (by kernel_rfl) e6 (fun A8 c9 w10 hS => ?_))
        refine WR.runk [3] [] [0, 6] (L' := [(0, .int .i64 a0), (6, .slice A8 y7.length c9)]) (w' := w10) (by kernel_rfl) ?_
        refine WR.nil ?_
        refine At.go ?_
        refine WC.seq (by kernel_rfl) ?_
        refine WC.block (by kernel_rfl) ?_
        have hS : Sat w10 (rf w0) [osl 5 (r0 (.int .u8)) 1 A8 c9 y7] := hS.sel [0] (by kernel_rfl)
        obtain ⟨o19, e20, H⟩ := bind_ex H
        refine WC.loop (by kernel_rfl) ?_
        refine WL.weaken [0, 6] (L' := [(0, .int .i64 a0), (6, .slice A8 y7.length c9)]) (by kernel_rfl) ?_
        refine colophonref05_Put.l1_ok w0 a0 l1 o19 (fun A6_q21 c6_q21 w22 hS => ?_) FU y7 A8 c9 _ hS e20
        refine At.hit ?_
        refine At.go ?_
        refine WC.seq (by kernel_rfl) ?_
        refine WC.reg [0, 1, 2, 3, 4, 5, 6, 7, 8, 9, 10, 11] (by kernel_rfl) (by kernel_rfl) ?_
        refine WR.runk [0, 1, 2, 3, 4, 5, 6] [7, 8, 9, 10, 11] [25, 28, 31] (L' := [(25, .slice A6_q21 o19.length c6_q21), (28, .int .u8 (IntKind.wrap .u8 (Int.tmod a0 256))), (31, .int .u8 (IntKind.wrap .u8 (wi (Int.tdiv a0 256))))]) (w' := w22) (by kernel_rfl) ?_
        refine WR.st (St.box hS (by kernel_rfl) (.cells #[.int .u8 (IntKind.wrap .u8 (Int.tmod a0 256)), .int .u8 (IntKind.wrap .u8 (wi (Int.tdiv a0 256))), .int .u8 0, .int .u8 0] 5) (fun b24 => .slice (some ⟨b24, 0, none⟩) 4 4) (fun _ => by kernel_rfl) (fun b24 w25 hS => ?_))
        refine WR.runk [] [8, 9, 10, 11] [25, 32] (L' := [(25, .slice A6_q21 o19.length c6_q21), (32, .slice (some ⟨b24, 0, none⟩) 4 4)]) (w' := w25) (by kernel_rfl) ?_
        have hS : Sat w25 (rf w0) [osl 5 (r0 (.int .u8)) 1 A6_q21 c6_q21 o19, pts b24 (.cells #[.int .u8 (IntKind.wrap .u8 (Int.tmod a0 256)), .int .u8 (IntKind.wrap .u8 (wi (Int.tdiv a0 256))), .int .u8 0, .int .u8 0] 5 (0, 0))] := hS.sel [1, 0] (by kernel_rfl)
        obtain ⟨y27, e26, H⟩ := bind_ex H
        refine WR.st (St.append' (.tmp 25) (.tmp 32) (by kernel_rfl) (by kernel_rfl) E22 (r0_one _) hS (by kernel_rfl) (by kernel_rfl) (Sat.ptsAt 1 (r0 (.int .u8)) 1 ([IntKind.wrap .u8 (Int.tmod a0 256), IntKind.wrap .u8 (wi (Int.tdiv a0 256)), 0, 0] : List Int) hS rfl rfl (rdL.cons1 rfl (rdL.cons1 rfl (rdL.cons1 rfl (rdL.cons1 rfl (rdL.nil _ _)))))) 140737488355328 (by kernel_rfl) (by kernel_rfl) e26 (fun A28 c29 w30 hS => ?_))
        refine WR.runk [] [9, 10, 11] [33] (L' := [(33, .slice A28 y27.length c29)]) (w' := w30) (by kernel_rfl) ?_
        obtain ⟨r31, e32, H⟩ := bind_ex H
        refine WR.st (St.call (by kernel_rfl) (f := 9) (args := #[.slice A28 y27.length c29]) (by kernel_rfl) (colophonref04_Put.calls w30 A28 c29 y27 (Sat.rdAt 0 hS rfl) r31 e32) ?_)
        rintro _ w38 ⟨A40, c41, rfl, hS39⟩
        have hS : Sat w38 (rf w0) [osl 5 (r0 (.int .u8)) 1 A40 c41 r31, osl 5 (r0 (.int .u8)) 1 A28 c29 y27, pts b24 (.cells #[.int .u8 (IntKind.wrap .u8 (Int.tmod a0 256)), .int .u8 (IntKind.wrap .u8 (wi (Int.tdiv a0 256))), .int .u8 0, .int .u8 0] 5 (0, 0))] := hS.ext hS39
        refine WR.runk [10, 11] [] [4, 5] (L' := [(4, .slice A40 r31.length c41), (5, .int .i64 0)]) (w' := w38) (by kernel_rfl) ?_
        refine WR.nil ?_
        refine At.go ?_
        refine WC.ret (by kernel_rfl) ?_
        obtain rfl := Option.some.inj H
        have hS : Sat w38 (rf w0) [osl 5 (r0 (.int .u8)) 1 A40 c41 r31] := hS.sel [0] (by kernel_rfl)
        exact At.body [.slice A40 r31.length c41, .int .i64 0] (by kernel_rfl) ⟨_, rfl, _, _, rfl, hS⟩
/-! ### 20 colophon/colophonref06.Build -/
def colophonref06_Build.l2 : Nat → (List Int) → Int → Int → Option (List Int)
  | 0, _, _, _ => none
  | k + 1, x4_l2, x8_l2, x9_l2 => (if decide (x9_l2 < 4) then ((app? 140737488355328 x4_l2 ([IntKind.wrap .u8 (Int.tmod x8_l2 256)] : List Int)).bind fun y14 => colophonref06_Build.l2 k y14 (wi (Int.tdiv x8_l2 256)) (wi (x9_l2 + 1))) else some x4_l2)
def colophonref06_Build.l1 (l0 : List (List Int)) : Nat → (List Int) → Int → Int → Option (Sum ((List Int) × Int) (List Int))
  | 0, _, _, _ => none
  | k + 1, x4_l1, x5_l1, x27_l1 => (if decide (x27_l1 < (l0.length : Int)) then ((at? l0 x27_l1).bind fun v5 => ((colophonref06_Build.l2 FU x4_l1 (v5.length : Int) 0).bind fun o18 => (if decide (Int.tmod (v5.length : Int) 256 > 0) then (if decide (wi ((wi (x5_l1 + (wi (Int.tdiv (v5.length : Int) 256)))) + 1) > 4096) then some (.inl (([] : List Int), 80)) else colophonref06_Build.l1 l0 k o18 (wi ((wi (x5_l1 + (wi (Int.tdiv (v5.length : Int) 256)))) + 1)) (wi (x27_l1 + 1))) else (if decide (wi (x5_l1 + (wi (Int.tdiv (v5.length : Int) 256))) > 4096) then some (.inl (([] : List Int), 80)) else colophonref06_Build.l1 l0 k o18 (wi (x5_l1 + (wi (Int.tdiv (v5.length : Int) 256)))) (wi (x27_l1 + 1)))))) else some (.inr x4_l1))
def colophonref06_Build.l4 (v48 : List Int) : Nat → (List Int) → Int → Int → Option ((List Int) × Int)
  | 0, _, _, _ => none
  | k + 1, x10_l4, x12_l4, x15_l4 => (if decide (x15_l4 < (v48.length : Int)) then ((sub? v48 x15_l4 (imin (wi (x15_l4 + 256)) (v48.length : Int))).bind fun y54 => ((colophonref05_Put.f x12_l4 y54).bind fun r59 => ((app? 140737488355328 x10_l4 r59.1).bind fun y71 => colophonref06_Build.l4 v48 k y71 (wi (x12_l4 + 1)) (wi (x15_l4 + 256))))) else some (x10_l4, x12_l4))
def colophonref06_Build.l3 (l0 : List (List Int)) : Nat → (List Int) → Int → Int → Option (List Int)
  | 0, _, _, _ => none
  | k + 1, x10_l3, x12_l3, x66_l3 => (if decide (x66_l3 < (l0.length : Int)) then ((at? l0 x66_l3).bind fun v48 => ((colophonref06_Build.l4 v48 FU x10_l3 x12_l3 0).bind fun o75 => colophonref06_Build.l3 l0 k o75.1 o75.2 (wi (x66_l3 + 1)))) else some x10_l3)
def colophonref06_Build.f (l0 : List (List Int)) : Option ((List Int) × Int) := (if decide ((l0.length : Int) > 60) then some (([] : List Int), 80) else ((colophonref06_Build.l1 l0 FU ([99, 111, 108, 111, IntKind.wrap .u8 (l0.length : Int), 0] : List Int) 1 0).bind fun o26 => (match o26 with | .inl o28 => some (o28.1, o28.2) | .inr o32 => ((colophonref05_Put.f 0 o32).bind fun r36 => ((colophonref06_Build.l3 l0 FU r36.1 1 0).bind fun o80 => some (o80, 0))))))
def colophonref06_Build.post (w : World) (r : (List Int) × Int) (v : Value) (w' : World) : Prop := ∃ (A0' : Option Addr) (c0' : Nat), v = .tuple #[.slice A0' r.1.length c0', .int .i64 r.2] ∧ Sat w' (rf w) [osl 5 (r0 (.int .u8)) 1 A0' c0' r.1]
theorem colophonref06_Build.l2_ok {Q} (w0 : World) (A0 : Option Addr) (c0 : Nat) (l0 : List (List Int)) (x5_l1 : Int) (x27_l1 : Int) (v5 : List Int) (A7 : Option Addr) (c8 : Nat) (out : (List Int)) (hn0 : ∀ (A4_q : Option Addr) (c4_q : Nat) (w : World), Sat w (rf w0) [osl 5 (r0 (.int .u8)) 1 A4_q c4_q out] → At Q (.exit 2) 96 [(0, .slice A0 l0.length c0), (4, .slice A4_q out.length c4_q), (5, .int .i64 x5_l1), (7, .slice A7 v5.length c8), (25, .slice A0 l0.length c0), (26, .int .i64 (l0.length : Int)), (27, .int .i64 x27_l1)] w) :
    ∀ (k : Nat) (x4_l2 : List Int) (x8_l2 : Int) (x9_l2 : Int) (A4_l2 : Option Addr) (c4_l2 : Nat) (w : World), Sat w (rf w0) [osl 5 (r0 (.int .u8)) 1 A4_l2 c4_l2 x4_l2] → colophonref06_Build.l2 k x4_l2 x8_l2 x9_l2 = some out → WL Try.prog (cbody (cbody (cr (cl (cr (cr (cbody (cl (cr (cr (cbody (cbody (cr (cl (cr (cr (cr (cr C20)))))))))))))))))) Q 96 [(0, .slice A0 l0.length c0), (4, .slice A4_l2 x4_l2.length c4_l2), (5, .int .i64 x5_l1), (7, .slice A7 v5.length c8), (8, .int .i64 x8_l2), (9, .int .i64 x9_l2), (25, .slice A0 l0.length c0), (26, .int .i64 (l0.length : Int)), (27, .int .i64 x27_l1)] w := by
  intro k
  induction k with
  | zero => intro x4_l2 x8_l2 x9_l2 A4_l2 c4_l2 w hS H; exact absurd (show none = some out from H) (by simp)
  | succ k ih =>
    intro x4_l2 x8_l2 x9_l2 A4_l2 c4_l2 w hS H
    unfold colophonref06_Build.l2 at H
    refine WL.round ?_
    refine WC.seq (by kernel_rfl) ?_
    refine WC.seq (by kernel_rfl) ?_
    refine WC.reg [0, 1] (by kernel_rfl) (by kernel_rfl) ?_
    refine WR.runk [0, 1] [] [0, 4, 5, 7, 8, 9, 25, 26, 27, 34] (L' := [(0, .slice A0 l0.length c0), (4, .slice A4_l2 x4_l2.length c4_l2), (5, .int .i64 x5_l1), (7, .slice A7 v5.length c8), (8, .int .i64 x8_l2), (9, .int .i64 x9_l2), (25, .slice A0 l0.length c0), (26, .int .i64 (l0.length : Int)), (27, .int .i64 x27_l1), (34, .bool (decide (x9_l2 < 4)))]) (w' := w) (by kernel_rfl) ?_
    refine WR.nil ?_
    refine At.go ?_
    refine WC.cond (by kernel_rfl) (decide (x9_l2 < 4)) (by kernel_rfl) (by kernel_rfl) (fun hb10 => ?_) (fun hb10 => ?_)
    · replace H := ite_t H hb10
      refine WC.skip (by kernel_rfl) ?_
      refine At.go ?_
      refine WC.seq (by kernel_rfl) ?_
      refine WC.block (by kernel_rfl) ?_
      refine WC.seq (by kernel_rfl) ?_
      refine WC.reg [0, 1, 2, 3, 4, 5, 6] (by kernel_rfl) (by kernel_rfl) ?_
      refine WR.runk [0, 1, 2, 3] [4, 5, 6] [0, 4, 5, 7, 8, 9, 25, 26, 27, 37, 40] (L' := [(0, .slice A0 l0.length c0), (4, .slice A4_l2 x4_l2.length c4_l2), (5, .int .i64 x5_l1), (7, .slice A7 v5.length c8), (8, .int .i64 x8_l2), (9, .int .i64 x9_l2), (25, .slice A0 l0.length c0), (26, .int .i64 (l0.length : Int)), (27, .int .i64 x27_l1), (37, .slice A4_l2 x4_l2.length c4_l2), (40, .int .u8 (IntKind.wrap .u8 (Int.tmod x8_l2 256)))]) (w' := w) (by kernel_rfl) ?_
      refine WR.st (St.box hS (by kernel_rfl) (.cells #[.int .u8 (IntKind.wrap .u8 (Int.tmod x8_l2 256))] 5) (fun b11 => .slice (some ⟨b11, 0, none⟩) 1 1) (fun _ => by kernel_rfl) (fun b11 w12 hS => ?_))
      refine WR.runk [] [5, 6] [0, 4, 5, 7, 8, 9, 25, 26, 27, 37, 41] (L' := [(0, .slice A0 l0.length c0), (4, .slice A4_l2 x4_l2.length c4_l2), (5, .int .i64 x5_l1), (7, .slice A7 v5.length c8), (8, .int .i64 x8_l2), (9, .int .i64 x9_l2), (25, .slice A0 l0.length c0), (26, .int .i64 (l0.length : Int)), (27, .int .i64 x27_l1), (37, .slice A4_l2 x4_l2.length c4_l2), (41, .slice (some ⟨b11, 0, none⟩) 1 1)]) (w' := w12) (by kernel_rfl) ?_
      have hS : Sat w12 (rf w0) [osl 5 (r0 (.int .u8)) 1 A4_l2 c4_l2 x4_l2, pts b11 (.cells #[.int .u8 (IntKind.wrap .u8 (Int.tmod x8_l2 256))] 5 (0, 0))] := hS.sel [1, 0] (by kernel_rfl)
      obtain ⟨y14, e13, H⟩ := bind_ex H
      refine WR.st (St.append' (.tmp 37) (.tmp 41) (by kernel_rfl) (by kernel_rfl) E22 (r0_one _) hS (by kernel_rfl) (by kernel_rfl) (Sat.ptsAt 1 (r0 (.int .u8)) 1 ([IntKind.wrap .u8 (Int.tmod x8_l2 256)] : List Int) hS rfl rfl (rdL.cons1 rfl (rdL.nil _ _))) 140737488355328 (by kernel_rfl) (by kernel_rfl) e13 (fun A15 c16 w17 hS => ?_))
      refine WR.runk [6] [] [0, 4, 5, 7, 8, 9, 25, 26, 27] (L' := [(0, .slice A0 l0.length c0), (4, .slice A15 y14.length c16), (5, .int .i64 x5_l1), (7, .slice A7 v5.length c8), (8, .int .i64 x8_l2), (9, .int .i64 x9_l2), (25, .slice A0 l0.length c0), (26, .int .i64 (l0.length : Int)), (27, .int .i64 x27_l1)]) (w' := w17) (by kernel_rfl) ?_
      refine WR.nil ?_
      refine At.go ?_
      refine WC.reg [0, 1, 2] (by kernel_rfl) (by kernel_rfl) ?_
      refine WR.runk [0, 1, 2] [] [0, 4, 5, 7, 8, 9, 25, 26, 27] (L' := [(0, .slice A0 l0.length c0), (4, .slice A15 y14.length c16), (5, .int .i64 x5_l1), (7, .slice A7 v5.length c8), (8, .int .i64 (wi (Int.tdiv x8_l2 256))), (9, .int .i64 x9_l2), (25, .slice A0 l0.length c0), (26, .int .i64 (l0.length : Int)), (27, .int .i64 x27_l1)]) (w' := w17) (by kernel_rfl) ?_
      refine WR.nil ?_
      refine At.blockNormal ?_
      refine At.go ?_
      refine WC.reg [0, 1, 2] (by kernel_rfl) (by kernel_rfl) ?_
      refine WR.runk [0, 1, 2] [] [0, 4, 5, 7, 8, 9, 25, 26, 27] (L' := [(0, .slice A0 l0.length c0), (4, .slice A15 y14.length c16), (5, .int .i64 x5_l1), (7, .slice A7 v5.length c8), (8, .int .i64 (wi (Int.tdiv x8_l2 256))), (9, .int .i64 (wi (x9_l2 + 1))), (25, .slice A0 l0.length c0), (26, .int .i64 (l0.length : Int)), (27, .int .i64 x27_l1)]) (w' := w17) (by kernel_rfl) ?_
      refine WR.nil ?_
      have hS : Sat w17 (rf w0) [osl 5 (r0 (.int .u8)) 1 A15 c16 y14] := hS.sel [0] (by kernel_rfl)
      refine At.again ?_
      refine WL.weaken [0, 4, 5, 7, 8, 9, 25, 26, 27] (L' := [(0, .slice A0 l0.length c0), (4, .slice A15 y14.length c16), (5, .int .i64 x5_l1), (7, .slice A7 v5.length c8), (8, .int .i64 (wi (Int.tdiv x8_l2 256))), (9, .int .i64 (wi (x9_l2 + 1))), (25, .slice A0 l0.length c0), (26, .int .i64 (l0.length : Int)), (27, .int .i64 x27_l1)]) (by kernel_rfl) ?_
      exact ih y14 (wi (Int.tdiv x8_l2 256)) (wi (x9_l2 + 1)) A15 c16 _ hS H
    · replace H := ite_f H hb10
      refine WC.exit (by kernel_rfl) ?_
      refine At.thenExit ?_
      refine At.thenExit ?_
      obtain rfl := Option.some.inj H
      have hS : Sat w (rf w0) [osl 5 (r0 (.int .u8)) 1 A4_l2 c4_l2 x4_l2] := hS.sel [0] (by kernel_rfl)
      refine At.weaken [0, 4, 5, 7, 25, 26, 27] (L' := [(0, .slice A0 l0.length c0), (4, .slice A4_l2 x4_l2.length c4_l2), (5, .int .i64 x5_l1), (7, .slice A7 v5.length c8), (25, .slice A0 l0.length c0), (26, .int .i64 (l0.length : Int)), (27, .int .i64 x27_l1)]) (by kernel_rfl) ?_
      exact hn0 A4_l2 c4_l2 _ hS
theorem colophonref06_Build.l1_ok {Q} (w0 : World) (A0 : Option Addr) (c0 : Nat) (l0 : List (List Int)) (R0 : rdS (rd (hp w0) (.slice 5 (.int .u8))) 1 (hp w0) A0 c0 l0) (out : Sum ((List Int) × Int) (List Int)) (hn0 : ∀ (o0 : (List Int) × Int) (A2_q : Option Addr) (c2_q : Nat) (w : World), out = (.inl o0) → Sat w (rf w0) [osl 5 (r0 (.int .u8)) 1 A2_q c2_q o0.1] → At Q .ret 96 [(2, .slice A2_q o0.1.length c2_q), (3, .int .i64 o0.2)] w) (hn1 : ∀ (o1 : (List Int)) (A4_q : Option Addr) (c4_q : Nat) (w : World), out = (.inr o1) → Sat w (rf w0) [osl 5 (r0 (.int .u8)) 1 A4_q c4_q o1] → At Q (.exit 0) 96 [(0, .slice A0 l0.length c0), (4, .slice A4_q o1.length c4_q)] w) :
    ∀ (k : Nat) (x4_l1 : List Int) (x5_l1 : Int) (x27_l1 : Int) (A4_l1 : Option Addr) (c4_l1 : Nat) (w : World), Sat w (rf w0) [osl 5 (r0 (.int .u8)) 1 A4_l1 c4_l1 x4_l1] → colophonref06_Build.l1 l0 k x4_l1 x5_l1 x27_l1 = some out → WL Try.prog (cbody (cbody (cr (cl (cr (cr (cr (cr C20)))))))) Q 96 [(0, .slice A0 l0.length c0), (4, .slice A4_l1 x4_l1.length c4_l1), (5, .int .i64 x5_l1), (25, .slice A0 l0.length c0), (26, .int .i64 (l0.length : Int)), (27, .int .i64 x27_l1)] w := by
  intro k
  induction k with
  | zero => intro x4_l1 x5_l1 x27_l1 A4_l1 c4_l1 w hS H; exact absurd (show none = some out from H) (by simp)
  | succ k ih =>
    intro x4_l1 x5_l1 x27_l1 A4_l1 c4_l1 w hS H
    unfold colophonref06_Build.l1 at H
    refine WL.round ?_
    refine WC.seq (by kernel_rfl) ?_
    refine WC.reg [0] (by kernel_rfl) (by kernel_rfl) ?_
    refine WR.runk [0] [] [0, 4, 5, 25, 26, 27, 28] (L' := [(0, .slice A0 l0.length c0), (4, .slice A4_l1 x4_l1.length c4_l1), (5, .int .i64 x5_l1), (25, .slice A0 l0.length c0), (26, .int .i64 (l0.length : Int)), (27, .int .i64 x27_l1), (28, .bool (decide (x27_l1 < (l0.length : Int))))]) (w' := w) (by kernel_rfl) ?_
    refine WR.nil ?_
    refine At.go ?_
    refine WC.seq (by kernel_rfl) ?_
    refine WC.cond (by kernel_rfl) (decide (x27_l1 < (l0.length : Int))) (by kernel_rfl) (by kernel_rfl) (fun hb4 => ?_) (fun hb4 => ?_)
    · replace H := ite_t H hb4
      refine WC.skip (by kernel_rfl) ?_
      refine At.go ?_
      refine WC.seq (by kernel_rfl) ?_
      refine WC.block (by kernel_rfl) ?_
      refine WC.seq (by kernel_rfl) ?_
      refine WC.reg [0, 1, 2] (by kernel_rfl) (by kernel_rfl) ?_
      refine WR.runk [] [0, 1, 2] [0, 4, 5, 25, 26, 27] (L' := [(0, .slice A0 l0.length c0), (4, .slice A4_l1 x4_l1.length c4_l1), (5, .int .i64 x5_l1), (25, .slice A0 l0.length c0), (26, .int .i64 (l0.length : Int)), (27, .int .i64 x27_l1)]) (w' := w) (by kernel_rfl) ?_
      obtain ⟨v5, e6, H⟩ := bind_ex H
      refine WR.st (St.ofP (PSt.idx (k := .i64) (.tmp 25) (.tmp 27) (by kernel_rfl) (by kernel_rfl) E29 (by kernel_rfl) (by kernel_rfl) (rdS.up R0 hS.sub0) e6 ?_))
      refine WR.runk [] [1, 2] [0, 4, 5, 25, 26, 27, 29] (L' := [(0, .slice A0 l0.length c0), (4, .slice A4_l1 x4_l1.length c4_l1), (5, .int .i64 x5_l1), (25, .slice A0 l0.length c0), (26, .int .i64 (l0.length : Int)), (27, .int .i64 x27_l1), (29, .pointer (some (adr A0 x27_l1.toNat 1)))]) (w' := w) (by kernel_rfl) ?_
      refine WR.st (St.ofR (RSt.loadSl (t := 22) (.tmp 29) (by kernel_rfl) (by kernel_rfl) (by kernel_rfl) (by kernel_rfl) R0 e6 hS.sub0 (fun A7 c8 R9 => ?_)))
      replace R9 : rdS (r0 (.int .u8)) 1 (hp w0) A7 c8 v5 := R9
      refine WR.runk [2] [] [0, 4, 5, 7, 25, 26, 27] (L' := [(0, .slice A0 l0.length c0), (4, .slice A4_l1 x4_l1.length c4_l1), (5, .int .i64 x5_l1), (7, .slice A7 v5.length c8), (25, .slice A0 l0.length c0), (26, .int .i64 (l0.length : Int)), (27, .int .i64 x27_l1)]) (w' := w) (by kernel_rfl) ?_
      refine WR.nil ?_
      refine At.go ?_
      refine WC.seq (by kernel_rfl) ?_
      refine WC.reg [0, 1, 2] (by kernel_rfl) (by kernel_rfl) ?_
      refine WR.runk [0, 1, 2] [] [0, 4, 5, 7, 8, 25, 26, 27] (L' := [(0, .slice A0 l0.length c0), (4, .slice A4_l1 x4_l1.length c4_l1), (5, .int .i64 x5_l1), (7, .slice A7 v5.length c8), (8, .int .i64 (v5.length : Int)), (25, .slice A0 l0.length c0), (26, .int .i64 (l0.length : Int)), (27, .int .i64 x27_l1)]) (w' := w) (by kernel_rfl) ?_
      refine WR.nil ?_
      refine At.go ?_
      refine WC.seq (by kernel_rfl) ?_
      refine WC.seq (by kernel_rfl) ?_
      refine WC.reg [0] (by kernel_rfl) (by kernel_rfl) ?_
      refine WR.runk [0] [] [0, 4, 5, 7, 8, 9, 25, 26, 27] (L' := [(0, .slice A0 l0.length c0), (4, .slice A4_l1 x4_l1.length c4_l1), (5, .int .i64 x5_l1), (7, .slice A7 v5.length c8), (8, .int .i64 (v5.length : Int)), (9, .int .i64 0), (25, .slice A0 l0.length c0), (26, .int .i64 (l0.length : Int)), (27, .int .i64 x27_l1)]) (w' := w) (by kernel_rfl) ?_
      refine WR.nil ?_
      refine At.go ?_
      refine WC.block (by kernel_rfl) ?_
      have hS : Sat w (rf w0) [osl 5 (r0 (.int .u8)) 1 A4_l1 c4_l1 x4_l1] := hS.sel [0] (by kernel_rfl)
      obtain ⟨o18, e19, H⟩ := bind_ex H
      refine WC.loop (by kernel_rfl) ?_
      refine WL.weaken [0, 4, 5, 7, 8, 9, 25, 26, 27] (L' := [(0, .slice A0 l0.length c0), (4, .slice A4_l1 x4_l1.length c4_l1), (5, .int .i64 x5_l1), (7, .slice A7 v5.length c8), (8, .int .i64 (v5.length : Int)), (9, .int .i64 0), (25, .slice A0 l0.length c0), (26, .int .i64 (l0.length : Int)), (27, .int .i64 x27_l1)]) (by kernel_rfl) ?_
      refine colophonref06_Build.l2_ok w0 A0 c0 l0 x5_l1 x27_l1 v5 A7 c8 o18 (fun A4_q20 c4_q20 w21 hS => ?_) FU x4_l1 (v5.length : Int) 0 A4_l1 c4_l1 _ hS e19
      refine At.hit ?_
      refine At.go ?_
      refine WC.seq (by kernel_rfl) ?_
      refine WC.reg [0, 1, 2, 3, 4, 5] (by kernel_rfl) (by kernel_rfl) ?_
      refine WR.runk [0, 1, 2, 3, 4, 5] [] [0, 4, 5, 7, 25, 26, 27] (L' := [(0, .slice A0 l0.length c0), (4, .slice A4_q20 o18.length c4_q20), (5, .int .i64 (wi (x5_l1 + (wi (Int.tdiv (v5.length : Int) 256))))), (7, .slice A7 v5.length c8), (25, .slice A0 l0.length c0), (26, .int .i64 (l0.length : Int)), (27, .int .i64 x27_l1)]) (w' := w21) (by kernel_rfl) ?_
      refine WR.nil ?_
      refine At.go ?_
      refine WC.seq (by kernel_rfl) ?_
      refine WC.seq (by kernel_rfl) ?_
      refine WC.reg [0, 1, 2, 3] (by kernel_rfl) (by kernel_rfl) ?_
      refine WR.runk [0, 1, 2, 3] [] [0, 4, 5, 25, 26, 27, 53] (L' := [(0, .slice A0 l0.length c0), (4, .slice A4_q20 o18.length c4_q20), (5, .int .i64 (wi (x5_l1 + (wi (Int.tdiv (v5.length : Int) 256))))), (25, .slice A0 l0.length c0), (26, .int .i64 (l0.length : Int)), (27, .int .i64 x27_l1), (53, .bool (decide (Int.tmod (v5.length : Int) 256 > 0)))]) (w' := w21) (by kernel_rfl) ?_
      refine WR.nil ?_
      refine At.go ?_
      refine WC.cond (by kernel_rfl) (decide (Int.tmod (v5.length : Int) 256 > 0)) (by kernel_rfl) (by kernel_rfl) (fun hb23 => ?_) (fun hb23 => ?_)
      · replace H := ite_t H hb23
        refine WC.reg [0, 1, 2] (by kernel_rfl) (by kernel_rfl) ?_
        refine WR.runk [0, 1, 2] [] [0, 4, 5, 25, 26, 27] (L' := [(0, .slice A0 l0.length c0), (4, .slice A4_q20 o18.length c4_q20), (5, .int .i64 (wi ((wi (x5_l1 + (wi (Int.tdiv (v5.length : Int) 256)))) + 1))), (25, .slice A0 l0.length c0), (26, .int .i64 (l0.length : Int)), (27, .int .i64 x27_l1)]) (w' := w21) (by kernel_rfl) ?_
        refine WR.nil ?_
        refine At.go ?_
        refine WC.seq (by kernel_rfl) ?_
        refine WC.reg [0, 1] (by kernel_rfl) (by kernel_rfl) ?_
        refine WR.runk [0, 1] [] [0, 4, 5, 25, 26, 27, 57] (L' := [(0, .slice A0 l0.length c0), (4, .slice A4_q20 o18.length c4_q20), (5, .int .i64 (wi ((wi (x5_l1 + (wi (Int.tdiv (v5.length : Int) 256)))) + 1))), (25, .slice A0 l0.length c0), (26, .int .i64 (l0.length : Int)), (27, .int .i64 x27_l1), (57, .bool (decide (wi ((wi (x5_l1 + (wi (Int.tdiv (v5.length : Int) 256)))) + 1) > 4096)))]) (w' := w21) (by kernel_rfl) ?_
        refine WR.nil ?_
        refine At.go ?_
        refine WC.cond (by kernel_rfl) (decide (wi ((wi (x5_l1 + (wi (Int.tdiv (v5.length : Int) 256)))) + 1) > 4096)) (by kernel_rfl) (by kernel_rfl) (fun hb24 => ?_) (fun hb24 => ?_)
        · replace H := ite_t H hb24
          refine WC.seq (by kernel_rfl) ?_
          refine WC.reg [0, 1] (by kernel_rfl) (by kernel_rfl) ?_
          refine WR.runk [0, 1] [] [2, 3] (L' := [(2, .slice none 0 0), (3, .int .i64 80)]) (w' := w21) (by kernel_rfl) ?_
          refine WR.nil ?_
          refine At.go ?_
          refine WC.ret (by kernel_rfl) ?_
          refine At.blockRet ?_
          refine At.thenRet ?_
          refine At.thenRet ?_
          obtain rfl := Option.some.inj H
          have hS := hS.addNil (α := Int) 5 (r0 (.int .u8)) 1
          have hS : Sat w21 (rf w0) [osl 5 (r0 (.int .u8)) 1 none 0 ([] : List Int)] := hS.sel [0] (by kernel_rfl)
          refine At.weaken [2, 3] (L' := [(2, .slice none 0 0), (3, .int .i64 80)]) (by kernel_rfl) ?_
          exact hn0 (([] : List Int), 80) none 0 _ rfl hS
        · replace H := ite_f H hb24
          refine WC.skip (by kernel_rfl) ?_
          refine At.blockNormal ?_
          refine At.go ?_
          refine WC.reg [0, 1] (by kernel_rfl) (by kernel_rfl) ?_
          refine WR.runk [0, 1] [] [0, 4, 5, 25, 26, 27] (L' := [(0, .slice A0 l0.length c0), (4, .slice A4_q20 o18.length c4_q20), (5, .int .i64 (wi ((wi (x5_l1 + (wi (Int.tdiv (v5.length : Int) 256)))) + 1))), (25, .slice A0 l0.length c0), (26, .int .i64 (l0.length : Int)), (27, .int .i64 (wi (x27_l1 + 1)))]) (w' := w21) (by kernel_rfl) ?_
          refine WR.nil ?_
          have hS : Sat w21 (rf w0) [osl 5 (r0 (.int .u8)) 1 A4_q20 c4_q20 o18] := hS.sel [0] (by kernel_rfl)
          refine At.again ?_
          refine WL.weaken [0, 4, 5, 25, 26, 27] (L' := [(0, .slice A0 l0.length c0), (4, .slice A4_q20 o18.length c4_q20), (5, .int .i64 (wi ((wi (x5_l1 + (wi (Int.tdiv (v5.length : Int) 256)))) + 1))), (25, .slice A0 l0.length c0), (26, .int .i64 (l0.length : Int)), (27, .int .i64 (wi (x27_l1 + 1)))]) (by kernel_rfl) ?_
          exact ih o18 (wi ((wi (x5_l1 + (wi (Int.tdiv (v5.length : Int) 256)))) + 1)) (wi (x27_l1 + 1)) A4_q20 c4_q20 _ hS H
      · replace H := ite_f H hb23
        refine WC.skip (by kernel_rfl) ?_
        refine At.go ?_
        refine WC.seq (by kernel_rfl) ?_
        refine WC.reg [0, 1] (by kernel_rfl) (by kernel_rfl) ?_
        refine WR.runk [0, 1] [] [0, 4, 5, 25, 26, 27, 57] (L' := [(0, .slice A0 l0.length c0), (4, .slice A4_q20 o18.length c4_q20), (5, .int .i64 (wi (x5_l1 + (wi (Int.tdiv (v5.length : Int) 256))))), (25, .slice A0 l0.length c0), (26, .int .i64 (l0.length : Int)), (27, .int .i64 x27_l1), (57, .bool (decide (wi (x5_l1 + (wi (Int.tdiv (v5.length : Int) 256))) > 4096)))]) (w' := w21) (by kernel_rfl) ?_
        refine WR.nil ?_
        refine At.go ?_
        refine WC.cond (by kernel_rfl) (decide (wi (x5_l1 + (wi (Int.tdiv (v5.length : Int) 256))) > 4096)) (by kernel_rfl) (by kernel_rfl) (fun hb25 => ?_) (fun hb25 => ?_)
        · replace H := ite_t H hb25
          refine WC.seq (by kernel_rfl) ?_
          refine WC.reg [0, 1] (by kernel_rfl) (by kernel_rfl) ?_
          refine WR.runk [0, 1] [] [2, 3] (L' := [(2, .slice none 0 0), (3, .int .i64 80)]) (w' := w21) (by kernel_rfl) ?_
          refine WR.nil ?_
          refine At.go ?_
          refine WC.ret (by kernel_rfl) ?_
          refine At.blockRet ?_
          refine At.thenRet ?_
          refine At.thenRet ?_
          obtain rfl := Option.some.inj H
          have hS := hS.addNil (α := Int) 5 (r0 (.int .u8)) 1
          have hS : Sat w21 (rf w0) [osl 5 (r0 (.int .u8)) 1 none 0 ([] : List Int)] := hS.sel [0] (by kernel_rfl)
          refine At.weaken [2, 3] (L' := [(2, .slice none 0 0), (3, .int .i64 80)]) (by kernel_rfl) ?_
          exact hn0 (([] : List Int), 80) none 0 _ rfl hS
        · replace H := ite_f H hb25
          refine WC.skip (by kernel_rfl) ?_
          refine At.blockNormal ?_
          refine At.go ?_
          refine WC.reg [0, 1] (by kernel_rfl) (by kernel_rfl) ?_
          refine WR.runk [0, 1] [] [0, 4, 5, 25, 26, 27] (L' := [(0, .slice A0 l0.length c0), (4, .slice A4_q20 o18.length c4_q20), (5, .int .i64 (wi (x5_l1 + (wi (Int.tdiv (v5.length : Int) 256))))), (25, .slice A0 l0.length c0), (26, .int .i64 (l0.length : Int)), (27, .int .i64 (wi (x27_l1 + 1)))]) (w' := w21) (by kernel_rfl) ?_
          refine WR.nil ?_
          have hS : Sat w21 (rf w0) [osl 5 (r0 (.int .u8)) 1 A4_q20 c4_q20 o18] := hS.sel [0] (by kernel_rfl)
          refine At.again ?_
          refine WL.weaken [0, 4, 5, 25, 26, 27] (L' := [(0, .slice A0 l0.length c0), (4, .slice A4_q20 o18.length c4_q20), (5, .int .i64 (wi (x5_l1 + (wi (Int.tdiv (v5.length : Int) 256))))), (25, .slice A0 l0.length c0), (26, .int .i64 (l0.length : Int)), (27, .int .i64 (wi (x27_l1 + 1)))]) (by kernel_rfl) ?_
          exact ih o18 (wi (x5_l1 + (wi (Int.tdiv (v5.length : Int) 256)))) (wi (x27_l1 + 1)) A4_q20 c4_q20 _ hS H
    · replace H := ite_f H hb4
      refine WC.exit (by kernel_rfl) ?_
      refine At.thenExit ?_
      refine At.thenExit ?_
      obtain rfl := Option.some.inj H
      have hS : Sat w (rf w0) [osl 5 (r0 (.int .u8)) 1 A4_l1 c4_l1 x4_l1] := hS.sel [0] (by kernel_rfl)
      refine At.weaken [0, 4] (L' := [(0, .slice A0 l0.length c0), (4, .slice A4_l1 x4_l1.length c4_l1)]) (by kernel_rfl) ?_
      exact hn1 x4_l1 A4_l1 c4_l1 _ rfl hS
theorem colophonref06_Build.l4_ok {Q} (w0 : World) (A0 : Option Addr) (c0 : Nat) (l0 : List (List Int)) (x66_l3 : Int) (v48 : List Int) (A50 : Option Addr) (c51 : Nat) (R52 : rdS (r0 (.int .u8)) 1 (hp w0) A50 c51 v48) (out : (List Int) × Int) (hn0 : ∀ (A10_q : Option Addr) (c10_q : Nat) (w : World), Sat w (rf w0) [osl 5 (r0 (.int .u8)) 1 A10_q c10_q out.1] → At Q (.exit 6) 96 [(10, .slice A10_q out.1.length c10_q), (12, .int .i64 out.2), (64, .slice A0 l0.length c0), (65, .int .i64 (l0.length : Int)), (66, .int .i64 x66_l3)] w) :
    ∀ (k : Nat) (x10_l4 : List Int) (x12_l4 : Int) (x15_l4 : Int) (A10_l4 : Option Addr) (c10_l4 : Nat) (w : World), Sat w (rf w0) [osl 5 (r0 (.int .u8)) 1 A10_l4 c10_l4 x10_l4] → colophonref06_Build.l4 v48 k x10_l4 x12_l4 x15_l4 = some out → WL Try.prog (cbody (cbody (cr (cr (cbody (cl (cr (cr (cbody (cbody (cr (cl (cr (cr (cr (cr (cr (cr (cr C20))))))))))))))))))) Q 96 [(10, .slice A10_l4 x10_l4.length c10_l4), (12, .int .i64 x12_l4), (14, .slice A50 v48.length c51), (15, .int .i64 x15_l4), (64, .slice A0 l0.length c0), (65, .int .i64 (l0.length : Int)), (66, .int .i64 x66_l3)] w := by
  intro k
  induction k with
  | zero => intro x10_l4 x12_l4 x15_l4 A10_l4 c10_l4 w hS H; exact absurd (show none = some out from H) (by simp)
  | succ k ih =>
    intro x10_l4 x12_l4 x15_l4 A10_l4 c10_l4 w hS H
    unfold colophonref06_Build.l4 at H
    refine WL.round ?_
    refine WC.seq (by kernel_rfl) ?_
    refine WC.seq (by kernel_rfl) ?_
    refine WC.reg [0, 1, 2, 3] (by kernel_rfl) (by kernel_rfl) ?_
    refine WR.runk [0, 1, 2, 3] [] [10, 12, 14, 15, 64, 65, 66, 73] (L' := [(10, .slice A10_l4 x10_l4.length c10_l4), (12, .int .i64 x12_l4), (14, .slice A50 v48.length c51), (15, .int .i64 x15_l4), (64, .slice A0 l0.length c0), (65, .int .i64 (l0.length : Int)), (66, .int .i64 x66_l3), (73, .bool (decide (x15_l4 < (v48.length : Int))))]) (w' := w) (by kernel_rfl) ?_
    refine WR.nil ?_
    refine At.go ?_
    refine WC.cond (by kernel_rfl) (decide (x15_l4 < (v48.length : Int))) (by kernel_rfl) (by kernel_rfl) (fun hb53 => ?_) (fun hb53 => ?_)
    · replace H := ite_t H hb53
      refine WC.skip (by kernel_rfl) ?_
      refine At.go ?_
      refine WC.seq (by kernel_rfl) ?_
      refine WC.block (by kernel_rfl) ?_
      refine WC.seq (by kernel_rfl) ?_
      refine WC.reg [0, 1, 2, 3, 4, 5, 6, 7, 8, 9, 10, 11, 12, 13, 14] (by kernel_rfl) (by kernel_rfl) ?_
      refine WR.runk [0, 1, 2, 3, 4, 5, 6, 7] [8, 9, 10, 11, 12, 13, 14] [10, 12, 14, 15, 64, 65, 66, 77, 78, 79, 84] (L' := [(10, .slice A10_l4 x10_l4.length c10_l4), (12, .int .i64 x12_l4), (14, .slice A50 v48.length c51), (15, .int .i64 x15_l4), (64, .slice A0 l0.length c0), (65, .int .i64 (l0.length : Int)), (66, .int .i64 x66_l3), (77, .int .i64 x12_l4), (78, .slice A50 v48.length c51), (79, .int .i64 x15_l4), (84, .int .i64 (imin (wi (x15_l4 + 256)) (v48.length : Int)))]) (w' := w) (by kernel_rfl) ?_
      obtain ⟨y54, e55, H⟩ := bind_ex H
      refine WR.st (St.ofP (PSt.sub (A := A50) (c := c51) (.tmp 78) (some (.tmp 79)) (some (.tmp 84)) none (by kernel_rfl) (by kernel_rfl) E22 (by kernel_rfl) (rdS.up R52 hS.sub0).1 e55 (Exists.intro IntKind.i64 (by kernel_rfl)) (Exists.intro IntKind.i64 (by kernel_rfl)) trivial (fun A56 c57 T58 => ?_)))
      refine WR.runk [] [9, 10, 11, 12, 13, 14] [10, 12, 14, 15, 64, 65, 66, 77, 85] (L' := [(10, .slice A10_l4 x10_l4.length c10_l4), (12, .int .i64 x12_l4), (14, .slice A50 v48.length c51), (15, .int .i64 x15_l4), (64, .slice A0 l0.length c0), (65, .int .i64 (l0.length : Int)), (66, .int .i64 x66_l3), (77, .int .i64 x12_l4), (85, .slice A56 y54.length c57)]) (w' := w) (by kernel_rfl) ?_
      obtain ⟨r59, e60, H⟩ := bind_ex H
      refine WR.st (St.call (by kernel_rfl) (f := 33) (args := #[.int .i64 x12_l4, .slice A56 y54.length c57]) (by kernel_rfl) (colophonref05_Put.calls w x12_l4 A56 c57 y54 (T58.rd _ _ (rdS.up R52 hS.sub0)) r59 e60) ?_)
      rintro _ w66 ⟨A68, c69, rfl, hS67⟩
      have hS : Sat w66 (rf w0) [osl 5 (r0 (.int .u8)) 1 A68 c69 r59.1, osl 5 (r0 (.int .u8)) 1 A10_l4 c10_l4 x10_l4] := hS.ext hS67
      refine WR.runk [10, 11, 12, 13, 14] [] [10, 12, 14, 15, 16, 64, 65, 66] (L' := [(10, .slice A10_l4 x10_l4.length c10_l4), (12, .int .i64 x12_l4), (14, .slice A50 v48.length c51), (15, .int .i64 x15_l4), (16, .slice A68 r59.1.length c69), (64, .slice A0 l0.length c0), (65, .int .i64 (l0.length : Int)), (66, .int .i64 x66_l3)]) (w' := w66) (by kernel_rfl) ?_
      refine WR.nil ?_
      refine At.go ?_
      refine WC.seq (by kernel_rfl) ?_
      refine WC.reg [0, 1, 2, 3] (by kernel_rfl) (by kernel_rfl) ?_
      refine WR.runk [0, 1] [2, 3] [10, 12, 14, 15, 64, 65, 66, 89, 90] (L' := [(10, .slice A10_l4 x10_l4.length c10_l4), (12, .int .i64 x12_l4), (14, .slice A50 v48.length c51), (15, .int .i64 x15_l4), (64, .slice A0 l0.length c0), (65, .int .i64 (l0.length : Int)), (66, .int .i64 x66_l3), (89, .slice A10_l4 x10_l4.length c10_l4), (90, .slice A68 r59.1.length c69)]) (w' := w66) (by kernel_rfl) ?_
      have hS : Sat w66 (rf w0) [osl 5 (r0 (.int .u8)) 1 A10_l4 c10_l4 x10_l4, osl 5 (r0 (.int .u8)) 1 A68 c69 r59.1] := hS.sel [1, 0] (by kernel_rfl)
      obtain ⟨y71, e70, H⟩ := bind_ex H
      refine WR.st (St.append' (.tmp 89) (.tmp 90) (by kernel_rfl) (by kernel_rfl) E22 (r0_one _) hS (by kernel_rfl) (by kernel_rfl) (Sat.rdAt 1 hS rfl) 140737488355328 (by kernel_rfl) (by kernel_rfl) e70 (fun A72 c73 w74 hS => ?_))
      refine WR.runk [3] [] [10, 12, 14, 15, 64, 65, 66] (L' := [(10, .slice A72 y71.length c73), (12, .int .i64 x12_l4), (14, .slice A50 v48.length c51), (15, .int .i64 x15_l4), (64, .slice A0 l0.length c0), (65, .int .i64 (l0.length : Int)), (66, .int .i64 x66_l3)]) (w' := w74) (by kernel_rfl) ?_
      refine WR.nil ?_
      refine At.go ?_
      refine WC.reg [0, 1, 2] (by kernel_rfl) (by kernel_rfl) ?_
      refine WR.runk [0, 1, 2] [] [10, 12, 14, 15, 64, 65, 66] (L' := [(10, .slice A72 y71.length c73), (12, .int .i64 (wi (x12_l4 + 1))), (14, .slice A50 v48.length c51), (15, .int .i64 x15_l4), (64, .slice A0 l0.length c0), (65, .int .i64 (l0.length : Int)), (66, .int .i64 x66_l3)]) (w' := w74) (by kernel_rfl) ?_
      refine WR.nil ?_
      refine At.blockNormal ?_
      refine At.go ?_
      refine WC.reg [0, 1, 2] (by kernel_rfl) (by kernel_rfl) ?_
      refine WR.runk [0, 1, 2] [] [10, 12, 14, 15, 64, 65, 66] (L' := [(10, .slice A72 y71.length c73), (12, .int .i64 (wi (x12_l4 + 1))), (14, .slice A50 v48.length c51), (15, .int .i64 (wi (x15_l4 + 256))), (64, .slice A0 l0.length c0), (65, .int .i64 (l0.length : Int)), (66, .int .i64 x66_l3)]) (w' := w74) (by kernel_rfl) ?_
      refine WR.nil ?_
      have hS : Sat w74 (rf w0) [osl 5 (r0 (.int .u8)) 1 A72 c73 y71] := hS.sel [0] (by kernel_rfl)
      refine At.again ?_
      refine WL.weaken [10, 12, 14, 15, 64, 65, 66] (L' := [(10, .slice A72 y71.length c73), (12, .int .i64 (wi (x12_l4 + 1))), (14, .slice A50 v48.length c51), (15, .int .i64 (wi (x15_l4 + 256))), (64, .slice A0 l0.length c0), (65, .int .i64 (l0.length : Int)), (66, .int .i64 x66_l3)]) (by kernel_rfl) ?_
      exact ih y71 (wi (x12_l4 + 1)) (wi (x15_l4 + 256)) A72 c73 _ hS H
    · replace H := ite_f H hb53
      refine WC.exit (by kernel_rfl) ?_
      refine At.thenExit ?_
      refine At.thenExit ?_
      obtain rfl := Option.some.inj H
      have hS : Sat w (rf w0) [osl 5 (r0 (.int .u8)) 1 A10_l4 c10_l4 x10_l4] := hS.sel [0] (by kernel_rfl)
      refine At.weaken [10, 12, 64, 65, 66] (L' := [(10, .slice A10_l4 x10_l4.length c10_l4), (12, .int .i64 x12_l4), (64, .slice A0 l0.length c0), (65, .int .i64 (l0.length : Int)), (66, .int .i64 x66_l3)]) (by kernel_rfl) ?_
      exact hn0 A10_l4 c10_l4 _ hS
theorem colophonref06_Build.l3_ok {Q} (w0 : World) (A0 : Option Addr) (c0 : Nat) (l0 : List (List Int)) (R0 : rdS (rd (hp w0) (.slice 5 (.int .u8))) 1 (hp w0) A0 c0 l0) (out : (List Int)) (hn0 : ∀ (A10_q : Option Addr) (c10_q : Nat) (w : World), Sat w (rf w0) [osl 5 (r0 (.int .u8)) 1 A10_q c10_q out] → At Q (.exit 4) 96 [(10, .slice A10_q out.length c10_q)] w) :
    ∀ (k : Nat) (x10_l3 : List Int) (x12_l3 : Int) (x66_l3 : Int) (A10_l3 : Option Addr) (c10_l3 : Nat) (w : World), Sat w (rf w0) [osl 5 (r0 (.int .u8)) 1 A10_l3 c10_l3 x10_l3] → colophonref06_Build.l3 l0 k x10_l3 x12_l3 x66_l3 = some out → WL Try.prog (cbody (cbody (cr (cl (cr (cr (cr (cr (cr (cr (cr C20))))))))))) Q 96 [(10, .slice A10_l3 x10_l3.length c10_l3), (12, .int .i64 x12_l3), (64, .slice A0 l0.length c0), (65, .int .i64 (l0.length : Int)), (66, .int .i64 x66_l3)] w := by
  intro k
  induction k with
  | zero => intro x10_l3 x12_l3 x66_l3 A10_l3 c10_l3 w hS H; exact absurd (show none = some out from H) (by simp)
  | succ k ih =>
    intro x10_l3 x12_l3 x66_l3 A10_l3 c10_l3 w hS H
    unfold colophonref06_Build.l3 at H
    refine WL.round ?_
    refine WC.seq (by kernel_rfl) ?_
    refine WC.reg [0] (by kernel_rfl) (by kernel_rfl) ?_
    refine WR.runk [0] [] [10, 12, 64, 65, 66, 67] (L' := [(10, .slice A10_l3 x10_l3.length c10_l3), (12, .int .i64 x12_l3), (64, .slice A0 l0.length c0), (65, .int .i64 (l0.length : Int)), (66, .int .i64 x66_l3), (67, .bool (decide (x66_l3 < (l0.length : Int))))]) (w' := w) (by kernel_rfl) ?_
    refine WR.nil ?_
    refine At.go ?_
    refine WC.seq (by kernel_rfl) ?_
    refine WC.cond (by kernel_rfl) (decide (x66_l3 < (l0.length : Int))) (by kernel_rfl) (by kernel_rfl) (fun hb47 => ?_) (fun hb47 => ?_)
    · replace H := ite_t H hb47
      refine WC.skip (by kernel_rfl) ?_
      refine At.go ?_
      refine WC.seq (by kernel_rfl) ?_
      refine WC.block (by kernel_rfl) ?_
      refine WC.seq (by kernel_rfl) ?_
      refine WC.reg [0, 1, 2] (by kernel_rfl) (by kernel_rfl) ?_
      refine WR.runk [] [0, 1, 2] [10, 12, 64, 65, 66] (L' := [(10, .slice A10_l3 x10_l3.length c10_l3), (12, .int .i64 x12_l3), (64, .slice A0 l0.length c0), (65, .int .i64 (l0.length : Int)), (66, .int .i64 x66_l3)]) (w' := w) (by kernel_rfl) ?_
      obtain ⟨v48, e49, H⟩ := bind_ex H
      refine WR.st (St.ofP (PSt.idx (k := .i64) (.tmp 64) (.tmp 66) (by kernel_rfl) (by kernel_rfl) E29 (by kernel_rfl) (by kernel_rfl) (rdS.up R0 hS.sub0) e49 ?_))
      refine WR.runk [] [1, 2] [10, 12, 64, 65, 66, 68] (L' := [(10, .slice A10_l3 x10_l3.length c10_l3), (12, .int .i64 x12_l3), (64, .slice A0 l0.length c0), (65, .int .i64 (l0.length : Int)), (66, .int .i64 x66_l3), (68, .pointer (some (adr A0 x66_l3.toNat 1)))]) (w' := w) (by kernel_rfl) ?_
      refine WR.st (St.ofR (RSt.loadSl (t := 22) (.tmp 68) (by kernel_rfl) (by kernel_rfl) (by kernel_rfl) (by kernel_rfl) R0 e49 hS.sub0 (fun A50 c51 R52 => ?_)))
      replace R52 : rdS (r0 (.int .u8)) 1 (hp w0) A50 c51 v48 := R52
      refine WR.runk [2] [] [10, 12, 14, 64, 65, 66] (L' := [(10, .slice A10_l3 x10_l3.length c10_l3), (12, .int .i64 x12_l3), (14, .slice A50 v48.length c51), (64, .slice A0 l0.length c0), (65, .int .i64 (l0.length : Int)), (66, .int .i64 x66_l3)]) (w' := w) (by kernel_rfl) ?_
      refine WR.nil ?_
      refine At.go ?_
      refine WC.seq (by kernel_rfl) ?_
      refine WC.reg [0] (by kernel_rfl) (by kernel_rfl) ?_
      refine WR.runk [0] [] [10, 12, 14, 15, 64, 65, 66] (L' := [(10, .slice A10_l3 x10_l3.length c10_l3), (12, .int .i64 x12_l3), (14, .slice A50 v48.length c51), (15, .int .i64 0), (64, .slice A0 l0.length c0), (65, .int .i64 (l0.length : Int)), (66, .int .i64 x66_l3)]) (w' := w) (by kernel_rfl) ?_
      refine WR.nil ?_
      refine At.go ?_
      refine WC.block (by kernel_rfl) ?_
      have hS : Sat w (rf w0) [osl 5 (r0 (.int .u8)) 1 A10_l3 c10_l3 x10_l3] := hS.sel [0] (by kernel_rfl)
      obtain ⟨o75, e76, H⟩ := bind_ex H
      refine WC.loop (by kernel_rfl) ?_
      refine WL.weaken [10, 12, 14, 15, 64, 65, 66] (L' := [(10, .slice A10_l3 x10_l3.length c10_l3), (12, .int .i64 x12_l3), (14, .slice A50 v48.length c51), (15, .int .i64 0), (64, .slice A0 l0.length c0), (65, .int .i64 (l0.length : Int)), (66, .int .i64 x66_l3)]) (by kernel_rfl) ?_
      refine colophonref06_Build.l4_ok w0 A0 c0 l0 x66_l3 v48 A50 c51 R52 o75 (fun A10_q77 c10_q77 w78 hS => ?_) FU x10_l3 x12_l3 0 A10_l3 c10_l3 _ hS e76
      refine At.hit ?_
      refine At.blockNormal ?_
      refine At.go ?_
      refine WC.reg [0, 1] (by kernel_rfl) (by kernel_rfl) ?_
      refine WR.runk [0, 1] [] [10, 12, 64, 65, 66] (L' := [(10, .slice A10_q77 o75.1.length c10_q77), (12, .int .i64 o75.2), (64, .slice A0 l0.length c0), (65, .int .i64 (l0.length : Int)), (66, .int .i64 (wi (x66_l3 + 1)))]) (w' := w78) (by kernel_rfl) ?_
      refine WR.nil ?_
      have hS : Sat w78 (rf w0) [osl 5 (r0 (.int .u8)) 1 A10_q77 c10_q77 o75.1] := hS.sel [0] (by kernel_rfl)
      refine At.again ?_
      refine WL.weaken [10, 12, 64, 65, 66] (L' := [(10, .slice A10_q77 o75.1.length c10_q77), (12, .int .i64 o75.2), (64, .slice A0 l0.length c0), (65, .int .i64 (l0.length : Int)), (66, .int .i64 (wi (x66_l3 + 1)))]) (by kernel_rfl) ?_
      exact ih o75.1 o75.2 (wi (x66_l3 + 1)) A10_q77 c10_q77 _ hS H
    · replace H := ite_f H hb47
      refine WC.exit (by kernel_rfl) ?_
      refine At.thenExit ?_
      refine At.thenExit ?_
      obtain rfl := Option.some.inj H
      have hS : Sat w (rf w0) [osl 5 (r0 (.int .u8)) 1 A10_l3 c10_l3 x10_l3] := hS.sel [0] (by kernel_rfl)
      refine At.weaken [10] (L' := [(10, .slice A10_l3 x10_l3.length c10_l3)]) (by kernel_rfl) ?_
      exact hn0 A10_l3 c10_l3 _ hS
theorem colophonref06_Build.calls (w0 : World) (A0 : Option Addr) (c0 : Nat) (l0 : List (List Int)) (R0 : rdS (rd (hp w0) (.slice 5 (.int .u8))) 1 (hp w0) A0 c0 l0) (r : (List Int) × Int) (H : colophonref06_Build.f l0 = some r) :
    Calls Try.prog 20 #[.slice A0 l0.length c0] w0 (fun e w' => ∃ v, e = .returned v ∧ colophonref06_Build.post w0 r v w') := by
  have hS : Sat w0 (rf w0) [] := Sat.start w0
  unfold colophonref06_Build.f at H
  refine calls_of_WC (vs := [.slice A0 l0.length c0]) Try.func20 (c := C20) (n := 96) (by kernel_rfl) (by kernel_rfl) (by kernel_rfl) ?_
  refine WC.seq (by kernel_rfl) ?_
  refine WC.reg [0, 1] (by kernel_rfl) (by kernel_rfl) ?_
  refine WR.runk [0, 1] [] [0] (L' := [(0, .slice A0 l0.length c0)]) (w' := w0) (by kernel_rfl) ?_
  refine WR.nil ?_
  refine At.go ?_
  refine WC.seq (by kernel_rfl) ?_
  refine WC.seq (by kernel_rfl) ?_
  refine WC.reg [0, 1, 2] (by kernel_rfl) (by kernel_rfl) ?_
  refine WR.runk [0, 1, 2] [] [0, 20] (L' := [(0, .slice A0 l0.length c0), (20, .bool (decide ((l0.length : Int) > 60)))]) (w' := w0) (by kernel_rfl) ?_
  refine WR.nil ?_
  refine At.go ?_
  refine WC.cond (by kernel_rfl) (decide ((l0.length : Int) > 60)) (by kernel_rfl) (by kernel_rfl) (fun hb1 => ?_) (fun hb1 => ?_)
  · replace H := ite_t H hb1
    refine WC.seq (by kernel_rfl) ?_
    refine WC.reg [0, 1] (by kernel_rfl) (by kernel_rfl) ?_
    refine WR.runk [0, 1] [] [2, 3] (L' := [(2, .slice none 0 0), (3, .int .i64 80)]) (w' := w0) (by kernel_rfl) ?_
    refine WR.nil ?_
    refine At.go ?_
    refine WC.ret (by kernel_rfl) ?_
    refine At.thenRet ?_
    obtain rfl := Option.some.inj H
    have hS := hS.addNil (α := Int) 5 (r0 (.int .u8)) 1
    have hS : Sat w0 (rf w0) [osl 5 (r0 (.int .u8)) 1 none 0 ([] : List Int)] := hS.sel [0] (by kernel_rfl)
    exact At.body [.slice none 0 0, .int .i64 80] (by kernel_rfl) ⟨_, rfl, _, _, rfl, hS⟩
  · replace H := ite_f H hb1
    refine WC.skip (by kernel_rfl) ?_
    refine At.go ?_
    refine WC.seq (by kernel_rfl) ?_
    refine WC.reg [0, 1, 2, 3, 4] (by kernel_rfl) (by kernel_rfl) ?_
    refine WR.runk [0, 1, 2] [3, 4] [0, 23] (L' := [(0, .slice A0 l0.length c0), (23, .int .u8 (IntKind.wrap .u8 (l0.length : Int)))]) (w' := w0) (by kernel_rfl) ?_
    refine WR.st (St.box hS (by kernel_rfl) (.cells #[.int .u8 99, .int .u8 111, .int .u8 108, .int .u8 111, .int .u8 (IntKind.wrap .u8 (l0.length : Int)), .int .u8 0] 5) (fun b2 => .slice (some ⟨b2, 0, none⟩) 6 6) (fun _ => by kernel_rfl) (fun b2 w3 hS => ?_))
    refine WR.runk [4] [] [0, 4] (L' := [(0, .slice A0 l0.length c0), (4, .slice (some ⟨b2, 0, none⟩) 6 6)]) (w' := w3) (by kernel_rfl) ?_
    refine WR.nil ?_
    refine At.go ?_
    refine WC.seq (by kernel_rfl) ?_
    refine WC.reg [0] (by kernel_rfl) (by kernel_rfl) ?_
    refine WR.runk [0] [] [0, 4, 5] (L' := [(0, .slice A0 l0.length c0), (4, .slice (some ⟨b2, 0, none⟩) 6 6), (5, .int .i64 1)]) (w' := w3) (by kernel_rfl) ?_
    refine WR.nil ?_
    refine At.go ?_
    refine WC.seq (by kernel_rfl) ?_
    refine WC.seq (by kernel_rfl) ?_
    refine WC.reg [0, 1, 2] (by kernel_rfl) (by kernel_rfl) ?_
    refine WR.runk [0, 1, 2] [] [0, 4, 5, 25, 26, 27] (L' := [(0, .slice A0 l0.length c0), (4, .slice (some ⟨b2, 0, none⟩) 6 6), (5, .int .i64 1), (25, .slice A0 l0.length c0), (26, .int .i64 (l0.length : Int)), (27, .int .i64 0)]) (w' := w3) (by kernel_rfl) ?_
    refine WR.nil ?_
    refine At.go ?_
    refine WC.block (by kernel_rfl) ?_
    have hS : Sat w3 (rf w0) [osl 5 (r0 (.int .u8)) 1 (some ⟨b2, 0, none⟩) ([99, 111, 108, 111, IntKind.wrap .u8 (l0.length : Int), 0] : List Int).length ([99, 111, 108, 111, IntKind.wrap .u8 (l0.length : Int), 0] : List Int)] := Sat.toOsl' (r0 (.int .u8)) 1 ([99, 111, 108, 111, IntKind.wrap .u8 (l0.length : Int), 0] : List Int) hS rfl (rdL.cons1 rfl (rdL.cons1 rfl (rdL.cons1 rfl (rdL.cons1 rfl (rdL.cons1 rfl (rdL.cons1 rfl (rdL.nil _ _)))))))
    have hS : Sat w3 (rf w0) [osl 5 (r0 (.int .u8)) 1 (some ⟨b2, 0, none⟩) ([99, 111, 108, 111, IntKind.wrap .u8 (l0.length : Int), 0] : List Int).length ([99, 111, 108, 111, IntKind.wrap .u8 (l0.length : Int), 0] : List Int)] := hS.sel [0] (by kernel_rfl)
    obtain ⟨o26, e27, H⟩ := bind_ex H
    refine WC.loop (by kernel_rfl) ?_
    refine WL.weaken [0, 4, 5, 25, 26, 27] (L' := [(0, .slice A0 l0.length c0), (4, .slice (some ⟨b2, 0, none⟩) 6 6), (5, .int .i64 1), (25, .slice A0 l0.length c0), (26, .int .i64 (l0.length : Int)), (27, .int .i64 0)]) (by kernel_rfl) ?_
    refine colophonref06_Build.l1_ok w0 A0 c0 l0 R0 o26 (fun o28 A2_q29 c2_q29 w30 ho31 hS => ?_) (fun o32 A4_q33 c4_q33 w34 ho35 hS => ?_) FU ([99, 111, 108, 111, IntKind.wrap .u8 (l0.length : Int), 0] : List Int) 1 0 (some ⟨b2, 0, none⟩) 6 _ hS e27
    · subst ho31
      dsimp only at H
      refine At.blockRet ?_
      refine At.thenRet ?_
      obtain rfl := Option.some.inj H
      have hS : Sat w30 (rf w0) [osl 5 (r0 (.int .u8)) 1 A2_q29 c2_q29 o28.1] := hS.sel [0] (by kernel_rfl)
      exact At.body [.slice A2_q29 o28.1.length c2_q29, .int .i64 o28.2] (by kernel_rfl) ⟨_, rfl, _, _, rfl, hS⟩
    · subst ho35
      dsimp only at H
      refine At.hit ?_
      refine At.go ?_
      refine WC.seq (by kernel_rfl) ?_
      refine WC.reg [0, 1, 2, 3, 4, 5, 6] (by kernel_rfl) (by kernel_rfl) ?_
      refine WR.runk [0] [1, 2, 3, 4, 5, 6] [0, 60] (L' := [(0, .slice A0 l0.length c0), (60, .slice A4_q33 o32.length c4_q33)]) (w' := w34) (by kernel_rfl) ?_
      obtain ⟨r36, e37, H⟩ := bind_ex H
      refine WR.st (St.call (by kernel_rfl) (f := 33) (args := #[.int .i64 0, .slice A4_q33 o32.length c4_q33]) (by kernel_rfl) (colophonref05_Put.calls w34 0 A4_q33 c4_q33 o32 (Sat.rdAt 0 hS rfl) r36 e37) ?_)
      rintro _ w43 ⟨A45, c46, rfl, hS44⟩
      have hS : Sat w43 (rf w0) [osl 5 (r0 (.int .u8)) 1 A45 c46 r36.1, osl 5 (r0 (.int .u8)) 1 A4_q33 c4_q33 o32] := hS.ext hS44
      refine WR.runk [2, 3, 4, 5, 6] [] [0, 10] (L' := [(0, .slice A0 l0.length c0), (10, .slice A45 r36.1.length c46)]) (w' := w43) (by kernel_rfl) ?_
      refine WR.nil ?_
      refine At.go ?_
      refine WC.seq (by kernel_rfl) ?_
      refine WC.reg [0] (by kernel_rfl) (by kernel_rfl) ?_
      refine WR.runk [0] [] [0, 10, 12] (L' := [(0, .slice A0 l0.length c0), (10, .slice A45 r36.1.length c46), (12, .int .i64 1)]) (w' := w43) (by kernel_rfl) ?_
      refine WR.nil ?_
      refine At.go ?_
      refine WC.seq (by kernel_rfl) ?_
      refine WC.seq (by kernel_rfl) ?_
      refine WC.reg [0, 1, 2] (by kernel_rfl) (by kernel_rfl) ?_
      refine WR.runk [0, 1, 2] [] [10, 12, 64, 65, 66] (L' := [(10, .slice A45 r36.1.length c46), (12, .int .i64 1), (64, .slice A0 l0.length c0), (65, .int .i64 (l0.length : Int)), (66, .int .i64 0)]) (w' := w43) (by kernel_rfl) ?_
      refine WR.nil ?_
      refine At.go ?_
      refine WC.block (by kernel_rfl) ?_
      have hS : Sat w43 (rf w0) [osl 5 (r0 (.int .u8)) 1 A45 c46 r36.1] := hS.sel [0] (by kernel_rfl)
      obtain ⟨o80, e81, H⟩ := bind_ex H
      refine WC.loop (by kernel_rfl) ?_
      refine WL.weaken [10, 12, 64, 65, 66] (L' := [(10, .slice A45 r36.1.length c46), (12, .int .i64 1), (64, .slice A0 l0.length c0), (65, .int .i64 (l0.length : Int)), (66, .int .i64 0)]) (by kernel_rfl) ?_
      refine colophonref06_Build.l3_ok w0 A0 c0 l0 R0 o80 (fun A10_q82 c10_q82 w83 hS => ?_) FU r36.1 1 0 A45 c46 _ hS e81
      refine At.hit ?_
      refine At.go ?_
      refine WC.seq (by kernel_rfl) ?_
      refine WC.reg [0, 1, 2] (by kernel_rfl) (by kernel_rfl) ?_
      refine WR.runk [0, 1, 2] [] [2, 3] (L' := [(2, .slice A10_q82 o80.length c10_q82), (3, .int .i64 0)]) (w' := w83) (by kernel_rfl) ?_
      refine WR.nil ?_
      refine At.go ?_
      refine WC.ret (by kernel_rfl) ?_
      obtain rfl := Option.some.inj H
      have hS : Sat w83 (rf w0) [osl 5 (r0 (.int .u8)) 1 A10_q82 c10_q82 o80] := hS.sel [0] (by kernel_rfl)
      exact At.body [.slice A10_q82 o80.length c10_q82, .int .i64 0] (by kernel_rfl) ⟨_, rfl, _, _, rfl, hS⟩
end Go.Proofs.Ytejjdfnelalnoaa
