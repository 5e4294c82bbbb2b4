/-
  Printed by gen.py (my own tool): for each Go function a plain Lean function and the proof that a call of it does what that function says.
-/
import Derived.Test.YtbcdcpkofgfofaaGP1
set_option linter.unusedVariables false
set_option linter.unusedSimpArgs false
set_option maxRecDepth 100000
namespace Go.Proofs.Ytbcdcpkofgfofaa
open Go Go.Gol
/-! ### 19 colophon/image.Open -/
def image_Open.l1 (l0 : List Int) : Nat → Nat → ((List (List Int)) × (List Int) × (List Int)) → Option (Sum ((List (List Int)) × (List Int) × (List Int)) (((List (List Int)) × (List Int) × (List Int)) × Int))
  | 0, _, _ => none
  | k + 1, o_rg, q9_l1 => (if o_rg < l0.length then ((page_Get.f ((l0.drop o_rg).take 264)).bind fun r29 => (if (r29.2.2 != 0) then some (.inr (q9_l1, 10)) else (if (r29.1 != (q9_l1.1.length : Int)) then some (.inr (q9_l1, 10)) else ((app? 5864062014805 q9_l1.1 [r29.2.1]).bind fun y59 => image_Open.l1 l0 k (o_rg + 264) (y59, q9_l1.2.1, q9_l1.2.2))))) else some (.inl q9_l1))
def image_Open.l2 (r81 : Bool × ((List (List Int)) × (List Int) × (List Int))) : Nat → (List (List Int)) → Int → Option (List (List Int))
  | 0, _, _ => none
  | k + 1, x9_l2, x68_l2 => (if decide (x68_l2 < (r81.2.2.1.length : Int)) then ((image_Image_Section.f (some (r81.2.1, r81.2.2.1, r81.2.2.2)) x68_l2).bind fun r100 => ((app? 5864062014805 x9_l2 [r100]).bind fun y114 => image_Open.l2 r81 k y114 (wi (x68_l2 + 1)))) else some x9_l2)
def image_Open.f (l0 : List Int) : Option ((Option ((List (List Int)) × (List Int) × (List Int))) × Int) := (if ((Int.tmod (l0.length : Int) 264) != 0) then some (none, 10) else (if ((l0.length : Int) == 0) then some (none, 10) else (if decide (wi (Int.tdiv (l0.length : Int) 264) > 4096) then some (none, 10) else ((chk? (decide (l0.length ≤ 4611686018427387904))).bind fun _ => (image_Open.l1 l0 FU 0 (([] : List (List Int)), ([] : List Int), ([] : List Int))).bind fun o70 => (match o70 with | .inl o75 => ((image_Image_head.f o75).bind fun r81 => (if (!r81.1) then some (none, 10) else ((image_Open.l2 r81 FU ([] : List (List Int)) 0).bind fun o123 => ((image_Build.f o123).bind fun r128 => (if (r128.2 != 0) then some (none, 10) else ((slices_Equal.f r128.1 l0).bind fun r142 => (if (!r142) then some (none, 10) else some (some r81.2, 0)))))))) | .inr o77 => some (none, o77.2))))))
def image_Open.post (w : World) (r : (Option ((List (List Int)) × (List Int) × (List Int))) × Int) (v : Value) (w' : World) : Prop := ∃ (v0 : Value), v = .tuple #[v0, .int .i64 r.2] ∧ Sat w' (rf w) [optP O80 v0 r.1]
theorem image_Open.l1_ok {Q} (w0 : World) (A0 : Option Addr) (c0 : Nat) (l0 : List Int) (b1 : Nat) (b4 : Nat) (b7 : Nat) (b10 : Nat) (b23 : Nat) (b24 : Nat) (R0 : rdS (r0 (.int .u8)) 1 (hp w0) A0 c0 l0) (T : Array Value) (l r fn : Nat) (D : List Deferred) (X : RC) (hX : X = ⟨Try.prog, Q, D, 92, [(0, .slice A0 l0.length c0), (2, .pointer (some ⟨b1, 0, none⟩)), (3, .pointer (some ⟨b4, 0, none⟩)), (4, .pointer (some ⟨b10, 0, none⟩)), (31, .func (.func 39) #[] #[.pointer (some ⟨b23, 0, none⟩), .pointer (some ⟨b24, 0, none⟩)])], T, l, r, fn, 32, rgas (cbody (cr (cl (cr (cr (cr C19)))))), rgbody (cbody (cr (cl (cr (cr (cr C19)))))), b23, b24, .cells #[.slice A0 l0.length c0] 31 (0, 0), .cells #[.int .i64 ((264 : Nat) : Int)] 3 (0, 0), A0, l0.length, 264⟩) (out : Sum ((List (List Int)) × (List Int) × (List Int)) (((List (List Int)) × (List Int) × (List Int)) × Int)) (hn0 : ∀ (o0 : ((List (List Int)) × (List Int) × (List Int))) (w : World), out = (.inl o0) → Sat w (rf w0) [mks D, O80 b7 o0, pts b1 (.cells #[.pointer none] 57 (0, 0)), pts b4 (.cells #[.int .i64 0] 32 (0, 0)), pts b10 (.cells #[.pointer (some ⟨b7, 0, none⟩)] 57 (0, 0))] → At ⟨Q, D, none⟩ .normal 92 [(0, .slice A0 l0.length c0), (2, .pointer (some ⟨b1, 0, none⟩)), (3, .pointer (some ⟨b4, 0, none⟩)), (4, .pointer (some ⟨b10, 0, none⟩))] w) (hn1 : ∀ (o1 : ((List (List Int)) × (List Int) × (List Int)) × Int) (w : World), out = (.inr o1) → Sat w (rf w0) [mks D, O80 b7 o1.1, pts b1 (.cells #[.pointer none] 57 (0, 0)), pts b4 (.cells #[.int .i64 o1.2] 32 (0, 0)), pts b10 (.cells #[.pointer (some ⟨b7, 0, none⟩)] 57 (0, 0))] → At ⟨Q, D, none⟩ .ret 92 [(2, .pointer (some ⟨b1, 0, none⟩)), (3, .pointer (some ⟨b4, 0, none⟩))] w) :
    ∀ (k : Nat) (o_rg : Nat) (q9_l1 : (List (List Int)) × (List Int) × (List Int)) (w : World), Sat w (rf w0) [pts l (X.ob .ready none), pts b23 (.cells #[.slice A0 l0.length c0] 31 (0, 0)), pts b24 (.cells #[.int .i64 ((264 : Nat) : Int)] 3 (0, 0)), mks D, O80 b7 q9_l1, pts b1 (.cells #[.pointer none] 57 (0, 0)), pts b4 (.cells #[.int .i64 0] 32 (0, 0)), pts b10 (.cells #[.pointer (some ⟨b7, 0, none⟩)] 57 (0, 0))] → image_Open.l1 l0 k o_rg q9_l1 = some out → RgK X o_rg w := by
  intro k
  induction k with
  | zero => intro o_rg q9_l1 w hS H; exact absurd (show none = some out from H) (by simp)
  | succ k ih =>
    intro o_rg q9_l1 w hS H
    unfold image_Open.l1 at H
    by_cases hb : o_rg < l0.length
    ·rw [if_pos hb] at H
     have R27 : rdS (r0 (.int .u8)) 1 (hp w0) (some (adr A0 o_rg 1)) (min 264 (l0.length - o_rg)) ((l0.drop o_rg).take 264) := rdS.chunk R0 hb kr
     refine RgK.go' hX kr hS hb (chv_eq A0 l0 o_rg 264) (fun w hS => ?_)
     refine WC.reg [0] kr kr ?_
     refine WR.runk [0] [] [2, 3, 4, 5] (L' := [(2, .pointer (some ⟨b1, 0, none⟩)), (3, .pointer (some ⟨b4, 0, none⟩)), (4, .pointer (some ⟨b10, 0, none⟩)), (5, .slice (some (adr A0 o_rg 1)) ((l0.drop o_rg).take 264).length (min 264 (l0.length - o_rg)))]) (w' := w) kr ?_
     refine WR.nil ?_
     refine At.begin' hX hS (fun w28 hS => ?_)
     refine WC.block kr ?_
     refine WC.seq kr ?_
     refine WC.reg [0, 1, 2, 3, 4, 5, 6, 7, 8] kr kr ?_
     refine WR.runk [0] [1, 2, 3, 4, 5, 6, 7, 8] [2, 3, 4, 34] (L' := [(2, .pointer (some ⟨b1, 0, none⟩)), (3, .pointer (some ⟨b4, 0, none⟩)), (4, .pointer (some ⟨b10, 0, none⟩)), (34, .slice (some (adr A0 o_rg 1)) ((l0.drop o_rg).take 264).length (min 264 (l0.length - o_rg)))]) (w' := w28) kr ?_
     obtain ⟨r29, e30, H⟩ := bind_ex H
     refine WR.st (St.call kr (f := 29) (args := #[.slice (some (adr A0 o_rg 1)) ((l0.drop o_rg).take 264).length (min 264 (l0.length - o_rg))]) kr (page_Get.calls w28 (some (adr A0 o_rg 1)) (min 264 (l0.length - o_rg)) ((l0.drop o_rg).take 264) (rdS.up R27 hS.sub0) r29 e30) ?_)
     rintro _ w36 ⟨A38, c39, rfl, hS37⟩
     have hS : Sat w36 (rf w0) [osl 5 (r0 (.int .u8)) 1 A38 c39 r29.2.1, pts l (X.ob .busy none), pts b23 (.cells #[.slice A0 l0.length c0] 31 (0, 0)), pts b24 (.cells #[.int .i64 ((264 : Nat) : Int)] 3 (0, 0)), mks D, O80 b7 q9_l1, pts b1 (.cells #[.pointer none] 57 (0, 0)), pts b4 (.cells #[.int .i64 0] 32 (0, 0)), pts b10 (.cells #[.pointer (some ⟨b7, 0, none⟩)] 57 (0, 0))] := hS.ext hS37
     refine WR.runk [2, 3, 4, 5, 6, 7, 8] [] [2, 3, 4, 6, 7, 8] (L' := [(2, .pointer (some ⟨b1, 0, none⟩)), (3, .pointer (some ⟨b4, 0, none⟩)), (4, .pointer (some ⟨b10, 0, none⟩)), (6, .int .i64 r29.1), (7, .slice A38 r29.2.1.length c39), (8, .int .i64 r29.2.2)]) (w' := w36) kr ?_
     refine WR.nil ?_
     refine At.go ?_
     refine WC.seq kr ?_
     refine WC.seq kr ?_
     refine WC.reg [0, 1, 2, 3, 4, 5, 6, 7, 8, 9, 10] kr kr ?_
     refine WR.runk [0, 1, 2] [3, 4, 5, 6, 7, 8, 9, 10] [2, 3, 4, 6, 7, 41] (L' := [(2, .pointer (some ⟨b1, 0, none⟩)), (3, .pointer (some ⟨b4, 0, none⟩)), (4, .pointer (some ⟨b10, 0, none⟩)), (6, .int .i64 r29.1), (7, .slice A38 r29.2.1.length c39), (41, .bool (r29.2.2 != 0))]) (w' := w36) kr ?_
     refine WR.split 41 (b := (r29.2.2 != 0)) kr (fun hb40 => ?_) (fun hb40 => ?_)
     ·replace H := ite_t H hb40
      refine WR.runk [3, 4, 5, 6, 7, 8, 9, 10] [] [2, 3, 4, 7, 49] (L' := [(2, .pointer (some ⟨b1, 0, none⟩)), (3, .pointer (some ⟨b4, 0, none⟩)), (4, .pointer (some ⟨b10, 0, none⟩)), (7, .slice A38 r29.2.1.length c39), (49, .bool true)]) (w' := w36) kr ?_
      refine WR.nil ?_
      refine At.go ?_
      refine WC.condT kr kr kr ?_
      refine WC.seq kr ?_
      refine WC.reg [0, 1] kr kr ?_
      have hS : Sat w36 (rf w0) [pts b1 (.cells #[.pointer none] 57 (0, 0)), osl 5 (r0 (.int .u8)) 1 A38 c39 r29.2.1, pts l (X.ob .busy none), pts b23 (.cells #[.slice A0 l0.length c0] 31 (0, 0)), pts b24 (.cells #[.int .i64 ((264 : Nat) : Int)] 3 (0, 0)), mks D, O80 b7 q9_l1, pts b4 (.cells #[.int .i64 0] 32 (0, 0)), pts b10 (.cells #[.pointer (some ⟨b7, 0, none⟩)] 57 (0, 0))] := hS.sel [6, 0, 1, 2, 3, 4, 5, 7, 8] kr
      refine WR.st (St.storeObj (t := 57) (k := 0) (cur' := #[.pointer none]) (.tmp 2) (.const (.pointer none)) kr kr kr hS kr kr kr rfl rfl (fun w41 hS => ?_))
      refine WR.runk [] [1] [2, 3] (L' := [(2, .pointer (some ⟨b1, 0, none⟩)), (3, .pointer (some ⟨b4, 0, none⟩))]) (w' := w41) kr ?_
      have hS : Sat w41 (rf w0) [pts b4 (.cells #[.int .i64 0] 32 (0, 0)), pts b1 (.cells #[.pointer none] 57 (0, 0)), osl 5 (r0 (.int .u8)) 1 A38 c39 r29.2.1, pts l (X.ob .busy none), pts b23 (.cells #[.slice A0 l0.length c0] 31 (0, 0)), pts b24 (.cells #[.int .i64 ((264 : Nat) : Int)] 3 (0, 0)), mks D, O80 b7 q9_l1, pts b10 (.cells #[.pointer (some ⟨b7, 0, none⟩)] 57 (0, 0))] := hS.sel [7, 0, 1, 2, 3, 4, 5, 6, 8] kr
      refine WR.st (St.storeObj (t := 32) (k := 0) (cur' := #[.int .i64 10]) (.tmp 3) (.const (.int .i64 10)) kr kr kr hS kr kr kr rfl rfl (fun w42 hS => ?_))
      refine WR.runk [] [] [2, 3] (L' := [(2, .pointer (some ⟨b1, 0, none⟩)), (3, .pointer (some ⟨b4, 0, none⟩))]) (w' := w42) kr ?_
      refine WR.nil ?_
      refine At.go ?_
      refine WC.ret kr ?_
      refine At.thenRet ?_
      refine At.blockRet ?_
      have hS : Sat w42 (rf w0) [pts l (X.ob .busy none), pts b4 (.cells #[.int .i64 10] 32 (0, 0)), pts b1 (.cells #[.pointer none] 57 (0, 0)), osl 5 (r0 (.int .u8)) 1 A38 c39 r29.2.1, pts b23 (.cells #[.slice A0 l0.length c0] 31 (0, 0)), pts b24 (.cells #[.int .i64 ((264 : Nat) : Int)] 3 (0, 0)), mks D, O80 b7 q9_l1, pts b10 (.cells #[.pointer (some ⟨b7, 0, none⟩)] 57 (0, 0))] := hS.sel [3, 0, 1, 2, 4, 5, 6, 7, 8] kr
      refine At.retRound' hX hS (fun w43 hS => ?_)
      obtain rfl := Option.some.inj H
      have hS : Sat w43 (rf w0) [mks D, O80 b7 q9_l1, pts b1 (.cells #[.pointer none] 57 (0, 0)), pts b4 (.cells #[.int .i64 10] 32 (0, 0)), pts b10 (.cells #[.pointer (some ⟨b7, 0, none⟩)] 57 (0, 0))] := hS.sel [6, 7, 2, 1, 8] kr
      refine At.weaken [2, 3] (L' := [(2, .pointer (some ⟨b1, 0, none⟩)), (3, .pointer (some ⟨b4, 0, none⟩))]) kr ?_
      exact hn1 (q9_l1, 10) _ rfl hS
     ·replace H := ite_f H hb40
      refine WR.runk [3] [4, 5, 6, 7, 8, 9, 10] [2, 3, 4, 7, 41, 42] (L' := [(2, .pointer (some ⟨b1, 0, none⟩)), (3, .pointer (some ⟨b4, 0, none⟩)), (4, .pointer (some ⟨b10, 0, none⟩)), (7, .slice A38 r29.2.1.length c39), (41, .bool false), (42, .int .i64 r29.1)]) (w' := w36) kr ?_
      refine WR.st (St.ofR (RSt.loadObj (t := 57) (k := 0) (v := .pointer (some ⟨b7, 0, none⟩)) (.tmp 4) kr kr kr 8 hS rfl kr rfl ?_))
      refine WR.runk [5, 6] [7, 8, 9, 10] [2, 3, 4, 7, 41, 42, 45] (L' := [(2, .pointer (some ⟨b1, 0, none⟩)), (3, .pointer (some ⟨b4, 0, none⟩)), (4, .pointer (some ⟨b10, 0, none⟩)), (7, .slice A38 r29.2.1.length c39), (41, .bool false), (42, .int .i64 r29.1), (45, .pointer (some ⟨b7, 0, none⟩))]) (w' := w36) kr ?_
      have hS : Sat w36 (rf w0) [O80 b7 q9_l1, osl 5 (r0 (.int .u8)) 1 A38 c39 r29.2.1, pts l (X.ob .busy none), pts b23 (.cells #[.slice A0 l0.length c0] 31 (0, 0)), pts b24 (.cells #[.int .i64 ((264 : Nat) : Int)] 3 (0, 0)), mks D, pts b1 (.cells #[.pointer none] 57 (0, 0)), pts b4 (.cells #[.int .i64 0] 32 (0, 0)), pts b10 (.cells #[.pointer (some ⟨b7, 0, none⟩)] 57 (0, 0))] := hS.sel [5, 0, 1, 2, 3, 4, 6, 7, 8] kr
      obtain ⟨A44, c45, A46, c47, A48, c49, hS⟩ := O80.open hS
      have hS : Sat w36 (rf w0) [pts b7 (.cells #[.slice A44 q9_l1.1.length c45, .slice A46 q9_l1.2.1.length c47, .slice A48 q9_l1.2.2.length c49] 80 (0, 0)), orw 31 (Esl 5 (.int .u8)) 1 A44 c45 q9_l1.1, osl 3 (r0 (.int .i64)) 1 A46 c47 q9_l1.2.1, osl 3 (r0 (.int .i64)) 1 A48 c49 q9_l1.2.2, osl 5 (r0 (.int .u8)) 1 A38 c39 r29.2.1, pts l (X.ob .busy none), pts b23 (.cells #[.slice A0 l0.length c0] 31 (0, 0)), pts b24 (.cells #[.int .i64 ((264 : Nat) : Int)] 3 (0, 0)), mks D, pts b1 (.cells #[.pointer none] 57 (0, 0)), pts b4 (.cells #[.int .i64 0] 32 (0, 0)), pts b10 (.cells #[.pointer (some ⟨b7, 0, none⟩)] 57 (0, 0))] := hS
      refine WR.st (St.ofR (RSt.loadObj (t := 71) (k := 0) (v := .slice A44 q9_l1.1.length c45) (.tmp 45) kr kr kr 0 hS rfl kr rfl ?_))
      refine WR.runk [8, 9, 10] [] [2, 3, 4, 7, 49] (L' := [(2, .pointer (some ⟨b1, 0, none⟩)), (3, .pointer (some ⟨b4, 0, none⟩)), (4, .pointer (some ⟨b10, 0, none⟩)), (7, .slice A38 r29.2.1.length c39), (49, .bool (r29.1 != (q9_l1.1.length : Int)))]) (w' := w36) kr ?_
      refine WR.nil ?_
      refine At.go ?_
      refine WC.cond kr (r29.1 != (q9_l1.1.length : Int)) kr kr (fun hb50 => ?_) (fun hb50 => ?_)
      ·replace H := ite_t H hb50
       refine WC.seq kr ?_
       refine WC.reg [0, 1] kr kr ?_
       refine WR.runk [] [0, 1] [2, 3] (L' := [(2, .pointer (some ⟨b1, 0, none⟩)), (3, .pointer (some ⟨b4, 0, none⟩))]) (w' := w36) kr ?_
       have hS : Sat w36 (rf w0) [pts b1 (.cells #[.pointer none] 57 (0, 0)), pts b7 (.cells #[.slice A44 q9_l1.1.length c45, .slice A46 q9_l1.2.1.length c47, .slice A48 q9_l1.2.2.length c49] 80 (0, 0)), orw 31 (Esl 5 (.int .u8)) 1 A44 c45 q9_l1.1, osl 3 (r0 (.int .i64)) 1 A46 c47 q9_l1.2.1, osl 3 (r0 (.int .i64)) 1 A48 c49 q9_l1.2.2, osl 5 (r0 (.int .u8)) 1 A38 c39 r29.2.1, pts l (X.ob .busy none), pts b23 (.cells #[.slice A0 l0.length c0] 31 (0, 0)), pts b24 (.cells #[.int .i64 ((264 : Nat) : Int)] 3 (0, 0)), mks D, pts b4 (.cells #[.int .i64 0] 32 (0, 0)), pts b10 (.cells #[.pointer (some ⟨b7, 0, none⟩)] 57 (0, 0))] := hS.sel [9, 0, 1, 2, 3, 4, 5, 6, 7, 8, 10, 11] kr
       refine WR.st (St.storeObj (t := 57) (k := 0) (cur' := #[.pointer none]) (.tmp 2) (.const (.pointer none)) kr kr kr hS kr kr kr rfl rfl (fun w51 hS => ?_))
       refine WR.runk [] [1] [2, 3] (L' := [(2, .pointer (some ⟨b1, 0, none⟩)), (3, .pointer (some ⟨b4, 0, none⟩))]) (w' := w51) kr ?_
       have hS : Sat w51 (rf w0) [pts b4 (.cells #[.int .i64 0] 32 (0, 0)), pts b1 (.cells #[.pointer none] 57 (0, 0)), pts b7 (.cells #[.slice A44 q9_l1.1.length c45, .slice A46 q9_l1.2.1.length c47, .slice A48 q9_l1.2.2.length c49] 80 (0, 0)), orw 31 (Esl 5 (.int .u8)) 1 A44 c45 q9_l1.1, osl 3 (r0 (.int .i64)) 1 A46 c47 q9_l1.2.1, osl 3 (r0 (.int .i64)) 1 A48 c49 q9_l1.2.2, osl 5 (r0 (.int .u8)) 1 A38 c39 r29.2.1, pts l (X.ob .busy none), pts b23 (.cells #[.slice A0 l0.length c0] 31 (0, 0)), pts b24 (.cells #[.int .i64 ((264 : Nat) : Int)] 3 (0, 0)), mks D, pts b10 (.cells #[.pointer (some ⟨b7, 0, none⟩)] 57 (0, 0))] := hS.sel [10, 0, 1, 2, 3, 4, 5, 6, 7, 8, 9, 11] kr
       refine WR.st (St.storeObj (t := 32) (k := 0) (cur' := #[.int .i64 10]) (.tmp 3) (.const (.int .i64 10)) kr kr kr hS kr kr kr rfl rfl (fun w52 hS => ?_))
       refine WR.runk [] [] [2, 3] (L' := [(2, .pointer (some ⟨b1, 0, none⟩)), (3, .pointer (some ⟨b4, 0, none⟩))]) (w' := w52) kr ?_
       refine WR.nil ?_
       refine At.go ?_
       refine WC.ret kr ?_
       refine At.thenRet ?_
       refine At.blockRet ?_
       have hS : Sat w52 (rf w0) [pts l (X.ob .busy none), pts b4 (.cells #[.int .i64 10] 32 (0, 0)), pts b1 (.cells #[.pointer none] 57 (0, 0)), pts b7 (.cells #[.slice A44 q9_l1.1.length c45, .slice A46 q9_l1.2.1.length c47, .slice A48 q9_l1.2.2.length c49] 80 (0, 0)), orw 31 (Esl 5 (.int .u8)) 1 A44 c45 q9_l1.1, osl 3 (r0 (.int .i64)) 1 A46 c47 q9_l1.2.1, osl 3 (r0 (.int .i64)) 1 A48 c49 q9_l1.2.2, osl 5 (r0 (.int .u8)) 1 A38 c39 r29.2.1, pts b23 (.cells #[.slice A0 l0.length c0] 31 (0, 0)), pts b24 (.cells #[.int .i64 ((264 : Nat) : Int)] 3 (0, 0)), mks D, pts b10 (.cells #[.pointer (some ⟨b7, 0, none⟩)] 57 (0, 0))] := hS.sel [7, 0, 1, 2, 3, 4, 5, 6, 8, 9, 10, 11] kr
       refine At.retRound' hX hS (fun w53 hS => ?_)
       obtain rfl := Option.some.inj H
       have hS : Sat w53 (rf w0) [pts b7 (.cells #[.slice A44 q9_l1.1.length c45, .slice A46 q9_l1.2.1.length c47, .slice A48 q9_l1.2.2.length c49] 80 (0, 0)), orw 31 (Esl 5 (.int .u8)) 1 A44 c45 q9_l1.1, osl 3 (r0 (.int .i64)) 1 A46 c47 q9_l1.2.1, osl 3 (r0 (.int .i64)) 1 A48 c49 q9_l1.2.2, pts l (X.ob .exhausted (some .ret)), pts b4 (.cells #[.int .i64 10] 32 (0, 0)), pts b1 (.cells #[.pointer none] 57 (0, 0)), osl 5 (r0 (.int .u8)) 1 A38 c39 r29.2.1, pts b23 (.cells #[.slice A0 l0.length c0] 31 (0, 0)), pts b24 (.cells #[.int .i64 ((264 : Nat) : Int)] 3 (0, 0)), mks D, pts b10 (.cells #[.pointer (some ⟨b7, 0, none⟩)] 57 (0, 0))] := hS.sel [3, 4, 5, 6, 0, 1, 2, 7, 8, 9, 10, 11] kr
       have hS : Sat w53 (rf w0) [O80 b7 q9_l1, pts l (X.ob .exhausted (some .ret)), pts b4 (.cells #[.int .i64 10] 32 (0, 0)), pts b1 (.cells #[.pointer none] 57 (0, 0)), osl 5 (r0 (.int .u8)) 1 A38 c39 r29.2.1, pts b23 (.cells #[.slice A0 l0.length c0] 31 (0, 0)), pts b24 (.cells #[.int .i64 ((264 : Nat) : Int)] 3 (0, 0)), mks D, pts b10 (.cells #[.pointer (some ⟨b7, 0, none⟩)] 57 (0, 0))] := O80.close q9_l1 A44 c45 A46 c47 A48 c49 hS
       have hS : Sat w53 (rf w0) [mks D, O80 b7 q9_l1, pts b1 (.cells #[.pointer none] 57 (0, 0)), pts b4 (.cells #[.int .i64 10] 32 (0, 0)), pts b10 (.cells #[.pointer (some ⟨b7, 0, none⟩)] 57 (0, 0))] := hS.sel [7, 0, 3, 2, 8] kr
       refine At.weaken [2, 3] (L' := [(2, .pointer (some ⟨b1, 0, none⟩)), (3, .pointer (some ⟨b4, 0, none⟩))]) kr ?_
       exact hn1 (q9_l1, 10) _ rfl hS
      ·replace H := ite_f H hb50
       refine WC.skip kr ?_
       refine At.go ?_
       refine WC.drawn kr kr 11 kr (fun w54 hw55 => ?_)
       have hS := hS.heap hw55.1 hw55.2
       refine WD.weaken [4, 7] (L' := [(4, .pointer (some ⟨b10, 0, none⟩)), (7, .slice A38 r29.2.1.length c39)]) kr ?_
       refine WD.ofR (i := 0) kr (RSt.loadObj (t := 57) (k := 0) (v := .pointer (some ⟨b7, 0, none⟩)) (.tmp 4) kr kr kr 11 hS rfl kr rfl ?_)
       refine WD.weaken [4, 7, 50] (L' := [(4, .pointer (some ⟨b10, 0, none⟩)), (7, .slice A38 r29.2.1.length c39), (50, .pointer (some ⟨b7, 0, none⟩))]) kr ?_
       refine WD.ofR (i := 1) kr (RSt.loadObj (t := 57) (k := 0) (v := .pointer (some ⟨b7, 0, none⟩)) (.tmp 4) kr kr kr 11 hS rfl kr rfl ?_)
       refine WD.weaken [7, 50, 51] (L' := [(7, .slice A38 r29.2.1.length c39), (50, .pointer (some ⟨b7, 0, none⟩)), (51, .pointer (some ⟨b7, 0, none⟩))]) kr ?_
       refine WD.pure (i := 2) (v := .pointer (some ⟨b7, 0, none⟩)) kr kr (fun _ => by kernel_rfl) ?_
       refine WD.weaken [7, 50, 52] (L' := [(7, .slice A38 r29.2.1.length c39), (50, .pointer (some ⟨b7, 0, none⟩)), (52, .pointer (some ⟨b7, 0, none⟩))]) kr ?_
       refine WD.pure (i := 3) (v := .pointer (some ⟨b7, 0, none⟩)) kr kr (fun _ => by kernel_rfl) ?_
       refine WD.weaken [7, 50, 53] (L' := [(7, .slice A38 r29.2.1.length c39), (50, .pointer (some ⟨b7, 0, none⟩)), (53, .pointer (some ⟨b7, 0, none⟩))]) kr ?_
       refine WD.ofR (i := 4) kr (RSt.loadObj (t := 71) (k := 0) (v := .slice A44 q9_l1.1.length c45) (.tmp 53) kr kr kr 0 hS rfl kr rfl ?_)
       refine WD.weaken [7, 50, 54] (L' := [(7, .slice A38 r29.2.1.length c39), (50, .pointer (some ⟨b7, 0, none⟩)), (54, .slice A44 q9_l1.1.length c45)]) kr ?_
       refine WD.pure (i := 5) (v := .slice A38 r29.2.1.length c39) kr kr (fun _ => by kernel_rfl) ?_
       refine WD.weaken [50, 54, 55] (L' := [(50, .pointer (some ⟨b7, 0, none⟩)), (54, .slice A44 q9_l1.1.length c45), (55, .slice A38 r29.2.1.length c39)]) kr ?_
       refine WD.act (i := 6) kr (St.box hS kr (.cells #[.slice A38 r29.2.1.length c39] 31) (fun b56 => .slice (some ⟨b56, 0, none⟩) 1 1) (fun _ => by kernel_rfl) (fun b56 w57 hS => ?_))
       refine ⟨(asked.cons (RSt.run (n := 92) (RSt.loadObj (t := 71) (k := 0) (v := .slice A44 q9_l1.1.length c45) (.tmp 53) kr kr kr 1 hS rfl kr rfl rfl)) (asked.cons (RSt.run (n := 92) (RSt.loadObj (t := 57) (k := 0) (v := .pointer (some ⟨b7, 0, none⟩)) (.tmp 4) kr kr kr 12 hS rfl kr rfl rfl)) (asked.cons (RSt.run (n := 92) (RSt.loadObj (t := 57) (k := 0) (v := .pointer (some ⟨b7, 0, none⟩)) (.tmp 4) kr kr kr 12 hS rfl kr rfl rfl)) (asked.nil _ _)))), ?_⟩
       refine WD.weaken [50, 54, 56] (L' := [(50, .pointer (some ⟨b7, 0, none⟩)), (54, .slice A44 q9_l1.1.length c45), (56, .slice (some ⟨b56, 0, none⟩) 1 1)]) kr ?_
       have hS : Sat w57 (rf w0) [orw 31 (Esl 5 (.int .u8)) 1 A44 c45 q9_l1.1, pts b56 (.cells #[.slice A38 r29.2.1.length c39] 31 (0, 0)), pts b7 (.cells #[.slice A44 q9_l1.1.length c45, .slice A46 q9_l1.2.1.length c47, .slice A48 q9_l1.2.2.length c49] 80 (0, 0)), osl 3 (r0 (.int .i64)) 1 A46 c47 q9_l1.2.1, osl 3 (r0 (.int .i64)) 1 A48 c49 q9_l1.2.2, osl 5 (r0 (.int .u8)) 1 A38 c39 r29.2.1, pts l (X.ob .busy none), pts b23 (.cells #[.slice A0 l0.length c0] 31 (0, 0)), pts b24 (.cells #[.int .i64 ((264 : Nat) : Int)] 3 (0, 0)), mks D, pts b1 (.cells #[.pointer none] 57 (0, 0)), pts b4 (.cells #[.int .i64 0] 32 (0, 0)), pts b10 (.cells #[.pointer (some ⟨b7, 0, none⟩)] 57 (0, 0))] := hS.sel [2, 0, 1, 3, 4, 5, 6, 7, 8, 9, 10, 11, 12] kr
       have hS : Sat w57 (rf w0) [osl 5 (r0 (.int .u8)) 1 A38 c39 r29.2.1, orw 31 (Esl 5 (.int .u8)) 1 A44 c45 q9_l1.1, pts b56 (.cells #[.slice A38 r29.2.1.length c39] 31 (0, 0)), pts b7 (.cells #[.slice A44 q9_l1.1.length c45, .slice A46 q9_l1.2.1.length c47, .slice A48 q9_l1.2.2.length c49] 80 (0, 0)), osl 3 (r0 (.int .i64)) 1 A46 c47 q9_l1.2.1, osl 3 (r0 (.int .i64)) 1 A48 c49 q9_l1.2.2, pts l (X.ob .busy none), pts b23 (.cells #[.slice A0 l0.length c0] 31 (0, 0)), pts b24 (.cells #[.int .i64 ((264 : Nat) : Int)] 3 (0, 0)), mks D, pts b1 (.cells #[.pointer none] 57 (0, 0)), pts b4 (.cells #[.int .i64 0] 32 (0, 0)), pts b10 (.cells #[.pointer (some ⟨b7, 0, none⟩)] 57 (0, 0))] := hS.sel [5, 0, 1, 2, 3, 4, 6, 7, 8, 9, 10, 11, 12] kr
       have hS : Sat w57 (rf w0) [orw 31 (Esl 5 (.int .u8)) 1 A44 c45 q9_l1.1, osl 5 (r0 (.int .u8)) 1 A38 c39 r29.2.1, pts b56 (.cells #[.slice A38 r29.2.1.length c39] 31 (0, 0)), pts b7 (.cells #[.slice A44 q9_l1.1.length c45, .slice A46 q9_l1.2.1.length c47, .slice A48 q9_l1.2.2.length c49] 80 (0, 0)), osl 3 (r0 (.int .i64)) 1 A46 c47 q9_l1.2.1, osl 3 (r0 (.int .i64)) 1 A48 c49 q9_l1.2.2, pts l (X.ob .busy none), pts b23 (.cells #[.slice A0 l0.length c0] 31 (0, 0)), pts b24 (.cells #[.int .i64 ((264 : Nat) : Int)] 3 (0, 0)), mks D, pts b1 (.cells #[.pointer none] 57 (0, 0)), pts b4 (.cells #[.int .i64 0] 32 (0, 0)), pts b10 (.cells #[.pointer (some ⟨b7, 0, none⟩)] 57 (0, 0))] := hS.sel [1, 0, 2, 3, 4, 5, 6, 7, 8, 9, 10, 11, 12] kr
       obtain ⟨y59, e58, H⟩ := bind_ex H
       refine WD.act (i := 7) kr (St.appendOwn (.tmp 54) (.tmp 56) kr kr E71 (fun H h => Esl.mk H h) hS 0 rfl kr kr kr kr 5864062014805 kr kr e58 (fun A60 c61 w62 K63 hS hK64 hM65 => ?_))
       refine ⟨(asked.anc kr (asked.anc kr (asked.cons (RSt.run (n := 92) (RSt.loadObj (t := 57) (k := 0) (v := .pointer (some ⟨b7, 0, none⟩)) (.tmp 4) kr kr kr 11 hS rfl kr rfl rfl)) (asked.nil _ _)))), ?_⟩
       have R66 : rdS (rd K63 (.slice 5 (.int .u8))) 1 K63 A60 c61 y59 := orw.rdS (κ := (.slice 5 (.int .u8))) (Esl.rd (e := 5) (κ := (.int .u8))) hK64
       have R67 : rdS (r0 (.int .u8)) 1 K63 A38 c39 r29.2.1 := by obtain ⟨M, hM, hm⟩ := hM65; exact (osl.read hm).mono hM (fun _ _ h => h)
       refine WD.weaken [50, 57] (L' := [(50, .pointer (some ⟨b7, 0, none⟩)), (57, .slice A60 y59.length c61)]) kr ?_
       refine WD.pure (i := 8) (v := .pointer (some ⟨b7, 0, none⟩)) kr kr (fun _ => by kernel_rfl) ?_
       refine WD.weaken [57, 58] (L' := [(57, .slice A60 y59.length c61), (58, .pointer (some ⟨b7, 0, none⟩))]) kr ?_
       refine WD.pure (i := 9) (v := .pointer (some ⟨b7, 0, none⟩)) kr kr (fun _ => by kernel_rfl) ?_
       refine WD.weaken [57, 59] (L' := [(57, .slice A60 y59.length c61), (59, .pointer (some ⟨b7, 0, none⟩))]) kr ?_
       have hS : Sat w62 (rf w0) [pts b7 (.cells #[.slice A44 q9_l1.1.length c45, .slice A46 q9_l1.2.1.length c47, .slice A48 q9_l1.2.2.length c49] 80 (0, 0)), gh K63, pts b56 (.cells #[.slice A38 r29.2.1.length c39] 31 (0, 0)), osl 3 (r0 (.int .i64)) 1 A46 c47 q9_l1.2.1, osl 3 (r0 (.int .i64)) 1 A48 c49 q9_l1.2.2, pts l (X.ob .busy none), pts b23 (.cells #[.slice A0 l0.length c0] 31 (0, 0)), pts b24 (.cells #[.int .i64 ((264 : Nat) : Int)] 3 (0, 0)), mks D, pts b1 (.cells #[.pointer none] 57 (0, 0)), pts b4 (.cells #[.int .i64 0] 32 (0, 0)), pts b10 (.cells #[.pointer (some ⟨b7, 0, none⟩)] 57 (0, 0))] := hS.sel [2, 0, 1, 3, 4, 5, 6, 7, 8, 9, 10, 11] kr
       refine WD.act (i := 10) kr (St.storeObj (t := 71) (k := 0) (cur' := #[.slice A60 y59.length c61, .slice A46 q9_l1.2.1.length c47, .slice A48 q9_l1.2.2.length c49]) (.tmp 59) (.tmp 57) kr kr kr hS kr kr kr rfl rfl (fun w68 hS => ?_))
       refine ⟨(asked.anc kr (asked.anc kr (asked.anc kr (asked.nil _ _)))), ?_⟩
       refine WD.weaken [] (L' := []) kr ?_
       refine WD.nil kr ?_
       refine At.blockNormal ?_
       have hS : Sat w68 (rf w0) [gh K63, pts b7 (.cells #[.slice A60 y59.length c61, .slice A46 q9_l1.2.1.length c47, .slice A48 q9_l1.2.2.length c49] 80 (0, 0)), pts b56 (.cells #[.slice A38 r29.2.1.length c39] 31 (0, 0)), osl 3 (r0 (.int .i64)) 1 A46 c47 q9_l1.2.1, osl 3 (r0 (.int .i64)) 1 A48 c49 q9_l1.2.2, pts l (X.ob .busy none), pts b23 (.cells #[.slice A0 l0.length c0] 31 (0, 0)), pts b24 (.cells #[.int .i64 ((264 : Nat) : Int)] 3 (0, 0)), mks D, pts b1 (.cells #[.pointer none] 57 (0, 0)), pts b4 (.cells #[.int .i64 0] 32 (0, 0)), pts b10 (.cells #[.pointer (some ⟨b7, 0, none⟩)] 57 (0, 0))] := hS.sel [1, 0, 2, 3, 4, 5, 6, 7, 8, 9, 10, 11] kr
       have hS : Sat w68 (rf w0) [orw 31 (Esl 5 (.int .u8)) 1 A60 c61 y59, pts b7 (.cells #[.slice A60 y59.length c61, .slice A46 q9_l1.2.1.length c47, .slice A48 q9_l1.2.2.length c49] 80 (0, 0)), pts b56 (.cells #[.slice A38 r29.2.1.length c39] 31 (0, 0)), osl 3 (r0 (.int .i64)) 1 A46 c47 q9_l1.2.1, osl 3 (r0 (.int .i64)) 1 A48 c49 q9_l1.2.2, pts l (X.ob .busy none), pts b23 (.cells #[.slice A0 l0.length c0] 31 (0, 0)), pts b24 (.cells #[.int .i64 ((264 : Nat) : Int)] 3 (0, 0)), mks D, pts b1 (.cells #[.pointer none] 57 (0, 0)), pts b4 (.cells #[.int .i64 0] 32 (0, 0)), pts b10 (.cells #[.pointer (some ⟨b7, 0, none⟩)] 57 (0, 0))] := Sat.ungh hK64 hS
       have hS : Sat w68 (rf w0) [pts b7 (.cells #[.slice A60 y59.length c61, .slice A46 q9_l1.2.1.length c47, .slice A48 q9_l1.2.2.length c49] 80 (0, 0)), orw 31 (Esl 5 (.int .u8)) 1 A60 c61 y59, osl 3 (r0 (.int .i64)) 1 A46 c47 q9_l1.2.1, osl 3 (r0 (.int .i64)) 1 A48 c49 q9_l1.2.2, pts b56 (.cells #[.slice A38 r29.2.1.length c39] 31 (0, 0)), pts l (X.ob .busy none), pts b23 (.cells #[.slice A0 l0.length c0] 31 (0, 0)), pts b24 (.cells #[.int .i64 ((264 : Nat) : Int)] 3 (0, 0)), mks D, pts b1 (.cells #[.pointer none] 57 (0, 0)), pts b4 (.cells #[.int .i64 0] 32 (0, 0)), pts b10 (.cells #[.pointer (some ⟨b7, 0, none⟩)] 57 (0, 0))] := hS.sel [1, 0, 3, 4, 2, 5, 6, 7, 8, 9, 10, 11] kr
       have hS : Sat w68 (rf w0) [O80 b7 (y59, q9_l1.2.1, q9_l1.2.2), pts b56 (.cells #[.slice A38 r29.2.1.length c39] 31 (0, 0)), pts l (X.ob .busy none), pts b23 (.cells #[.slice A0 l0.length c0] 31 (0, 0)), pts b24 (.cells #[.int .i64 ((264 : Nat) : Int)] 3 (0, 0)), mks D, pts b1 (.cells #[.pointer none] 57 (0, 0)), pts b4 (.cells #[.int .i64 0] 32 (0, 0)), pts b10 (.cells #[.pointer (some ⟨b7, 0, none⟩)] 57 (0, 0))] := O80.close (y59, q9_l1.2.1, q9_l1.2.2) A60 c61 A46 c47 A48 c49 hS
       have hS : Sat w68 (rf w0) [pts l (X.ob .busy none), pts b23 (.cells #[.slice A0 l0.length c0] 31 (0, 0)), pts b24 (.cells #[.int .i64 ((264 : Nat) : Int)] 3 (0, 0)), mks D, O80 b7 (y59, q9_l1.2.1, q9_l1.2.2), pts b1 (.cells #[.pointer none] 57 (0, 0)), pts b4 (.cells #[.int .i64 0] 32 (0, 0)), pts b10 (.cells #[.pointer (some ⟨b7, 0, none⟩)] 57 (0, 0))] := hS.sel [2, 3, 4, 5, 0, 6, 7, 8] kr
       refine At.endRound' hX hS (fun w69 hS => ?_)
       exact ih (o_rg + 264) (y59, q9_l1.2.1, q9_l1.2.2) _ hS H
    ·rw [if_neg hb] at H
     refine RgK.stop' hX hS (by omega) (fun w hS => ?_)
     obtain rfl := Option.some.inj H
     have hS : Sat w (rf w0) [mks D, O80 b7 q9_l1, pts b1 (.cells #[.pointer none] 57 (0, 0)), pts b4 (.cells #[.int .i64 0] 32 (0, 0)), pts b10 (.cells #[.pointer (some ⟨b7, 0, none⟩)] 57 (0, 0))] := hS.sel [3, 4, 5, 6, 7] kr
     refine At.weaken [0, 2, 3, 4] (L' := [(0, .slice A0 l0.length c0), (2, .pointer (some ⟨b1, 0, none⟩)), (3, .pointer (some ⟨b4, 0, none⟩)), (4, .pointer (some ⟨b10, 0, none⟩))]) kr ?_
     exact hn0 q9_l1 _ rfl hS
theorem image_Open.l2_ok {Q} (w0 : World) (A0 : Option Addr) (c0 : Nat) (l0 : List Int) (b1 : Nat) (b4 : Nat) (b7 : Nat) (b10 : Nat) (r81 : Bool × ((List (List Int)) × (List Int) × (List Int))) (A93 : Option Addr) (c94 : Nat) (A95 : Option Addr) (c96 : Nat) (A97 : Option Addr) (c98 : Nat) (out : (List (List Int))) (hn0 : ∀ (A9_q : Option Addr) (c9_q : Nat) (D_q : List Deferred) (w : World), Sat w (rf w0) [mks D_q, orw 31 (Esl 5 (.int .u8)) 1 A9_q c9_q out, pts b1 (.cells #[.pointer none] 57 (0, 0)), pts b4 (.cells #[.int .i64 0] 32 (0, 0)), pts b10 (.cells #[.pointer (some ⟨b7, 0, none⟩)] 57 (0, 0)), pts b7 (.cells #[.slice A93 r81.2.1.length c94, .slice A95 r81.2.2.1.length c96, .slice A97 r81.2.2.2.length c98] 80 (0, 0)), orw 31 (Esl 5 (.int .u8)) 1 A93 c94 r81.2.1, osl 3 (r0 (.int .i64)) 1 A95 c96 r81.2.2.1, osl 3 (r0 (.int .i64)) 1 A97 c98 r81.2.2.2] → At ⟨Q, D_q, none⟩ (.exit 2) 92 [(0, .slice A0 l0.length c0), (2, .pointer (some ⟨b1, 0, none⟩)), (3, .pointer (some ⟨b4, 0, none⟩)), (4, .pointer (some ⟨b10, 0, none⟩)), (9, .slice A9_q out.length c9_q)] w) :
    ∀ (k : Nat) (x9_l2 : List (List Int)) (x68_l2 : Int) (A9_l2 : Option Addr) (c9_l2 : Nat) (D_l2 : List Deferred) (w : World), Sat w (rf w0) [orw 31 (Esl 5 (.int .u8)) 1 A9_l2 c9_l2 x9_l2, pts b1 (.cells #[.pointer none] 57 (0, 0)), pts b4 (.cells #[.int .i64 0] 32 (0, 0)), pts b10 (.cells #[.pointer (some ⟨b7, 0, none⟩)] 57 (0, 0)), pts b7 (.cells #[.slice A93 r81.2.1.length c94, .slice A95 r81.2.2.1.length c96, .slice A97 r81.2.2.2.length c98] 80 (0, 0)), orw 31 (Esl 5 (.int .u8)) 1 A93 c94 r81.2.1, osl 3 (r0 (.int .i64)) 1 A95 c96 r81.2.2.1, osl 3 (r0 (.int .i64)) 1 A97 c98 r81.2.2.2, mks D_l2] → image_Open.l2 r81 k x9_l2 x68_l2 = some out → WL Try.prog (cbody (cbody (cr (cl (cr (cr (cr (cr (cr (cr C19)))))))))) ⟨Q, D_l2, none⟩ 92 [(0, .slice A0 l0.length c0), (2, .pointer (some ⟨b1, 0, none⟩)), (3, .pointer (some ⟨b4, 0, none⟩)), (4, .pointer (some ⟨b10, 0, none⟩)), (9, .slice A9_l2 x9_l2.length c9_l2), (67, .int .i64 (r81.2.2.1.length : Int)), (68, .int .i64 x68_l2)] w := by
  intro k
  induction k with
  | zero => intro x9_l2 x68_l2 A9_l2 c9_l2 D_l2 w hS H; exact absurd (show none = some out from H) (by simp)
  | succ k ih =>
    intro x9_l2 x68_l2 A9_l2 c9_l2 D_l2 w hS H
    unfold image_Open.l2 at H
    refine WL.round ?_
    refine WC.seq kr ?_
    refine WC.reg [0] kr kr ?_
    refine WR.runk [0] [] [0, 2, 3, 4, 9, 67, 68, 69] (L' := [(0, .slice A0 l0.length c0), (2, .pointer (some ⟨b1, 0, none⟩)), (3, .pointer (some ⟨b4, 0, none⟩)), (4, .pointer (some ⟨b10, 0, none⟩)), (9, .slice A9_l2 x9_l2.length c9_l2), (67, .int .i64 (r81.2.2.1.length : Int)), (68, .int .i64 x68_l2), (69, .bool (decide (x68_l2 < (r81.2.2.1.length : Int))))]) (w' := w) kr ?_
    refine WR.nil ?_
    refine At.go ?_
    refine WC.seq kr ?_
    refine WC.cond kr (decide (x68_l2 < (r81.2.2.1.length : Int))) kr kr (fun hb99 => ?_) (fun hb99 => ?_)
    ·replace H := ite_t H hb99
     refine WC.skip kr ?_
     refine At.go ?_
     refine WC.seq kr ?_
     refine WC.block kr ?_
     refine WC.seq kr ?_
     refine WC.reg [0, 1] kr kr ?_
     refine WR.runk [0, 1] [] [0, 2, 3, 4, 9, 10, 67, 68] (L' := [(0, .slice A0 l0.length c0), (2, .pointer (some ⟨b1, 0, none⟩)), (3, .pointer (some ⟨b4, 0, none⟩)), (4, .pointer (some ⟨b10, 0, none⟩)), (9, .slice A9_l2 x9_l2.length c9_l2), (10, .int .i64 x68_l2), (67, .int .i64 (r81.2.2.1.length : Int)), (68, .int .i64 x68_l2)]) (w' := w) kr ?_
     refine WR.nil ?_
     refine At.go ?_
     refine WC.reg [0, 1, 2, 3, 4, 5, 6] kr kr ?_
     refine WR.runk [0] [1, 2, 3, 4, 5, 6] [0, 2, 3, 4, 9, 10, 67, 68, 71] (L' := [(0, .slice A0 l0.length c0), (2, .pointer (some ⟨b1, 0, none⟩)), (3, .pointer (some ⟨b4, 0, none⟩)), (4, .pointer (some ⟨b10, 0, none⟩)), (9, .slice A9_l2 x9_l2.length c9_l2), (10, .int .i64 x68_l2), (67, .int .i64 (r81.2.2.1.length : Int)), (68, .int .i64 x68_l2), (71, .slice A9_l2 x9_l2.length c9_l2)]) (w' := w) kr ?_
     refine WR.st (St.ofR (RSt.loadObj (t := 57) (k := 0) (v := .pointer (some ⟨b7, 0, none⟩)) (.tmp 4) kr kr kr 3 hS rfl kr rfl ?_))
     refine WR.runk [2] [3, 4, 5, 6] [0, 2, 3, 4, 9, 67, 68, 71, 72, 73] (L' := [(0, .slice A0 l0.length c0), (2, .pointer (some ⟨b1, 0, none⟩)), (3, .pointer (some ⟨b4, 0, none⟩)), (4, .pointer (some ⟨b10, 0, none⟩)), (9, .slice A9_l2 x9_l2.length c9_l2), (67, .int .i64 (r81.2.2.1.length : Int)), (68, .int .i64 x68_l2), (71, .slice A9_l2 x9_l2.length c9_l2), (72, .pointer (some ⟨b7, 0, none⟩)), (73, .int .i64 x68_l2)]) (w' := w) kr ?_
     obtain ⟨r100, e101, H⟩ := bind_ex H
     refine WR.st (St.call kr (f := 31) (args := #[.pointer (some ⟨b7, 0, none⟩), .int .i64 x68_l2]) kr (image_Image_Section.calls w (.pointer (some ⟨b7, 0, none⟩)) (some (r81.2.1, r81.2.2.1, r81.2.2.2)) (P80.mk (y := (r81.2.1, r81.2.2.1, r81.2.2.2)) (Sat.blockAt 4 hS rfl) (Sat.rdAnyS 5 hS rfl (fun _ h => orw.rdS (κ := (.slice 5 (.int .u8))) (Esl.rd (e := 5) (κ := (.int .u8))) h)) (Sat.rdAt 6 hS rfl) (Sat.rdAt 7 hS rfl)) x68_l2 r100 e101) ?_)
     rintro _ w107 ⟨A109, c110, rfl, hS108⟩
     have hS : Sat w107 (rf w0) [osl 5 (r0 (.int .u8)) 1 A109 c110 r100, orw 31 (Esl 5 (.int .u8)) 1 A9_l2 c9_l2 x9_l2, pts b1 (.cells #[.pointer none] 57 (0, 0)), pts b4 (.cells #[.int .i64 0] 32 (0, 0)), pts b10 (.cells #[.pointer (some ⟨b7, 0, none⟩)] 57 (0, 0)), pts b7 (.cells #[.slice A93 r81.2.1.length c94, .slice A95 r81.2.2.1.length c96, .slice A97 r81.2.2.2.length c98] 80 (0, 0)), orw 31 (Esl 5 (.int .u8)) 1 A93 c94 r81.2.1, osl 3 (r0 (.int .i64)) 1 A95 c96 r81.2.2.1, osl 3 (r0 (.int .i64)) 1 A97 c98 r81.2.2.2, mks D_l2] := hS.ext hS108
     refine WR.runk [] [4, 5, 6] [0, 2, 3, 4, 9, 67, 68, 71, 74] (L' := [(0, .slice A0 l0.length c0), (2, .pointer (some ⟨b1, 0, none⟩)), (3, .pointer (some ⟨b4, 0, none⟩)), (4, .pointer (some ⟨b10, 0, none⟩)), (9, .slice A9_l2 x9_l2.length c9_l2), (67, .int .i64 (r81.2.2.1.length : Int)), (68, .int .i64 x68_l2), (71, .slice A9_l2 x9_l2.length c9_l2), (74, .slice A109 r100.length c110)]) (w' := w107) kr ?_
     refine WR.st (St.box hS kr (.cells #[.slice A109 r100.length c110] 31) (fun b111 => .slice (some ⟨b111, 0, none⟩) 1 1) (fun _ => by kernel_rfl) (fun b111 w112 hS => ?_))
     refine WR.runk [] [5, 6] [0, 2, 3, 4, 9, 67, 68, 71, 75] (L' := [(0, .slice A0 l0.length c0), (2, .pointer (some ⟨b1, 0, none⟩)), (3, .pointer (some ⟨b4, 0, none⟩)), (4, .pointer (some ⟨b10, 0, none⟩)), (9, .slice A9_l2 x9_l2.length c9_l2), (67, .int .i64 (r81.2.2.1.length : Int)), (68, .int .i64 x68_l2), (71, .slice A9_l2 x9_l2.length c9_l2), (75, .slice (some ⟨b111, 0, none⟩) 1 1)]) (w' := w112) kr ?_
     have hS : Sat w112 (rf w0) [orw 31 (Esl 5 (.int .u8)) 1 A9_l2 c9_l2 x9_l2, pts b111 (.cells #[.slice A109 r100.length c110] 31 (0, 0)), osl 5 (r0 (.int .u8)) 1 A109 c110 r100, pts b1 (.cells #[.pointer none] 57 (0, 0)), pts b4 (.cells #[.int .i64 0] 32 (0, 0)), pts b10 (.cells #[.pointer (some ⟨b7, 0, none⟩)] 57 (0, 0)), pts b7 (.cells #[.slice A93 r81.2.1.length c94, .slice A95 r81.2.2.1.length c96, .slice A97 r81.2.2.2.length c98] 80 (0, 0)), orw 31 (Esl 5 (.int .u8)) 1 A93 c94 r81.2.1, osl 3 (r0 (.int .i64)) 1 A95 c96 r81.2.2.1, osl 3 (r0 (.int .i64)) 1 A97 c98 r81.2.2.2, mks D_l2] := hS.sel [2, 0, 1, 3, 4, 5, 6, 7, 8, 9, 10] kr
     have hS : Sat w112 (rf w0) [osl 5 (r0 (.int .u8)) 1 A109 c110 r100, orw 31 (Esl 5 (.int .u8)) 1 A9_l2 c9_l2 x9_l2, pts b111 (.cells #[.slice A109 r100.length c110] 31 (0, 0)), pts b1 (.cells #[.pointer none] 57 (0, 0)), pts b4 (.cells #[.int .i64 0] 32 (0, 0)), pts b10 (.cells #[.pointer (some ⟨b7, 0, none⟩)] 57 (0, 0)), pts b7 (.cells #[.slice A93 r81.2.1.length c94, .slice A95 r81.2.2.1.length c96, .slice A97 r81.2.2.2.length c98] 80 (0, 0)), orw 31 (Esl 5 (.int .u8)) 1 A93 c94 r81.2.1, osl 3 (r0 (.int .i64)) 1 A95 c96 r81.2.2.1, osl 3 (r0 (.int .i64)) 1 A97 c98 r81.2.2.2, mks D_l2] := hS.sel [2, 0, 1, 3, 4, 5, 6, 7, 8, 9, 10] kr
     have hS : Sat w112 (rf w0) [orw 31 (Esl 5 (.int .u8)) 1 A9_l2 c9_l2 x9_l2, osl 5 (r0 (.int .u8)) 1 A109 c110 r100, pts b111 (.cells #[.slice A109 r100.length c110] 31 (0, 0)), pts b1 (.cells #[.pointer none] 57 (0, 0)), pts b4 (.cells #[.int .i64 0] 32 (0, 0)), pts b10 (.cells #[.pointer (some ⟨b7, 0, none⟩)] 57 (0, 0)), pts b7 (.cells #[.slice A93 r81.2.1.length c94, .slice A95 r81.2.2.1.length c96, .slice A97 r81.2.2.2.length c98] 80 (0, 0)), orw 31 (Esl 5 (.int .u8)) 1 A93 c94 r81.2.1, osl 3 (r0 (.int .i64)) 1 A95 c96 r81.2.2.1, osl 3 (r0 (.int .i64)) 1 A97 c98 r81.2.2.2, mks D_l2] := hS.sel [1, 0, 2, 3, 4, 5, 6, 7, 8, 9, 10] kr
     obtain ⟨y114, e113, H⟩ := bind_ex H
     refine WR.st (St.appendOwn (.tmp 71) (.tmp 75) kr kr E71 (fun H h => Esl.mk H h) hS 0 rfl kr kr kr kr 5864062014805 kr kr e113 (fun A115 c116 w117 K118 hS hK119 hM120 => ?_))
     have R121 : rdS (rd K118 (.slice 5 (.int .u8))) 1 K118 A115 c116 y114 := orw.rdS (κ := (.slice 5 (.int .u8))) (Esl.rd (e := 5) (κ := (.int .u8))) hK119
     have R122 : rdS (r0 (.int .u8)) 1 K118 A109 c110 r100 := by obtain ⟨M, hM, hm⟩ := hM120; exact (osl.read hm).mono hM (fun _ _ h => h)
     refine WR.runk [6] [] [0, 2, 3, 4, 9, 67, 68] (L' := [(0, .slice A0 l0.length c0), (2, .pointer (some ⟨b1, 0, none⟩)), (3, .pointer (some ⟨b4, 0, none⟩)), (4, .pointer (some ⟨b10, 0, none⟩)), (9, .slice A115 y114.length c116), (67, .int .i64 (r81.2.2.1.length : Int)), (68, .int .i64 x68_l2)]) (w' := w117) kr ?_
     refine WR.nil ?_
     refine At.blockNormal ?_
     refine At.go ?_
     refine WC.reg [0, 1] kr kr ?_
     refine WR.runk [0, 1] [] [0, 2, 3, 4, 9, 67, 68] (L' := [(0, .slice A0 l0.length c0), (2, .pointer (some ⟨b1, 0, none⟩)), (3, .pointer (some ⟨b4, 0, none⟩)), (4, .pointer (some ⟨b10, 0, none⟩)), (9, .slice A115 y114.length c116), (67, .int .i64 (r81.2.2.1.length : Int)), (68, .int .i64 (wi (x68_l2 + 1)))]) (w' := w117) kr ?_
     refine WR.nil ?_
     have hS : Sat w117 (rf w0) [orw 31 (Esl 5 (.int .u8)) 1 A115 c116 y114, pts b111 (.cells #[.slice A109 r100.length c110] 31 (0, 0)), pts b1 (.cells #[.pointer none] 57 (0, 0)), pts b4 (.cells #[.int .i64 0] 32 (0, 0)), pts b10 (.cells #[.pointer (some ⟨b7, 0, none⟩)] 57 (0, 0)), pts b7 (.cells #[.slice A93 r81.2.1.length c94, .slice A95 r81.2.2.1.length c96, .slice A97 r81.2.2.2.length c98] 80 (0, 0)), orw 31 (Esl 5 (.int .u8)) 1 A93 c94 r81.2.1, osl 3 (r0 (.int .i64)) 1 A95 c96 r81.2.2.1, osl 3 (r0 (.int .i64)) 1 A97 c98 r81.2.2.2, mks D_l2] := Sat.ungh hK119 hS
     have hS : Sat w117 (rf w0) [orw 31 (Esl 5 (.int .u8)) 1 A115 c116 y114, pts b1 (.cells #[.pointer none] 57 (0, 0)), pts b4 (.cells #[.int .i64 0] 32 (0, 0)), pts b10 (.cells #[.pointer (some ⟨b7, 0, none⟩)] 57 (0, 0)), pts b7 (.cells #[.slice A93 r81.2.1.length c94, .slice A95 r81.2.2.1.length c96, .slice A97 r81.2.2.2.length c98] 80 (0, 0)), orw 31 (Esl 5 (.int .u8)) 1 A93 c94 r81.2.1, osl 3 (r0 (.int .i64)) 1 A95 c96 r81.2.2.1, osl 3 (r0 (.int .i64)) 1 A97 c98 r81.2.2.2, mks D_l2] := hS.sel [0, 2, 3, 4, 5, 6, 7, 8, 9] kr
     refine At.again ?_
     refine WL.weaken [0, 2, 3, 4, 9, 67, 68] (L' := [(0, .slice A0 l0.length c0), (2, .pointer (some ⟨b1, 0, none⟩)), (3, .pointer (some ⟨b4, 0, none⟩)), (4, .pointer (some ⟨b10, 0, none⟩)), (9, .slice A115 y114.length c116), (67, .int .i64 (r81.2.2.1.length : Int)), (68, .int .i64 (wi (x68_l2 + 1)))]) kr ?_
     exact ih y114 (wi (x68_l2 + 1)) A115 c116 D_l2 _ hS H
    ·replace H := ite_f H hb99
     refine WC.exit kr ?_
     refine At.thenExit ?_
     refine At.thenExit ?_
     obtain rfl := Option.some.inj H
     have hS : Sat w (rf w0) [mks D_l2, orw 31 (Esl 5 (.int .u8)) 1 A9_l2 c9_l2 x9_l2, pts b1 (.cells #[.pointer none] 57 (0, 0)), pts b4 (.cells #[.int .i64 0] 32 (0, 0)), pts b10 (.cells #[.pointer (some ⟨b7, 0, none⟩)] 57 (0, 0)), pts b7 (.cells #[.slice A93 r81.2.1.length c94, .slice A95 r81.2.2.1.length c96, .slice A97 r81.2.2.2.length c98] 80 (0, 0)), orw 31 (Esl 5 (.int .u8)) 1 A93 c94 r81.2.1, osl 3 (r0 (.int .i64)) 1 A95 c96 r81.2.2.1, osl 3 (r0 (.int .i64)) 1 A97 c98 r81.2.2.2] := hS.sel [8, 0, 1, 2, 3, 4, 5, 6, 7] kr
     refine At.weaken [0, 2, 3, 4, 9] (L' := [(0, .slice A0 l0.length c0), (2, .pointer (some ⟨b1, 0, none⟩)), (3, .pointer (some ⟨b4, 0, none⟩)), (4, .pointer (some ⟨b10, 0, none⟩)), (9, .slice A9_l2 x9_l2.length c9_l2)]) kr ?_
     exact hn0 A9_l2 c9_l2 D_l2 _ hS
theorem image_Open.calls (w0 : World) (A0 : Option Addr) (c0 : Nat) (l0 : List Int) (R0 : rdS (r0 (.int .u8)) 1 (hp w0) A0 c0 l0) (r : (Option ((List (List Int)) × (List Int) × (List Int))) × Int) (H : image_Open.f l0 = some r) :
    Calls Try.prog 19 #[.slice A0 l0.length c0] w0 (fun e w' => ∃ v, e = .returned v ∧ image_Open.post w0 r v w') := by
  have hS : Sat w0 (rf w0) [] := Sat.start w0
  unfold image_Open.f at H
  refine calls_of_WCM (vs := [.slice A0 l0.length c0]) Try.func19 (c := C19) (n := 92) kr kr kr ?_
  have hS := Sat.mksNil hS
  refine WC.seq kr ?_
  refine WC.reg [0, 1] kr kr ?_
  refine WR.runk [] [0, 1] [0] (L' := [(0, .slice A0 l0.length c0)]) (w' := w0) kr ?_
  refine WR.st (St.box hS kr (.cells #[.pointer none] 57) (fun b1 => .pointer (some ⟨b1, 0, none⟩)) (fun _ => by kernel_rfl) (fun b1 w2 hS => ?_))
  refine WR.runk [] [1] [0, 2] (L' := [(0, .slice A0 l0.length c0), (2, .pointer (some ⟨b1, 0, none⟩))]) (w' := w2) kr ?_
  refine WR.st (St.box hS kr (.cells #[.int .i64 0] 32) (fun b4 => .pointer (some ⟨b4, 0, none⟩)) (fun _ => by kernel_rfl) (fun b4 w5 hS => ?_))
  refine WR.runk [] [] [0, 2, 3] (L' := [(0, .slice A0 l0.length c0), (2, .pointer (some ⟨b1, 0, none⟩)), (3, .pointer (some ⟨b4, 0, none⟩))]) (w' := w5) kr ?_
  refine WR.nil ?_
  refine At.go ?_
  refine WC.seq kr ?_
  refine WC.reg [0, 1, 2, 3] kr kr ?_
  refine WR.runk [0] [1, 2, 3] [0, 2, 3, 13] (L' := [(0, .slice A0 l0.length c0), (2, .pointer (some ⟨b1, 0, none⟩)), (3, .pointer (some ⟨b4, 0, none⟩)), (13, .agg #[.slice none 0 0, .slice none 0 0, .slice none 0 0])]) (w' := w5) kr ?_
  refine WR.st (St.box hS kr (.cells #[.slice none 0 0, .slice none 0 0, .slice none 0 0] 80) (fun b7 => .pointer (some ⟨b7, 0, none⟩)) (fun _ => by kernel_rfl) (fun b7 w8 hS => ?_))
  refine WR.runk [] [2, 3] [0, 2, 3, 14] (L' := [(0, .slice A0 l0.length c0), (2, .pointer (some ⟨b1, 0, none⟩)), (3, .pointer (some ⟨b4, 0, none⟩)), (14, .pointer (some ⟨b7, 0, none⟩))]) (w' := w8) kr ?_
  refine WR.st (St.box hS kr (.cells #[.pointer none] 57) (fun b10 => .pointer (some ⟨b10, 0, none⟩)) (fun _ => by kernel_rfl) (fun b10 w11 hS => ?_))
  refine WR.runk [] [3] [0, 2, 3, 4, 14] (L' := [(0, .slice A0 l0.length c0), (2, .pointer (some ⟨b1, 0, none⟩)), (3, .pointer (some ⟨b4, 0, none⟩)), (4, .pointer (some ⟨b10, 0, none⟩)), (14, .pointer (some ⟨b7, 0, none⟩))]) (w' := w11) kr ?_
  refine WR.st (St.storeObj (t := 57) (k := 0) (cur' := #[.pointer (some ⟨b7, 0, none⟩)]) (.tmp 4) (.tmp 14) kr kr kr hS kr kr kr rfl rfl (fun w13 hS => ?_))
  refine WR.runk [] [] [0, 2, 3, 4] (L' := [(0, .slice A0 l0.length c0), (2, .pointer (some ⟨b1, 0, none⟩)), (3, .pointer (some ⟨b4, 0, none⟩)), (4, .pointer (some ⟨b10, 0, none⟩))]) (w' := w13) kr ?_
  refine WR.nil ?_
  refine At.go ?_
  refine WC.seq kr ?_
  refine WC.seq kr ?_
  refine WC.reg [0, 1, 2, 3, 4, 5, 6, 7, 8, 9, 10, 11, 12, 13, 14] kr kr ?_
  refine WR.runk [0, 1, 2, 3, 4] [5, 6, 7, 8, 9, 10, 11, 12, 13, 14] [0, 2, 3, 4, 19] (L' := [(0, .slice A0 l0.length c0), (2, .pointer (some ⟨b1, 0, none⟩)), (3, .pointer (some ⟨b4, 0, none⟩)), (4, .pointer (some ⟨b10, 0, none⟩)), (19, .bool ((Int.tmod (l0.length : Int) 264) != 0))]) (w' := w13) kr ?_
  refine WR.split 19 (b := ((Int.tmod (l0.length : Int) 264) != 0)) kr (fun hb14 => ?_) (fun hb14 => ?_)
  ·replace H := ite_t H hb14
   refine WR.runk [5, 6, 7, 8, 9, 10, 11, 12, 13, 14] [] [0, 2, 3, 4, 29] (L' := [(0, .slice A0 l0.length c0), (2, .pointer (some ⟨b1, 0, none⟩)), (3, .pointer (some ⟨b4, 0, none⟩)), (4, .pointer (some ⟨b10, 0, none⟩)), (29, .bool true)]) (w' := w13) kr ?_
   refine WR.nil ?_
   refine At.go ?_
   refine WC.condT kr kr kr ?_
   refine WC.seq kr ?_
   refine WC.reg [0, 1] kr kr ?_
   have hS : Sat w13 (rf w0) [pts b1 (.cells #[.pointer none] 57 (0, 0)), pts b10 (.cells #[.pointer (some ⟨b7, 0, none⟩)] 57 (0, 0)), pts b7 (.cells #[.slice none 0 0, .slice none 0 0, .slice none 0 0] 80 (0, 0)), pts b4 (.cells #[.int .i64 0] 32 (0, 0)), mks []] := hS.sel [3, 0, 1, 2, 4] kr
   refine WR.st (St.storeObj (t := 57) (k := 0) (cur' := #[.pointer none]) (.tmp 2) (.const (.pointer none)) kr kr kr hS kr kr kr rfl rfl (fun w15 hS => ?_))
   refine WR.runk [] [1] [2, 3] (L' := [(2, .pointer (some ⟨b1, 0, none⟩)), (3, .pointer (some ⟨b4, 0, none⟩))]) (w' := w15) kr ?_
   have hS : Sat w15 (rf w0) [pts b4 (.cells #[.int .i64 0] 32 (0, 0)), pts b1 (.cells #[.pointer none] 57 (0, 0)), pts b10 (.cells #[.pointer (some ⟨b7, 0, none⟩)] 57 (0, 0)), pts b7 (.cells #[.slice none 0 0, .slice none 0 0, .slice none 0 0] 80 (0, 0)), mks []] := hS.sel [3, 0, 1, 2, 4] kr
   refine WR.st (St.storeObj (t := 32) (k := 0) (cur' := #[.int .i64 10]) (.tmp 3) (.const (.int .i64 10)) kr kr kr hS kr kr kr rfl rfl (fun w16 hS => ?_))
   refine WR.runk [] [] [2, 3] (L' := [(2, .pointer (some ⟨b1, 0, none⟩)), (3, .pointer (some ⟨b4, 0, none⟩))]) (w' := w16) kr ?_
   refine WR.nil ?_
   refine At.go ?_
   refine WC.ret kr ?_
   refine At.thenRet ?_
   obtain rfl := Option.some.inj H
   have hS := optP.nil (O := O80) hS
   have hS : Sat w16 (rf w0) [mks [], pts b1 (.cells #[.pointer none] 57 (0, 0)), pts b4 (.cells #[.int .i64 10] 32 (0, 0)), optP O80 (.pointer none) none] := hS.sel [5, 2, 1, 0] kr
   exact At.bodyM hS (fun w hS => ⟨_, fun T hT => results_cells2 (a := 2) (t := 57) (b := 3) (u := 32) hT kr kr kr kr kr (Sat.cellAt 0 0 hS rfl kr) (Sat.cellAt 1 0 hS rfl kr), ⟨_, rfl, _, rfl, (hS.sel [2] kr)⟩⟩)
  ·replace H := ite_f H hb14
   refine WR.runk [5, 6, 7, 8, 9] [10, 11, 12, 13, 14] [0, 2, 3, 4, 24] (L' := [(0, .slice A0 l0.length c0), (2, .pointer (some ⟨b1, 0, none⟩)), (3, .pointer (some ⟨b4, 0, none⟩)), (4, .pointer (some ⟨b10, 0, none⟩)), (24, .bool ((l0.length : Int) == 0))]) (w' := w13) kr ?_
   refine WR.split 24 (b := ((l0.length : Int) == 0)) kr (fun hb17 => ?_) (fun hb17 => ?_)
   ·replace H := ite_t H hb17
    refine WR.runk [10, 11, 12, 13, 14] [] [0, 2, 3, 4, 29] (L' := [(0, .slice A0 l0.length c0), (2, .pointer (some ⟨b1, 0, none⟩)), (3, .pointer (some ⟨b4, 0, none⟩)), (4, .pointer (some ⟨b10, 0, none⟩)), (29, .bool true)]) (w' := w13) kr ?_
    refine WR.nil ?_
    refine At.go ?_
    refine WC.condT kr kr kr ?_
    refine WC.seq kr ?_
    refine WC.reg [0, 1] kr kr ?_
    have hS : Sat w13 (rf w0) [pts b1 (.cells #[.pointer none] 57 (0, 0)), pts b10 (.cells #[.pointer (some ⟨b7, 0, none⟩)] 57 (0, 0)), pts b7 (.cells #[.slice none 0 0, .slice none 0 0, .slice none 0 0] 80 (0, 0)), pts b4 (.cells #[.int .i64 0] 32 (0, 0)), mks []] := hS.sel [3, 0, 1, 2, 4] kr
    refine WR.st (St.storeObj (t := 57) (k := 0) (cur' := #[.pointer none]) (.tmp 2) (.const (.pointer none)) kr kr kr hS kr kr kr rfl rfl (fun w18 hS => ?_))
    refine WR.runk [] [1] [2, 3] (L' := [(2, .pointer (some ⟨b1, 0, none⟩)), (3, .pointer (some ⟨b4, 0, none⟩))]) (w' := w18) kr ?_
    have hS : Sat w18 (rf w0) [pts b4 (.cells #[.int .i64 0] 32 (0, 0)), pts b1 (.cells #[.pointer none] 57 (0, 0)), pts b10 (.cells #[.pointer (some ⟨b7, 0, none⟩)] 57 (0, 0)), pts b7 (.cells #[.slice none 0 0, .slice none 0 0, .slice none 0 0] 80 (0, 0)), mks []] := hS.sel [3, 0, 1, 2, 4] kr
    refine WR.st (St.storeObj (t := 32) (k := 0) (cur' := #[.int .i64 10]) (.tmp 3) (.const (.int .i64 10)) kr kr kr hS kr kr kr rfl rfl (fun w19 hS => ?_))
    refine WR.runk [] [] [2, 3] (L' := [(2, .pointer (some ⟨b1, 0, none⟩)), (3, .pointer (some ⟨b4, 0, none⟩))]) (w' := w19) kr ?_
    refine WR.nil ?_
    refine At.go ?_
    refine WC.ret kr ?_
    refine At.thenRet ?_
    obtain rfl := Option.some.inj H
    have hS := optP.nil (O := O80) hS
    have hS : Sat w19 (rf w0) [mks [], pts b1 (.cells #[.pointer none] 57 (0, 0)), pts b4 (.cells #[.int .i64 10] 32 (0, 0)), optP O80 (.pointer none) none] := hS.sel [5, 2, 1, 0] kr
    exact At.bodyM hS (fun w hS => ⟨_, fun T hT => results_cells2 (a := 2) (t := 57) (b := 3) (u := 32) hT kr kr kr kr kr (Sat.cellAt 0 0 hS rfl kr) (Sat.cellAt 1 0 hS rfl kr), ⟨_, rfl, _, rfl, (hS.sel [2] kr)⟩⟩)
   ·replace H := ite_f H hb17
    refine WR.runk [10, 11, 12, 13, 14] [] [0, 2, 3, 4, 29] (L' := [(0, .slice A0 l0.length c0), (2, .pointer (some ⟨b1, 0, none⟩)), (3, .pointer (some ⟨b4, 0, none⟩)), (4, .pointer (some ⟨b10, 0, none⟩)), (29, .bool (decide (wi (Int.tdiv (l0.length : Int) 264) > 4096)))]) (w' := w13) kr ?_
    refine WR.nil ?_
    refine At.go ?_
    refine WC.cond kr (decide (wi (Int.tdiv (l0.length : Int) 264) > 4096)) kr kr (fun hb20 => ?_) (fun hb20 => ?_)
    ·replace H := ite_t H hb20
     refine WC.seq kr ?_
     refine WC.reg [0, 1] kr kr ?_
     refine WR.runk [] [0, 1] [2, 3] (L' := [(2, .pointer (some ⟨b1, 0, none⟩)), (3, .pointer (some ⟨b4, 0, none⟩))]) (w' := w13) kr ?_
     have hS : Sat w13 (rf w0) [pts b1 (.cells #[.pointer none] 57 (0, 0)), pts b10 (.cells #[.pointer (some ⟨b7, 0, none⟩)] 57 (0, 0)), pts b7 (.cells #[.slice none 0 0, .slice none 0 0, .slice none 0 0] 80 (0, 0)), pts b4 (.cells #[.int .i64 0] 32 (0, 0)), mks []] := hS.sel [3, 0, 1, 2, 4] kr
     refine WR.st (St.storeObj (t := 57) (k := 0) (cur' := #[.pointer none]) (.tmp 2) (.const (.pointer none)) kr kr kr hS kr kr kr rfl rfl (fun w21 hS => ?_))
     refine WR.runk [] [1] [2, 3] (L' := [(2, .pointer (some ⟨b1, 0, none⟩)), (3, .pointer (some ⟨b4, 0, none⟩))]) (w' := w21) kr ?_
     have hS : Sat w21 (rf w0) [pts b4 (.cells #[.int .i64 0] 32 (0, 0)), pts b1 (.cells #[.pointer none] 57 (0, 0)), pts b10 (.cells #[.pointer (some ⟨b7, 0, none⟩)] 57 (0, 0)), pts b7 (.cells #[.slice none 0 0, .slice none 0 0, .slice none 0 0] 80 (0, 0)), mks []] := hS.sel [3, 0, 1, 2, 4] kr
     refine WR.st (St.storeObj (t := 32) (k := 0) (cur' := #[.int .i64 10]) (.tmp 3) (.const (.int .i64 10)) kr kr kr hS kr kr kr rfl rfl (fun w22 hS => ?_))
     refine WR.runk [] [] [2, 3] (L' := [(2, .pointer (some ⟨b1, 0, none⟩)), (3, .pointer (some ⟨b4, 0, none⟩))]) (w' := w22) kr ?_
     refine WR.nil ?_
     refine At.go ?_
     refine WC.ret kr ?_
     refine At.thenRet ?_
     obtain rfl := Option.some.inj H
     have hS := optP.nil (O := O80) hS
     have hS : Sat w22 (rf w0) [mks [], pts b1 (.cells #[.pointer none] 57 (0, 0)), pts b4 (.cells #[.int .i64 10] 32 (0, 0)), optP O80 (.pointer none) none] := hS.sel [5, 2, 1, 0] kr
     exact At.bodyM hS (fun w hS => ⟨_, fun T hT => results_cells2 (a := 2) (t := 57) (b := 3) (u := 32) hT kr kr kr kr kr (Sat.cellAt 0 0 hS rfl kr) (Sat.cellAt 1 0 hS rfl kr), ⟨_, rfl, _, rfl, (hS.sel [2] kr)⟩⟩)
    ·replace H := ite_f H hb20
     refine WC.skip kr ?_
     refine At.go ?_
     refine WC.seq kr ?_
     refine WC.seq kr ?_
     refine WC.reg [0, 1] kr kr ?_
     refine WR.runk [0] [1] [0, 2, 3, 4, 30] (L' := [(0, .slice A0 l0.length c0), (2, .pointer (some ⟨b1, 0, none⟩)), (3, .pointer (some ⟨b4, 0, none⟩)), (4, .pointer (some ⟨b10, 0, none⟩)), (30, .slice A0 l0.length c0)]) (w' := w13) kr ?_
     refine WR.st (St.call kr (f := 28) (args := #[.slice A0 l0.length c0, .int .i64 ((264 : Nat) : Int)]) kr (chunk_calls w13 A0 c0 l0.length ((264 : Nat) : Int) (by decide)) ?_)
     rintro _ w25 ⟨b23, b24, rfl, hS26⟩
     have hS : Sat w25 (rf w0) [pts b23 (.cells #[.slice A0 l0.length c0] 31 (0, 0)), pts b24 (.cells #[.int .i64 ((264 : Nat) : Int)] 3 (0, 0)), pts b10 (.cells #[.pointer (some ⟨b7, 0, none⟩)] 57 (0, 0)), pts b7 (.cells #[.slice none 0 0, .slice none 0 0, .slice none 0 0] 80 (0, 0)), pts b4 (.cells #[.int .i64 0] 32 (0, 0)), pts b1 (.cells #[.pointer none] 57 (0, 0)), mks []] := hS.ext hS26
     refine WR.runk [] [] [0, 2, 3, 4, 31] (L' := [(0, .slice A0 l0.length c0), (2, .pointer (some ⟨b1, 0, none⟩)), (3, .pointer (some ⟨b4, 0, none⟩)), (4, .pointer (some ⟨b10, 0, none⟩)), (31, .func (.func 39) #[] #[.pointer (some ⟨b23, 0, none⟩), .pointer (some ⟨b24, 0, none⟩)])]) (w' := w25) kr ?_
     refine WR.nil ?_
     refine At.go ?_
     refine WC.block kr ?_
     have hS := hS.addNilR (α := (List Int)) 31 (Esl 5 (.int .u8)) 1
     have hS := hS.addNil (α := Int) 3 (r0 (.int .i64)) 1
     have hS := hS.addNil (α := Int) 3 (r0 (.int .i64)) 1
     have hS : Sat w25 (rf w0) [pts b7 (.cells #[.slice none 0 0, .slice none 0 0, .slice none 0 0] 80 (0, 0)), orw 31 (Esl 5 (.int .u8)) 1 none 0 ([] : List (List Int)), osl 3 (r0 (.int .i64)) 1 none 0 ([] : List Int), osl 3 (r0 (.int .i64)) 1 none 0 ([] : List Int), pts b23 (.cells #[.slice A0 l0.length c0] 31 (0, 0)), pts b24 (.cells #[.int .i64 ((264 : Nat) : Int)] 3 (0, 0)), pts b10 (.cells #[.pointer (some ⟨b7, 0, none⟩)] 57 (0, 0)), pts b4 (.cells #[.int .i64 0] 32 (0, 0)), pts b1 (.cells #[.pointer none] 57 (0, 0)), mks []] := hS.sel [6, 2, 1, 0, 3, 4, 5, 7, 8, 9] kr
     have hS : Sat w25 (rf w0) [O80 b7 (([] : List (List Int)), ([] : List Int), ([] : List Int)), pts b23 (.cells #[.slice A0 l0.length c0] 31 (0, 0)), pts b24 (.cells #[.int .i64 ((264 : Nat) : Int)] 3 (0, 0)), pts b10 (.cells #[.pointer (some ⟨b7, 0, none⟩)] 57 (0, 0)), pts b4 (.cells #[.int .i64 0] 32 (0, 0)), pts b1 (.cells #[.pointer none] 57 (0, 0)), mks []] := O80.close (([] : List (List Int)), ([] : List Int), ([] : List Int)) none 0 none 0 none 0 hS
     have hS : Sat w25 (rf w0) [mks [], pts b23 (.cells #[.slice A0 l0.length c0] 31 (0, 0)), pts b24 (.cells #[.int .i64 ((264 : Nat) : Int)] 3 (0, 0)), O80 b7 (([] : List (List Int)), ([] : List Int), ([] : List Int)), pts b1 (.cells #[.pointer none] 57 (0, 0)), pts b4 (.cells #[.int .i64 0] 32 (0, 0)), pts b10 (.cells #[.pointer (some ⟨b7, 0, none⟩)] 57 (0, 0))] := hS.sel [6, 1, 2, 0, 5, 4, 3] kr
     obtain ⟨_, e72, H⟩ := bind_ex H
     obtain ⟨o70, e71, H⟩ := bind_ex H
     refine WC.weaken [0, 2, 3, 4, 31] (L' := [(0, .slice A0 l0.length c0), (2, .pointer (some ⟨b1, 0, none⟩)), (3, .pointer (some ⟨b4, 0, none⟩)), (4, .pointer (some ⟨b10, 0, none⟩)), (31, .func (.func 39) #[] #[.pointer (some ⟨b23, 0, none⟩), .pointer (some ⟨b24, 0, none⟩)])]) kr ?_
     refine WC.range (sz := 264) 32 kr kr kr kr chunk_enters chunk_it kr kr (of_decide_eq_true (chk?_some e72)) (rdS.nz R0) (And.left R0) hS (fun T158 l159 r160 fn161 D73 X162 w74 hX163 hS => ?_)
     refine image_Open.l1_ok w0 A0 c0 l0 b1 b4 b7 b10 b23 b24 R0 T158 l159 r160 fn161 D73 X162 hX163 o70 (fun o75 w79 ho80 hS => ?_) (fun o77 w156 ho157 hS => ?_) FU 0 (([] : List (List Int)), ([] : List Int), ([] : List Int)) _ hS e71
     ·subst ho80
      dsimp only at H
      refine At.blockNormal ?_
      refine At.go ?_
      refine WC.seq kr ?_
      refine WC.seq kr ?_
      refine WC.reg [0, 1, 2] kr kr ?_
      refine WR.runk [] [0, 1, 2] [0, 2, 3, 4] (L' := [(0, .slice A0 l0.length c0), (2, .pointer (some ⟨b1, 0, none⟩)), (3, .pointer (some ⟨b4, 0, none⟩)), (4, .pointer (some ⟨b10, 0, none⟩))]) (w' := w79) kr ?_
      refine WR.st (St.ofR (RSt.loadObj (t := 57) (k := 0) (v := .pointer (some ⟨b7, 0, none⟩)) (.tmp 4) kr kr kr 4 hS rfl kr rfl ?_))
      refine WR.runk [] [1, 2] [0, 2, 3, 4, 60] (L' := [(0, .slice A0 l0.length c0), (2, .pointer (some ⟨b1, 0, none⟩)), (3, .pointer (some ⟨b4, 0, none⟩)), (4, .pointer (some ⟨b10, 0, none⟩)), (60, .pointer (some ⟨b7, 0, none⟩))]) (w' := w79) kr ?_
      have hS : Sat w79 (rf w0) [O80 b7 o75, mks D73, pts b1 (.cells #[.pointer none] 57 (0, 0)), pts b4 (.cells #[.int .i64 0] 32 (0, 0)), pts b10 (.cells #[.pointer (some ⟨b7, 0, none⟩)] 57 (0, 0))] := hS.sel [1, 0, 2, 3, 4] kr
      obtain ⟨r81, e82, H⟩ := bind_ex H
      obtain ⟨B87, hso86, hsub84, hcs85, hb83⟩ := Sat.lend [O80 b7 o75] (cs := [mks D73, pts b1 (.cells #[.pointer none] 57 (0, 0)), pts b4 (.cells #[.int .i64 0] 32 (0, 0)), pts b10 (.cells #[.pointer (some ⟨b7, 0, none⟩)] 57 (0, 0))]) hS
      refine WR.st (St.call kr (f := 30) (args := #[.pointer (some ⟨b7, 0, none⟩)]) kr (image_Image_head.calls B87 w79 b7 o75 hso86  r81 e82) ?_)
      rintro _ w88 ⟨rfl, hS89⟩
      have hS : Sat w88 (rf w0) [O80 b7 r81.2, mks D73, pts b1 (.cells #[.pointer none] 57 (0, 0)), pts b4 (.cells #[.int .i64 0] 32 (0, 0)), pts b10 (.cells #[.pointer (some ⟨b7, 0, none⟩)] 57 (0, 0))] := hb83 _ _ hS89
      refine WR.runk [2] [] [0, 2, 3, 4, 62] (L' := [(0, .slice A0 l0.length c0), (2, .pointer (some ⟨b1, 0, none⟩)), (3, .pointer (some ⟨b4, 0, none⟩)), (4, .pointer (some ⟨b10, 0, none⟩)), (62, .bool (!r81.1))]) (w' := w88) kr ?_
      refine WR.nil ?_
      refine At.go ?_
      refine WC.cond kr (!r81.1) kr kr (fun hb90 => ?_) (fun hb90 => ?_)
      ·replace H := ite_t H hb90
       refine WC.seq kr ?_
       refine WC.reg [0, 1] kr kr ?_
       refine WR.runk [] [0, 1] [2, 3] (L' := [(2, .pointer (some ⟨b1, 0, none⟩)), (3, .pointer (some ⟨b4, 0, none⟩))]) (w' := w88) kr ?_
       have hS : Sat w88 (rf w0) [pts b1 (.cells #[.pointer none] 57 (0, 0)), O80 b7 r81.2, mks D73, pts b4 (.cells #[.int .i64 0] 32 (0, 0)), pts b10 (.cells #[.pointer (some ⟨b7, 0, none⟩)] 57 (0, 0))] := hS.sel [2, 0, 1, 3, 4] kr
       refine WR.st (St.storeObj (t := 57) (k := 0) (cur' := #[.pointer none]) (.tmp 2) (.const (.pointer none)) kr kr kr hS kr kr kr rfl rfl (fun w91 hS => ?_))
       refine WR.runk [] [1] [2, 3] (L' := [(2, .pointer (some ⟨b1, 0, none⟩)), (3, .pointer (some ⟨b4, 0, none⟩))]) (w' := w91) kr ?_
       have hS : Sat w91 (rf w0) [pts b4 (.cells #[.int .i64 0] 32 (0, 0)), pts b1 (.cells #[.pointer none] 57 (0, 0)), O80 b7 r81.2, mks D73, pts b10 (.cells #[.pointer (some ⟨b7, 0, none⟩)] 57 (0, 0))] := hS.sel [3, 0, 1, 2, 4] kr
       refine WR.st (St.storeObj (t := 32) (k := 0) (cur' := #[.int .i64 10]) (.tmp 3) (.const (.int .i64 10)) kr kr kr hS kr kr kr rfl rfl (fun w92 hS => ?_))
       refine WR.runk [] [] [2, 3] (L' := [(2, .pointer (some ⟨b1, 0, none⟩)), (3, .pointer (some ⟨b4, 0, none⟩))]) (w' := w92) kr ?_
       refine WR.nil ?_
       refine At.go ?_
       refine WC.ret kr ?_
       refine At.thenRet ?_
       obtain rfl := Option.some.inj H
       have hS := optP.nil (O := O80) hS
       have hS : Sat w92 (rf w0) [mks D73, pts b1 (.cells #[.pointer none] 57 (0, 0)), pts b4 (.cells #[.int .i64 10] 32 (0, 0)), optP O80 (.pointer none) none] := hS.sel [4, 2, 1, 0] kr
       exact At.bodyM hS (fun w hS => ⟨_, fun T hT => results_cells2 (a := 2) (t := 57) (b := 3) (u := 32) hT kr kr kr kr kr (Sat.cellAt 0 0 hS rfl kr) (Sat.cellAt 1 0 hS rfl kr), ⟨_, rfl, _, rfl, (hS.sel [2] kr)⟩⟩)
      ·replace H := ite_f H hb90
       refine WC.skip kr ?_
       refine At.go ?_
       refine WC.seq kr ?_
       refine WC.reg [0] kr kr ?_
       refine WR.runk [0] [] [0, 2, 3, 4, 9] (L' := [(0, .slice A0 l0.length c0), (2, .pointer (some ⟨b1, 0, none⟩)), (3, .pointer (some ⟨b4, 0, none⟩)), (4, .pointer (some ⟨b10, 0, none⟩)), (9, .slice none 0 0)]) (w' := w88) kr ?_
       refine WR.nil ?_
       refine At.go ?_
       refine WC.seq kr ?_
       refine WC.seq kr ?_
       refine WC.reg [0, 1, 2, 3, 4, 5] kr kr ?_
       refine WR.st (St.ofR (RSt.loadObj (t := 57) (k := 0) (v := .pointer (some ⟨b7, 0, none⟩)) (.tmp 4) kr kr kr 4 hS rfl kr rfl ?_))
       refine WR.runk [1, 2] [3, 4, 5] [0, 2, 3, 4, 9, 65] (L' := [(0, .slice A0 l0.length c0), (2, .pointer (some ⟨b1, 0, none⟩)), (3, .pointer (some ⟨b4, 0, none⟩)), (4, .pointer (some ⟨b10, 0, none⟩)), (9, .slice none 0 0), (65, .pointer (some ⟨b7, 1, none⟩))]) (w' := w88) kr ?_
       obtain ⟨A93, c94, A95, c96, A97, c98, hS⟩ := O80.open hS
       have hS : Sat w88 (rf w0) [pts b7 (.cells #[.slice A93 r81.2.1.length c94, .slice A95 r81.2.2.1.length c96, .slice A97 r81.2.2.2.length c98] 80 (0, 0)), orw 31 (Esl 5 (.int .u8)) 1 A93 c94 r81.2.1, osl 3 (r0 (.int .i64)) 1 A95 c96 r81.2.2.1, osl 3 (r0 (.int .i64)) 1 A97 c98 r81.2.2.2, mks D73, pts b1 (.cells #[.pointer none] 57 (0, 0)), pts b4 (.cells #[.int .i64 0] 32 (0, 0)), pts b10 (.cells #[.pointer (some ⟨b7, 0, none⟩)] 57 (0, 0))] := hS
       refine WR.st (St.ofR (RSt.loadObj (t := 47) (k := 1) (v := .slice A95 r81.2.2.1.length c96) (.tmp 65) kr kr kr 0 hS rfl kr rfl ?_))
       refine WR.runk [4, 5] [] [0, 2, 3, 4, 9, 67, 68] (L' := [(0, .slice A0 l0.length c0), (2, .pointer (some ⟨b1, 0, none⟩)), (3, .pointer (some ⟨b4, 0, none⟩)), (4, .pointer (some ⟨b10, 0, none⟩)), (9, .slice none 0 0), (67, .int .i64 (r81.2.2.1.length : Int)), (68, .int .i64 0)]) (w' := w88) kr ?_
       refine WR.nil ?_
       refine At.go ?_
       refine WC.block kr ?_
       have hS := hS.addNilR (α := (List Int)) 31 (Esl 5 (.int .u8)) 1
       have hS : Sat w88 (rf w0) [orw 31 (Esl 5 (.int .u8)) 1 none 0 ([] : List (List Int)), pts b1 (.cells #[.pointer none] 57 (0, 0)), pts b4 (.cells #[.int .i64 0] 32 (0, 0)), pts b10 (.cells #[.pointer (some ⟨b7, 0, none⟩)] 57 (0, 0)), pts b7 (.cells #[.slice A93 r81.2.1.length c94, .slice A95 r81.2.2.1.length c96, .slice A97 r81.2.2.2.length c98] 80 (0, 0)), orw 31 (Esl 5 (.int .u8)) 1 A93 c94 r81.2.1, osl 3 (r0 (.int .i64)) 1 A95 c96 r81.2.2.1, osl 3 (r0 (.int .i64)) 1 A97 c98 r81.2.2.2, mks D73] := hS.sel [0, 6, 7, 8, 1, 2, 3, 4, 5] kr
       obtain ⟨o123, e124, H⟩ := bind_ex H
       refine WC.loop kr ?_
       refine WL.weaken [0, 2, 3, 4, 9, 67, 68] (L' := [(0, .slice A0 l0.length c0), (2, .pointer (some ⟨b1, 0, none⟩)), (3, .pointer (some ⟨b4, 0, none⟩)), (4, .pointer (some ⟨b10, 0, none⟩)), (9, .slice none 0 0), (67, .int .i64 (r81.2.2.1.length : Int)), (68, .int .i64 0)]) kr ?_
       refine image_Open.l2_ok w0 A0 c0 l0 b1 b4 b7 b10 r81 A93 c94 A95 c96 A97 c98 o123 (fun A9_q125 c9_q125 D_q125 w126 hS => ?_) FU ([] : List (List Int)) 0 none 0 D73 _ hS e124
       refine At.hit ?_
       refine At.go ?_
       refine WC.seq kr ?_
       refine WC.reg [0, 1, 2, 3, 4, 5, 6] kr kr ?_
       refine WR.runk [0] [1, 2, 3, 4, 5, 6] [0, 2, 3, 4, 79] (L' := [(0, .slice A0 l0.length c0), (2, .pointer (some ⟨b1, 0, none⟩)), (3, .pointer (some ⟨b4, 0, none⟩)), (4, .pointer (some ⟨b10, 0, none⟩)), (79, .slice A9_q125 o123.length c9_q125)]) (w' := w126) kr ?_
       obtain ⟨r128, e129, H⟩ := bind_ex H
       refine WR.st (St.call kr (f := 18) (args := #[.slice A9_q125 o123.length c9_q125]) kr (image_Build.calls w126 A9_q125 c9_q125 o123 (Sat.rdAnyS 1 hS rfl (fun _ h => orw.rdS (κ := (.slice 5 (.int .u8))) (Esl.rd (e := 5) (κ := (.int .u8))) h)) r128 e129) ?_)
       rintro _ w135 ⟨A137, c138, rfl, hS136⟩
       have hS : Sat w135 (rf w0) [osl 5 (r0 (.int .u8)) 1 A137 c138 r128.1, mks D_q125, orw 31 (Esl 5 (.int .u8)) 1 A9_q125 c9_q125 o123, pts b1 (.cells #[.pointer none] 57 (0, 0)), pts b4 (.cells #[.int .i64 0] 32 (0, 0)), pts b10 (.cells #[.pointer (some ⟨b7, 0, none⟩)] 57 (0, 0)), pts b7 (.cells #[.slice A93 r81.2.1.length c94, .slice A95 r81.2.2.1.length c96, .slice A97 r81.2.2.2.length c98] 80 (0, 0)), orw 31 (Esl 5 (.int .u8)) 1 A93 c94 r81.2.1, osl 3 (r0 (.int .i64)) 1 A95 c96 r81.2.2.1, osl 3 (r0 (.int .i64)) 1 A97 c98 r81.2.2.2] := hS.ext hS136
       refine WR.runk [2, 3, 4, 5, 6] [] [0, 2, 3, 4, 11, 12] (L' := [(0, .slice A0 l0.length c0), (2, .pointer (some ⟨b1, 0, none⟩)), (3, .pointer (some ⟨b4, 0, none⟩)), (4, .pointer (some ⟨b10, 0, none⟩)), (11, .slice A137 r128.1.length c138), (12, .int .i64 r128.2)]) (w' := w135) kr ?_
       refine WR.nil ?_
       refine At.go ?_
       refine WC.seq kr ?_
       refine WC.seq kr ?_
       refine WC.reg [0, 1, 2, 3, 4, 5, 6, 7] kr kr ?_
       refine WR.runk [0, 1, 2] [3, 4, 5, 6, 7] [0, 2, 3, 4, 11, 85] (L' := [(0, .slice A0 l0.length c0), (2, .pointer (some ⟨b1, 0, none⟩)), (3, .pointer (some ⟨b4, 0, none⟩)), (4, .pointer (some ⟨b10, 0, none⟩)), (11, .slice A137 r128.1.length c138), (85, .bool (r128.2 != 0))]) (w' := w135) kr ?_
       refine WR.split 85 (b := (r128.2 != 0)) kr (fun hb139 => ?_) (fun hb139 => ?_)
       ·replace H := ite_t H hb139
        refine WR.runk [3, 4, 5, 6, 7] [] [2, 3, 4, 90] (L' := [(2, .pointer (some ⟨b1, 0, none⟩)), (3, .pointer (some ⟨b4, 0, none⟩)), (4, .pointer (some ⟨b10, 0, none⟩)), (90, .bool true)]) (w' := w135) kr ?_
        refine WR.nil ?_
        refine At.go ?_
        refine WC.condT kr kr kr ?_
        refine WC.seq kr ?_
        refine WC.reg [0, 1] kr kr ?_
        have hS : Sat w135 (rf w0) [pts b1 (.cells #[.pointer none] 57 (0, 0)), osl 5 (r0 (.int .u8)) 1 A137 c138 r128.1, mks D_q125, orw 31 (Esl 5 (.int .u8)) 1 A9_q125 c9_q125 o123, pts b4 (.cells #[.int .i64 0] 32 (0, 0)), pts b10 (.cells #[.pointer (some ⟨b7, 0, none⟩)] 57 (0, 0)), pts b7 (.cells #[.slice A93 r81.2.1.length c94, .slice A95 r81.2.2.1.length c96, .slice A97 r81.2.2.2.length c98] 80 (0, 0)), orw 31 (Esl 5 (.int .u8)) 1 A93 c94 r81.2.1, osl 3 (r0 (.int .i64)) 1 A95 c96 r81.2.2.1, osl 3 (r0 (.int .i64)) 1 A97 c98 r81.2.2.2] := hS.sel [3, 0, 1, 2, 4, 5, 6, 7, 8, 9] kr
        refine WR.st (St.storeObj (t := 57) (k := 0) (cur' := #[.pointer none]) (.tmp 2) (.const (.pointer none)) kr kr kr hS kr kr kr rfl rfl (fun w140 hS => ?_))
        refine WR.runk [] [1] [2, 3] (L' := [(2, .pointer (some ⟨b1, 0, none⟩)), (3, .pointer (some ⟨b4, 0, none⟩))]) (w' := w140) kr ?_
        have hS : Sat w140 (rf w0) [pts b4 (.cells #[.int .i64 0] 32 (0, 0)), pts b1 (.cells #[.pointer none] 57 (0, 0)), osl 5 (r0 (.int .u8)) 1 A137 c138 r128.1, mks D_q125, orw 31 (Esl 5 (.int .u8)) 1 A9_q125 c9_q125 o123, pts b10 (.cells #[.pointer (some ⟨b7, 0, none⟩)] 57 (0, 0)), pts b7 (.cells #[.slice A93 r81.2.1.length c94, .slice A95 r81.2.2.1.length c96, .slice A97 r81.2.2.2.length c98] 80 (0, 0)), orw 31 (Esl 5 (.int .u8)) 1 A93 c94 r81.2.1, osl 3 (r0 (.int .i64)) 1 A95 c96 r81.2.2.1, osl 3 (r0 (.int .i64)) 1 A97 c98 r81.2.2.2] := hS.sel [4, 0, 1, 2, 3, 5, 6, 7, 8, 9] kr
        refine WR.st (St.storeObj (t := 32) (k := 0) (cur' := #[.int .i64 10]) (.tmp 3) (.const (.int .i64 10)) kr kr kr hS kr kr kr rfl rfl (fun w141 hS => ?_))
        refine WR.runk [] [] [2, 3] (L' := [(2, .pointer (some ⟨b1, 0, none⟩)), (3, .pointer (some ⟨b4, 0, none⟩))]) (w' := w141) kr ?_
        refine WR.nil ?_
        refine At.go ?_
        refine WC.ret kr ?_
        refine At.thenRet ?_
        obtain rfl := Option.some.inj H
        have hS := optP.nil (O := O80) hS
        have hS : Sat w141 (rf w0) [mks D_q125, pts b1 (.cells #[.pointer none] 57 (0, 0)), pts b4 (.cells #[.int .i64 10] 32 (0, 0)), optP O80 (.pointer none) none] := hS.sel [4, 2, 1, 0] kr
        exact At.bodyM hS (fun w hS => ⟨_, fun T hT => results_cells2 (a := 2) (t := 57) (b := 3) (u := 32) hT kr kr kr kr kr (Sat.cellAt 0 0 hS rfl kr) (Sat.cellAt 1 0 hS rfl kr), ⟨_, rfl, _, rfl, (hS.sel [2] kr)⟩⟩)
       ·replace H := ite_f H hb139
        refine WR.runk [3, 4] [5, 6, 7] [2, 3, 4, 85, 86, 87] (L' := [(2, .pointer (some ⟨b1, 0, none⟩)), (3, .pointer (some ⟨b4, 0, none⟩)), (4, .pointer (some ⟨b10, 0, none⟩)), (85, .bool false), (86, .slice A137 r128.1.length c138), (87, .slice A0 l0.length c0)]) (w' := w135) kr ?_
        obtain ⟨r142, e143, H⟩ := bind_ex H
        refine WR.st (St.call kr (f := 32) (args := #[.slice A137 r128.1.length c138, .slice A0 l0.length c0]) kr (slices_Equal.calls w135 A137 c138 r128.1 (Sat.rdAt 0 hS rfl) A0 c0 l0 (rdS.up R0 hS.sub0) r142 e143) ?_)
        rintro _ w149 ⟨rfl, hS150⟩
        have hS : Sat w149 (rf w0) [osl 5 (r0 (.int .u8)) 1 A137 c138 r128.1, mks D_q125, orw 31 (Esl 5 (.int .u8)) 1 A9_q125 c9_q125 o123, pts b1 (.cells #[.pointer none] 57 (0, 0)), pts b4 (.cells #[.int .i64 0] 32 (0, 0)), pts b10 (.cells #[.pointer (some ⟨b7, 0, none⟩)] 57 (0, 0)), pts b7 (.cells #[.slice A93 r81.2.1.length c94, .slice A95 r81.2.2.1.length c96, .slice A97 r81.2.2.2.length c98] 80 (0, 0)), orw 31 (Esl 5 (.int .u8)) 1 A93 c94 r81.2.1, osl 3 (r0 (.int .i64)) 1 A95 c96 r81.2.2.1, osl 3 (r0 (.int .i64)) 1 A97 c98 r81.2.2.2] := hS.ext hS150
        refine WR.runk [6, 7] [] [2, 3, 4, 90] (L' := [(2, .pointer (some ⟨b1, 0, none⟩)), (3, .pointer (some ⟨b4, 0, none⟩)), (4, .pointer (some ⟨b10, 0, none⟩)), (90, .bool (!r142))]) (w' := w149) kr ?_
        refine WR.nil ?_
        refine At.go ?_
        refine WC.cond kr (!r142) kr kr (fun hb151 => ?_) (fun hb151 => ?_)
        ·replace H := ite_t H hb151
         refine WC.seq kr ?_
         refine WC.reg [0, 1] kr kr ?_
         refine WR.runk [] [0, 1] [2, 3] (L' := [(2, .pointer (some ⟨b1, 0, none⟩)), (3, .pointer (some ⟨b4, 0, none⟩))]) (w' := w149) kr ?_
         have hS : Sat w149 (rf w0) [pts b1 (.cells #[.pointer none] 57 (0, 0)), osl 5 (r0 (.int .u8)) 1 A137 c138 r128.1, mks D_q125, orw 31 (Esl 5 (.int .u8)) 1 A9_q125 c9_q125 o123, pts b4 (.cells #[.int .i64 0] 32 (0, 0)), pts b10 (.cells #[.pointer (some ⟨b7, 0, none⟩)] 57 (0, 0)), pts b7 (.cells #[.slice A93 r81.2.1.length c94, .slice A95 r81.2.2.1.length c96, .slice A97 r81.2.2.2.length c98] 80 (0, 0)), orw 31 (Esl 5 (.int .u8)) 1 A93 c94 r81.2.1, osl 3 (r0 (.int .i64)) 1 A95 c96 r81.2.2.1, osl 3 (r0 (.int .i64)) 1 A97 c98 r81.2.2.2] := hS.sel [3, 0, 1, 2, 4, 5, 6, 7, 8, 9] kr
         refine WR.st (St.storeObj (t := 57) (k := 0) (cur' := #[.pointer none]) (.tmp 2) (.const (.pointer none)) kr kr kr hS kr kr kr rfl rfl (fun w152 hS => ?_))
         refine WR.runk [] [1] [2, 3] (L' := [(2, .pointer (some ⟨b1, 0, none⟩)), (3, .pointer (some ⟨b4, 0, none⟩))]) (w' := w152) kr ?_
         have hS : Sat w152 (rf w0) [pts b4 (.cells #[.int .i64 0] 32 (0, 0)), pts b1 (.cells #[.pointer none] 57 (0, 0)), osl 5 (r0 (.int .u8)) 1 A137 c138 r128.1, mks D_q125, orw 31 (Esl 5 (.int .u8)) 1 A9_q125 c9_q125 o123, pts b10 (.cells #[.pointer (some ⟨b7, 0, none⟩)] 57 (0, 0)), pts b7 (.cells #[.slice A93 r81.2.1.length c94, .slice A95 r81.2.2.1.length c96, .slice A97 r81.2.2.2.length c98] 80 (0, 0)), orw 31 (Esl 5 (.int .u8)) 1 A93 c94 r81.2.1, osl 3 (r0 (.int .i64)) 1 A95 c96 r81.2.2.1, osl 3 (r0 (.int .i64)) 1 A97 c98 r81.2.2.2] := hS.sel [4, 0, 1, 2, 3, 5, 6, 7, 8, 9] kr
         refine WR.st (St.storeObj (t := 32) (k := 0) (cur' := #[.int .i64 10]) (.tmp 3) (.const (.int .i64 10)) kr kr kr hS kr kr kr rfl rfl (fun w153 hS => ?_))
         refine WR.runk [] [] [2, 3] (L' := [(2, .pointer (some ⟨b1, 0, none⟩)), (3, .pointer (some ⟨b4, 0, none⟩))]) (w' := w153) kr ?_
         refine WR.nil ?_
         refine At.go ?_
         refine WC.ret kr ?_
         refine At.thenRet ?_
         obtain rfl := Option.some.inj H
         have hS := optP.nil (O := O80) hS
         have hS : Sat w153 (rf w0) [mks D_q125, pts b1 (.cells #[.pointer none] 57 (0, 0)), pts b4 (.cells #[.int .i64 10] 32 (0, 0)), optP O80 (.pointer none) none] := hS.sel [4, 2, 1, 0] kr
         exact At.bodyM hS (fun w hS => ⟨_, fun T hT => results_cells2 (a := 2) (t := 57) (b := 3) (u := 32) hT kr kr kr kr kr (Sat.cellAt 0 0 hS rfl kr) (Sat.cellAt 1 0 hS rfl kr), ⟨_, rfl, _, rfl, (hS.sel [2] kr)⟩⟩)
        ·replace H := ite_f H hb151
         refine WC.skip kr ?_
         refine At.go ?_
         refine WC.seq kr ?_
         refine WC.reg [0, 1, 2] kr kr ?_
         refine WR.runk [] [0, 1, 2] [2, 3, 4] (L' := [(2, .pointer (some ⟨b1, 0, none⟩)), (3, .pointer (some ⟨b4, 0, none⟩)), (4, .pointer (some ⟨b10, 0, none⟩))]) (w' := w149) kr ?_
         refine WR.st (St.ofR (RSt.loadObj (t := 57) (k := 0) (v := .pointer (some ⟨b7, 0, none⟩)) (.tmp 4) kr kr kr 5 hS rfl kr rfl ?_))
         refine WR.runk [] [1, 2] [2, 3, 91] (L' := [(2, .pointer (some ⟨b1, 0, none⟩)), (3, .pointer (some ⟨b4, 0, none⟩)), (91, .pointer (some ⟨b7, 0, none⟩))]) (w' := w149) kr ?_
         have hS : Sat w149 (rf w0) [pts b1 (.cells #[.pointer none] 57 (0, 0)), osl 5 (r0 (.int .u8)) 1 A137 c138 r128.1, mks D_q125, orw 31 (Esl 5 (.int .u8)) 1 A9_q125 c9_q125 o123, pts b4 (.cells #[.int .i64 0] 32 (0, 0)), pts b10 (.cells #[.pointer (some ⟨b7, 0, none⟩)] 57 (0, 0)), pts b7 (.cells #[.slice A93 r81.2.1.length c94, .slice A95 r81.2.2.1.length c96, .slice A97 r81.2.2.2.length c98] 80 (0, 0)), orw 31 (Esl 5 (.int .u8)) 1 A93 c94 r81.2.1, osl 3 (r0 (.int .i64)) 1 A95 c96 r81.2.2.1, osl 3 (r0 (.int .i64)) 1 A97 c98 r81.2.2.2] := hS.sel [3, 0, 1, 2, 4, 5, 6, 7, 8, 9] kr
         refine WR.st (St.storeObj (t := 57) (k := 0) (cur' := #[.pointer (some ⟨b7, 0, none⟩)]) (.tmp 2) (.tmp 91) kr kr kr hS kr kr kr rfl rfl (fun w154 hS => ?_))
         refine WR.runk [] [2] [2, 3] (L' := [(2, .pointer (some ⟨b1, 0, none⟩)), (3, .pointer (some ⟨b4, 0, none⟩))]) (w' := w154) kr ?_
         have hS : Sat w154 (rf w0) [pts b4 (.cells #[.int .i64 0] 32 (0, 0)), pts b1 (.cells #[.pointer (some ⟨b7, 0, none⟩)] 57 (0, 0)), osl 5 (r0 (.int .u8)) 1 A137 c138 r128.1, mks D_q125, orw 31 (Esl 5 (.int .u8)) 1 A9_q125 c9_q125 o123, pts b10 (.cells #[.pointer (some ⟨b7, 0, none⟩)] 57 (0, 0)), pts b7 (.cells #[.slice A93 r81.2.1.length c94, .slice A95 r81.2.2.1.length c96, .slice A97 r81.2.2.2.length c98] 80 (0, 0)), orw 31 (Esl 5 (.int .u8)) 1 A93 c94 r81.2.1, osl 3 (r0 (.int .i64)) 1 A95 c96 r81.2.2.1, osl 3 (r0 (.int .i64)) 1 A97 c98 r81.2.2.2] := hS.sel [4, 0, 1, 2, 3, 5, 6, 7, 8, 9] kr
         refine WR.st (St.storeObj (t := 32) (k := 0) (cur' := #[.int .i64 0]) (.tmp 3) (.const (.int .i64 0)) kr kr kr hS kr kr kr rfl rfl (fun w155 hS => ?_))
         refine WR.runk [] [] [2, 3] (L' := [(2, .pointer (some ⟨b1, 0, none⟩)), (3, .pointer (some ⟨b4, 0, none⟩))]) (w' := w155) kr ?_
         refine WR.nil ?_
         refine At.go ?_
         refine WC.ret kr ?_
         obtain rfl := Option.some.inj H
         have hS : Sat w155 (rf w0) [pts b7 (.cells #[.slice A93 r81.2.1.length c94, .slice A95 r81.2.2.1.length c96, .slice A97 r81.2.2.2.length c98] 80 (0, 0)), orw 31 (Esl 5 (.int .u8)) 1 A93 c94 r81.2.1, osl 3 (r0 (.int .i64)) 1 A95 c96 r81.2.2.1, osl 3 (r0 (.int .i64)) 1 A97 c98 r81.2.2.2, pts b4 (.cells #[.int .i64 0] 32 (0, 0)), pts b1 (.cells #[.pointer (some ⟨b7, 0, none⟩)] 57 (0, 0)), osl 5 (r0 (.int .u8)) 1 A137 c138 r128.1, mks D_q125, orw 31 (Esl 5 (.int .u8)) 1 A9_q125 c9_q125 o123, pts b10 (.cells #[.pointer (some ⟨b7, 0, none⟩)] 57 (0, 0))] := hS.sel [6, 7, 8, 9, 0, 1, 2, 3, 4, 5] kr
         have hS : Sat w155 (rf w0) [O80 b7 r81.2, pts b4 (.cells #[.int .i64 0] 32 (0, 0)), pts b1 (.cells #[.pointer (some ⟨b7, 0, none⟩)] 57 (0, 0)), osl 5 (r0 (.int .u8)) 1 A137 c138 r128.1, mks D_q125, orw 31 (Esl 5 (.int .u8)) 1 A9_q125 c9_q125 o123, pts b10 (.cells #[.pointer (some ⟨b7, 0, none⟩)] 57 (0, 0))] := O80.close r81.2 A93 c94 A95 c96 A97 c98 hS
         have hS : Sat w155 (rf w0) [optP O80 (.pointer (some ⟨b7, 0, none⟩)) (some r81.2), pts b4 (.cells #[.int .i64 0] 32 (0, 0)), pts b1 (.cells #[.pointer (some ⟨b7, 0, none⟩)] 57 (0, 0)), osl 5 (r0 (.int .u8)) 1 A137 c138 r128.1, mks D_q125, orw 31 (Esl 5 (.int .u8)) 1 A9_q125 c9_q125 o123, pts b10 (.cells #[.pointer (some ⟨b7, 0, none⟩)] 57 (0, 0))] := optP.mk hS
         have hS : Sat w155 (rf w0) [mks D_q125, pts b1 (.cells #[.pointer (some ⟨b7, 0, none⟩)] 57 (0, 0)), pts b4 (.cells #[.int .i64 0] 32 (0, 0)), optP O80 (.pointer (some ⟨b7, 0, none⟩)) (some r81.2)] := hS.sel [4, 2, 1, 0] kr
         exact At.bodyM hS (fun w hS => ⟨_, fun T hT => results_cells2 (a := 2) (t := 57) (b := 3) (u := 32) hT kr kr kr kr kr (Sat.cellAt 0 0 hS rfl kr) (Sat.cellAt 1 0 hS rfl kr), ⟨_, rfl, _, rfl, (hS.sel [2] kr)⟩⟩)
     ·subst ho157
      dsimp only at H
      refine At.blockRet ?_
      refine At.thenRet ?_
      obtain rfl := Option.some.inj H
      have hS := optP.nil (O := O80) hS
      have hS : Sat w156 (rf w0) [mks D73, pts b1 (.cells #[.pointer none] 57 (0, 0)), pts b4 (.cells #[.int .i64 o77.2] 32 (0, 0)), optP O80 (.pointer none) none] := hS.sel [1, 3, 4, 0] kr
      exact At.bodyM hS (fun w hS => ⟨_, fun T hT => results_cells2 (a := 2) (t := 57) (b := 3) (u := 32) hT kr kr kr kr kr (Sat.cellAt 0 0 hS rfl kr) (Sat.cellAt 1 0 hS rfl kr), ⟨_, rfl, _, rfl, (hS.sel [2] kr)⟩⟩)
/-! ### 8 colophon/colophonlaw07.made -/
def colophonlaw07_made.l1 (a0 : Int) : Nat → (List Int) → Int → Option (List Int)
  | 0, _, _ => none
  | k + 1, x5_l1, x15_l1 => (if decide (x15_l1 < a0) then ((make? 140737488355328 0 256).bind fun y2 => ((at? y2 0).bind fun v7 => ((set? y2 0 (IntKind.wrap .u8 (wi (x15_l1 + 1)))).bind fun y9 => ((app? 140737488355328 x5_l1 y9).bind fun y14 => colophonlaw07_made.l1 a0 k y14 (wi (x15_l1 + 1)))))) else some x5_l1)
def colophonlaw07_made.l2 (a1 : Int) : Nat → Int → ((Option ((List (List Int)) × (List Int) × (List Int))) × (List (Int × (List Int) × Bool × Int)) × Int × Int × Int) → Option ((Option ((List (List Int)) × (List Int) × (List Int))) × (List (Int × (List Int) × Bool × Int)) × Int × Int × Int)
  | 0, _, _ => none
  | k + 1, x21_l2, q55_l2 => (if decide (x21_l2 < a1) then ((app? 2932031007402 q55_l2.2.1 [((-1), ([] : List Int), false, 0)]).bind fun y63 => colophonlaw07_made.l2 a1 k (wi (x21_l2 + 1)) (q55_l2.1, y63, q55_l2.2.2.1, q55_l2.2.2.2.1, q55_l2.2.2.2.2)) else some q55_l2)
def colophonlaw07_made.f (a0 : Int) (a1 : Int) : Option (Option ((Option ((List (List Int)) × (List Int) × (List Int))) × (List (Int × (List Int) × Bool × Int)) × Int × Int × Int)) := ((colophonlaw07_made.l1 a0 FU ([] : List Int) 0).bind fun o18 => ((image_Build.f ([o18] : List (List Int))).bind fun r25 => ((image_Open.f r25.1).bind fun r36 => (match r36.1 with | none => some none | some y46 => (if decide (a1 < 1) then some none else (if decide (a1 > 4096) then some none else ((colophonlaw07_made.l2 a1 FU 0 ((some y46), ([] : List (Int × (List Int) × Bool × Int)), 0, 0, 0)).bind fun o73 => some (some o73))))))))
def colophonlaw07_made.post (w : World) (r : (Option ((Option ((List (List Int)) × (List Int) × (List Int))) × (List (Int × (List Int) × Bool × Int)) × Int × Int × Int))) (v : Value) (w' : World) : Prop := ∃ (v0 : Value), v = (v0 : Value) ∧ Sat w' (rf w) [optP O66 v0 r]
theorem colophonlaw07_made.l1_ok {Q} (w0 : World) (a0 : Int) (a1 : Int) (out : (List Int)) (hn0 : ∀ (A5_q : Option Addr) (c5_q : Nat) (w : World), Sat w (rf w0) [osl 5 (r0 (.int .u8)) 1 A5_q c5_q out] → At Q (.exit 0) 46 [(1, .int .i64 a1), (5, .slice A5_q out.length c5_q)] w) :
    ∀ (k : Nat) (x5_l1 : List Int) (x15_l1 : Int) (A5_l1 : Option Addr) (c5_l1 : Nat) (w : World), Sat w (rf w0) [osl 5 (r0 (.int .u8)) 1 A5_l1 c5_l1 x5_l1] → colophonlaw07_made.l1 a0 k x5_l1 x15_l1 = some out → WL Try.prog (cbody (cbody (cr (cl (cr (cr C8)))))) Q 46 [(1, .int .i64 a1), (5, .slice A5_l1 x5_l1.length c5_l1), (14, .int .i64 a0), (15, .int .i64 x15_l1)] w := by
  intro k
  induction k with
  | zero => intro x5_l1 x15_l1 A5_l1 c5_l1 w hS H; exact absurd (show none = some out from H) (by simp)
  | succ k ih =>
    intro x5_l1 x15_l1 A5_l1 c5_l1 w hS H
    unfold colophonlaw07_made.l1 at H
    refine WL.round ?_
    refine WC.seq kr ?_
    refine WC.reg [0] kr kr ?_
    refine WR.runk [0] [] [1, 5, 14, 15, 16] (L' := [(1, .int .i64 a1), (5, .slice A5_l1 x5_l1.length c5_l1), (14, .int .i64 a0), (15, .int .i64 x15_l1), (16, .bool (decide (x15_l1 < a0)))]) (w' := w) kr ?_
    refine WR.nil ?_
    refine At.go ?_
    refine WC.seq kr ?_
    refine WC.cond kr (decide (x15_l1 < a0)) kr kr (fun hb1 => ?_) (fun hb1 => ?_)
    ·replace H := ite_t H hb1
     refine WC.skip kr ?_
     refine At.go ?_
     refine WC.seq kr ?_
     refine WC.block kr ?_
     refine WC.seq kr ?_
     refine WC.reg [0, 1] kr kr ?_
     refine WR.runk [0, 1] [] [1, 5, 6, 14, 15] (L' := [(1, .int .i64 a1), (5, .slice A5_l1 x5_l1.length c5_l1), (6, .int .i64 x15_l1), (14, .int .i64 a0), (15, .int .i64 x15_l1)]) (w' := w) kr ?_
     refine WR.nil ?_
     refine At.go ?_
     refine WC.seq kr ?_
     refine WC.reg [0, 1] kr kr ?_
     obtain ⟨y2, e3, H⟩ := bind_ex H
     refine WR.st (St.make' (t := 31) (e := 5) (sz := 1) (bytes := 1) (k1 := .i64) (k2 := .i64) (R := (r0 (.int .u8))) (.const (.int .i64 256)) (.const (.int .i64 256)) kr kr (.int .u8 0) kr kr rfl kr hS kr kr 140737488355328 kr kr e3 (fun A4 c5 w6 hS => ?_))
     refine WR.runk [1] [] [1, 5, 6, 7, 14, 15] (L' := [(1, .int .i64 a1), (5, .slice A5_l1 x5_l1.length c5_l1), (6, .int .i64 x15_l1), (7, .slice A4 y2.length c5), (14, .int .i64 a0), (15, .int .i64 x15_l1)]) (w' := w6) kr ?_
     refine WR.nil ?_
     refine At.go ?_
     refine WC.seq kr ?_
     refine WC.reg [0, 1, 2, 3, 4, 5] kr kr ?_
     refine WR.runk [0, 1, 2, 3] [4, 5] [1, 5, 7, 14, 15, 19, 22] (L' := [(1, .int .i64 a1), (5, .slice A5_l1 x5_l1.length c5_l1), (7, .slice A4 y2.length c5), (14, .int .i64 a0), (15, .int .i64 x15_l1), (19, .slice A4 y2.length c5), (22, .int .u8 (IntKind.wrap .u8 (wi (x15_l1 + 1))))]) (w' := w6) kr ?_
     obtain ⟨v7, e8, H⟩ := bind_ex H
     refine WR.st (St.ofP (PSt.idx (k := .i64) (.tmp 19) (.const (.int .i64 0)) kr kr E31 kr kr (Sat.rdAt 0 hS rfl) e8 ?_))
     refine WR.runk [] [5] [1, 5, 7, 14, 15, 22, 23] (L' := [(1, .int .i64 a1), (5, .slice A5_l1 x5_l1.length c5_l1), (7, .slice A4 y2.length c5), (14, .int .i64 a0), (15, .int .i64 x15_l1), (22, .int .u8 (IntKind.wrap .u8 (wi (x15_l1 + 1)))), (23, .pointer (some (adr A4 (0 : Int).toNat 1)))]) (w' := w6) kr ?_
     obtain ⟨y9, e10, H⟩ := bind_ex H
     refine WR.st (St.storeElem' (t := 5) (.tmp 23) (.tmp 22) kr kr kr hS kr kr rfl e10 rfl (fun w11 hS => ?_))
     have hl12 := set?_len e10
     refine WR.know 7 (.slice A4 y9.length c5) (.slice A4 y2.length c5) kr (by rw [hl12]) ?_
     refine WR.runk [] [] [1, 5, 7, 14, 15] (L' := [(1, .int .i64 a1), (5, .slice A5_l1 x5_l1.length c5_l1), (7, .slice A4 y9.length c5), (14, .int .i64 a0), (15, .int .i64 x15_l1)]) (w' := w11) kr ?_
     refine WR.nil ?_
     refine At.go ?_
     refine WC.reg [0, 1, 2, 3] kr kr ?_
     refine WR.runk [0, 1] [2, 3] [1, 5, 14, 15, 24, 25] (L' := [(1, .int .i64 a1), (5, .slice A5_l1 x5_l1.length c5_l1), (14, .int .i64 a0), (15, .int .i64 x15_l1), (24, .slice A5_l1 x5_l1.length c5_l1), (25, .slice A4 y9.length c5)]) (w' := w11) kr ?_
     have hS : Sat w11 (rf w0) [osl 5 (r0 (.int .u8)) 1 A5_l1 c5_l1 x5_l1, osl 5 (r0 (.int .u8)) 1 A4 c5 y9] := hS.sel [1, 0] kr
     obtain ⟨y14, e13, H⟩ := bind_ex H
     refine WR.st (St.append' (.tmp 24) (.tmp 25) kr kr E31 (r0_one _) hS kr kr (Sat.rdAt 1 hS rfl) 140737488355328 kr kr e13 (fun A15 c16 w17 hS => ?_))
     refine WR.runk [3] [] [1, 5, 14, 15] (L' := [(1, .int .i64 a1), (5, .slice A15 y14.length c16), (14, .int .i64 a0), (15, .int .i64 x15_l1)]) (w' := w17) kr ?_
     refine WR.nil ?_
     refine At.blockNormal ?_
     refine At.go ?_
     refine WC.reg [0, 1] kr kr ?_
     refine WR.runk [0, 1] [] [1, 5, 14, 15] (L' := [(1, .int .i64 a1), (5, .slice A15 y14.length c16), (14, .int .i64 a0), (15, .int .i64 (wi (x15_l1 + 1)))]) (w' := w17) kr ?_
     refine WR.nil ?_
     have hS : Sat w17 (rf w0) [osl 5 (r0 (.int .u8)) 1 A15 c16 y14] := hS.sel [0] kr
     refine At.again ?_
     refine WL.weaken [1, 5, 14, 15] (L' := [(1, .int .i64 a1), (5, .slice A15 y14.length c16), (14, .int .i64 a0), (15, .int .i64 (wi (x15_l1 + 1)))]) kr ?_
     exact ih y14 (wi (x15_l1 + 1)) A15 c16 _ hS H
    ·replace H := ite_f H hb1
     refine WC.exit kr ?_
     refine At.thenExit ?_
     refine At.thenExit ?_
     obtain rfl := Option.some.inj H
     have hS : Sat w (rf w0) [osl 5 (r0 (.int .u8)) 1 A5_l1 c5_l1 x5_l1] := hS.sel [0] kr
     refine At.weaken [1, 5] (L' := [(1, .int .i64 a1), (5, .slice A5_l1 x5_l1.length c5_l1)]) kr ?_
     exact hn0 A5_l1 c5_l1 _ hS
theorem colophonlaw07_made.l2_ok {Q} (w0 : World) (a1 : Int) (o18 : (List Int)) (A5_q20 : Option Addr) (c5_q20 : Nat) (b23 : Nat) (r25 : (List Int) × Int) (A34 : Option Addr) (c35 : Nat) (b53 : Nat) (out : ((Option ((List (List Int)) × (List Int) × (List Int))) × (List (Int × (List Int) × Bool × Int)) × Int × Int × Int)) (hn0 : ∀ (w : World), Sat w (rf w0) [O66 b53 out, osl 5 (r0 (.int .u8)) 1 A34 c35 r25.1, pts b23 (.cells #[.slice A5_q20 o18.length c5_q20] 31 (0, 0)), osl 5 (r0 (.int .u8)) 1 A5_q20 c5_q20 o18] → At Q (.exit 1) 35 [(6, .pointer (some ⟨b53, 0, none⟩))] w) :
    ∀ (k : Nat) (x21_l2 : Int) (q55_l2 : (Option ((List (List Int)) × (List Int) × (List Int))) × (List (Int × (List Int) × Bool × Int)) × Int × Int × Int) (w : World), Sat w (rf w0) [O66 b53 q55_l2, osl 5 (r0 (.int .u8)) 1 A34 c35 r25.1, pts b23 (.cells #[.slice A5_q20 o18.length c5_q20] 31 (0, 0)), osl 5 (r0 (.int .u8)) 1 A5_q20 c5_q20 o18] → colophonlaw07_made.l2 a1 k x21_l2 q55_l2 = some out → WL Try.prog (cbody (cbody (cr (cl (cr (cr (cr C17))))))) Q 35 [(6, .pointer (some ⟨b53, 0, none⟩)), (20, .int .i64 a1), (21, .int .i64 x21_l2)] w := by
  intro k
  induction k with
  | zero => intro x21_l2 q55_l2 w hS H; exact absurd (show none = some out from H) (by simp)
  | succ k ih =>
    intro x21_l2 q55_l2 w hS H
    unfold colophonlaw07_made.l2 at H
    refine WL.round ?_
    refine WC.seq kr ?_
    refine WC.reg [0] kr kr ?_
    refine WR.runk [0] [] [6, 20, 21, 22] (L' := [(6, .pointer (some ⟨b53, 0, none⟩)), (20, .int .i64 a1), (21, .int .i64 x21_l2), (22, .bool (decide (x21_l2 < a1)))]) (w' := w) kr ?_
    refine WR.nil ?_
    refine At.go ?_
    refine WC.seq kr ?_
    refine WC.cond kr (decide (x21_l2 < a1)) kr kr (fun hb56 => ?_) (fun hb56 => ?_)
    ·replace H := ite_t H hb56
     refine WC.skip kr ?_
     refine At.go ?_
     refine WC.seq kr ?_
     refine WC.block kr ?_
     refine WC.reg [0, 1, 2, 3, 4, 5, 6, 7, 8, 9, 10] kr kr ?_
     refine WR.runk [0, 1, 2, 3] [4, 5, 6, 7, 8, 9, 10] [6, 20, 21, 23, 26] (L' := [(6, .pointer (some ⟨b53, 0, none⟩)), (20, .int .i64 a1), (21, .int .i64 x21_l2), (23, .pointer (some ⟨b53, 0, none⟩)), (26, .pointer (some ⟨b53, 1, none⟩))]) (w' := w) kr ?_
     obtain ⟨pv57, A58, c59, hS⟩ := O66.open hS
     have hS : Sat w (rf w0) [pts b53 (.cells #[pv57, .slice A58 q55_l2.2.1.length c59, .int .i64 q55_l2.2.2.1, .int .i64 q55_l2.2.2.2.1, .int .i64 q55_l2.2.2.2.2] 66 (0, 0)), optP O80 pv57 q55_l2.1, orw 63 F63 4 A58 c59 q55_l2.2.1, osl 5 (r0 (.int .u8)) 1 A34 c35 r25.1, pts b23 (.cells #[.slice A5_q20 o18.length c5_q20] 31 (0, 0)), osl 5 (r0 (.int .u8)) 1 A5_q20 c5_q20 o18] := hS
     refine WR.st (St.ofR (RSt.loadObj (t := 64) (k := 1) (v := .slice A58 q55_l2.2.1.length c59) (.tmp 26) kr kr kr 0 hS rfl kr rfl ?_))
     refine WR.runk [5] [6, 7, 8, 9, 10] [6, 20, 21, 23, 27, 28] (L' := [(6, .pointer (some ⟨b53, 0, none⟩)), (20, .int .i64 a1), (21, .int .i64 x21_l2), (23, .pointer (some ⟨b53, 0, none⟩)), (27, .slice A58 q55_l2.2.1.length c59), (28, .agg #[.int .i64 (-1), .slice none 0 0, .bool false, .int .i64 0])]) (w' := w) kr ?_
     refine WR.st (St.box hS kr (.cells #[.int .i64 (-1), .slice none 0 0, .bool false, .int .i64 0] 63) (fun b60 => .slice (some ⟨b60, 0, none⟩) 1 1) (fun _ => by kernel_rfl) (fun b60 w61 hS => ?_))
     refine WR.runk [] [7, 8, 9, 10] [6, 20, 21, 23, 27, 29] (L' := [(6, .pointer (some ⟨b53, 0, none⟩)), (20, .int .i64 a1), (21, .int .i64 x21_l2), (23, .pointer (some ⟨b53, 0, none⟩)), (27, .slice A58 q55_l2.2.1.length c59), (29, .slice (some ⟨b60, 0, none⟩) 1 1)]) (w' := w61) kr ?_
     have hS : Sat w61 (rf w0) [orw 63 F63 4 A58 c59 q55_l2.2.1, pts b60 (.cells #[.int .i64 (-1), .slice none 0 0, .bool false, .int .i64 0] 63 (0, 0)), pts b53 (.cells #[pv57, .slice A58 q55_l2.2.1.length c59, .int .i64 q55_l2.2.2.1, .int .i64 q55_l2.2.2.2.1, .int .i64 q55_l2.2.2.2.2] 66 (0, 0)), optP O80 pv57 q55_l2.1, osl 5 (r0 (.int .u8)) 1 A34 c35 r25.1, pts b23 (.cells #[.slice A5_q20 o18.length c5_q20] 31 (0, 0)), osl 5 (r0 (.int .u8)) 1 A5_q20 c5_q20 o18] := hS.sel [3, 0, 1, 2, 4, 5, 6] kr
     have hS := hS.addNil (α := Int) 5 (r0 (.int .u8)) 1
     have hS : Sat w61 (rf w0) [orw 63 F63 4 A58 c59 q55_l2.2.1, osl 5 (r0 (.int .u8)) 1 none 0 ([] : List Int), pts b60 (.cells #[.int .i64 (-1), .slice none 0 0, .bool false, .int .i64 0] 63 (0, 0)), pts b53 (.cells #[pv57, .slice A58 q55_l2.2.1.length c59, .int .i64 q55_l2.2.2.1, .int .i64 q55_l2.2.2.2.1, .int .i64 q55_l2.2.2.2.2] 66 (0, 0)), optP O80 pv57 q55_l2.1, osl 5 (r0 (.int .u8)) 1 A34 c35 r25.1, pts b23 (.cells #[.slice A5_q20 o18.length c5_q20] 31 (0, 0)), osl 5 (r0 (.int .u8)) 1 A5_q20 c5_q20 o18] := hS.sel [1, 0, 2, 3, 4, 5, 6, 7] kr
     obtain ⟨y63, e62, H⟩ := bind_ex H
     refine WR.st (St.appendOwn (.tmp 27) (.tmp 29) kr kr E64 (fun H h => ⟨(none, 0), rfl, h⟩) hS 0 rfl kr kr kr kr 2932031007402 kr kr e62 (fun A64 c65 w66 K67 hS hK68 hM69 => ?_))
     have R70 : rdS (rd K67 (.pair (.int .i64) (.pair (.slice 5 (.int .u8)) (.pair .bool (.int .i64))))) 4 K67 A64 c65 y63 := orw.rdS (κ := (.pair (.int .i64) (.pair (.slice 5 (.int .u8)) (.pair .bool (.int .i64))))) F63.rd hK68
     have R71 : rdS (r0 (.int .u8)) 1 K67 none 0 ([] : List Int) := by obtain ⟨M, hM, hm⟩ := hM69; exact (osl.read hm).mono hM (fun _ _ h => h)
     refine WR.runk [8, 9] [10] [6, 20, 21, 30, 32] (L' := [(6, .pointer (some ⟨b53, 0, none⟩)), (20, .int .i64 a1), (21, .int .i64 x21_l2), (30, .slice A64 y63.length c65), (32, .pointer (some ⟨b53, 1, none⟩))]) (w' := w66) kr ?_
     have hS : Sat w66 (rf w0) [pts b53 (.cells #[pv57, .slice A58 q55_l2.2.1.length c59, .int .i64 q55_l2.2.2.1, .int .i64 q55_l2.2.2.2.1, .int .i64 q55_l2.2.2.2.2] 66 (0, 0)), gh K67, pts b60 (.cells #[.int .i64 (-1), .slice none 0 0, .bool false, .int .i64 0] 63 (0, 0)), optP O80 pv57 q55_l2.1, osl 5 (r0 (.int .u8)) 1 A34 c35 r25.1, pts b23 (.cells #[.slice A5_q20 o18.length c5_q20] 31 (0, 0)), osl 5 (r0 (.int .u8)) 1 A5_q20 c5_q20 o18] := hS.sel [2, 0, 1, 3, 4, 5, 6] kr
     refine WR.st (St.storeObj (t := 64) (k := 1) (cur' := #[pv57, .slice A64 y63.length c65, .int .i64 q55_l2.2.2.1, .int .i64 q55_l2.2.2.2.1, .int .i64 q55_l2.2.2.2.2]) (.tmp 32) (.tmp 30) kr kr kr hS kr kr kr rfl rfl (fun w72 hS => ?_))
     refine WR.runk [] [] [6, 20, 21] (L' := [(6, .pointer (some ⟨b53, 0, none⟩)), (20, .int .i64 a1), (21, .int .i64 x21_l2)]) (w' := w72) kr ?_
     refine WR.nil ?_
     refine At.blockNormal ?_
     refine At.go ?_
     refine WC.reg [0, 1] kr kr ?_
     refine WR.runk [0, 1] [] [6, 20, 21] (L' := [(6, .pointer (some ⟨b53, 0, none⟩)), (20, .int .i64 a1), (21, .int .i64 (wi (x21_l2 + 1)))]) (w' := w72) kr ?_
     refine WR.nil ?_
     have hS : Sat w72 (rf w0) [gh K67, pts b53 (.cells #[pv57, .slice A64 y63.length c65, .int .i64 q55_l2.2.2.1, .int .i64 q55_l2.2.2.2.1, .int .i64 q55_l2.2.2.2.2] 66 (0, 0)), pts b60 (.cells #[.int .i64 (-1), .slice none 0 0, .bool false, .int .i64 0] 63 (0, 0)), optP O80 pv57 q55_l2.1, osl 5 (r0 (.int .u8)) 1 A34 c35 r25.1, pts b23 (.cells #[.slice A5_q20 o18.length c5_q20] 31 (0, 0)), osl 5 (r0 (.int .u8)) 1 A5_q20 c5_q20 o18] := hS.sel [1, 0, 2, 3, 4, 5, 6] kr
     have hS : Sat w72 (rf w0) [orw 63 F63 4 A64 c65 y63, pts b53 (.cells #[pv57, .slice A64 y63.length c65, .int .i64 q55_l2.2.2.1, .int .i64 q55_l2.2.2.2.1, .int .i64 q55_l2.2.2.2.2] 66 (0, 0)), pts b60 (.cells #[.int .i64 (-1), .slice none 0 0, .bool false, .int .i64 0] 63 (0, 0)), optP O80 pv57 q55_l2.1, osl 5 (r0 (.int .u8)) 1 A34 c35 r25.1, pts b23 (.cells #[.slice A5_q20 o18.length c5_q20] 31 (0, 0)), osl 5 (r0 (.int .u8)) 1 A5_q20 c5_q20 o18] := Sat.ungh hK68 hS
     have hS : Sat w72 (rf w0) [pts b53 (.cells #[pv57, .slice A64 y63.length c65, .int .i64 q55_l2.2.2.1, .int .i64 q55_l2.2.2.2.1, .int .i64 q55_l2.2.2.2.2] 66 (0, 0)), optP O80 pv57 q55_l2.1, orw 63 F63 4 A64 c65 y63, pts b60 (.cells #[.int .i64 (-1), .slice none 0 0, .bool false, .int .i64 0] 63 (0, 0)), osl 5 (r0 (.int .u8)) 1 A34 c35 r25.1, pts b23 (.cells #[.slice A5_q20 o18.length c5_q20] 31 (0, 0)), osl 5 (r0 (.int .u8)) 1 A5_q20 c5_q20 o18] := hS.sel [1, 3, 0, 2, 4, 5, 6] kr
     have hS : Sat w72 (rf w0) [O66 b53 (q55_l2.1, y63, q55_l2.2.2.1, q55_l2.2.2.2.1, q55_l2.2.2.2.2), pts b60 (.cells #[.int .i64 (-1), .slice none 0 0, .bool false, .int .i64 0] 63 (0, 0)), osl 5 (r0 (.int .u8)) 1 A34 c35 r25.1, pts b23 (.cells #[.slice A5_q20 o18.length c5_q20] 31 (0, 0)), osl 5 (r0 (.int .u8)) 1 A5_q20 c5_q20 o18] := O66.close (q55_l2.1, y63, q55_l2.2.2.1, q55_l2.2.2.2.1, q55_l2.2.2.2.2) pv57 A64 c65 hS
     have hS : Sat w72 (rf w0) [O66 b53 (q55_l2.1, y63, q55_l2.2.2.1, q55_l2.2.2.2.1, q55_l2.2.2.2.2), osl 5 (r0 (.int .u8)) 1 A34 c35 r25.1, pts b23 (.cells #[.slice A5_q20 o18.length c5_q20] 31 (0, 0)), osl 5 (r0 (.int .u8)) 1 A5_q20 c5_q20 o18] := hS.sel [0, 2, 3, 4] kr
     refine At.again ?_
     refine WL.weaken [6, 20, 21] (L' := [(6, .pointer (some ⟨b53, 0, none⟩)), (20, .int .i64 a1), (21, .int .i64 (wi (x21_l2 + 1)))]) kr ?_
     exact ih (wi (x21_l2 + 1)) (q55_l2.1, y63, q55_l2.2.2.1, q55_l2.2.2.2.1, q55_l2.2.2.2.2) _ hS H
    ·replace H := ite_f H hb56
     refine WC.exit kr ?_
     refine At.thenExit ?_
     refine At.thenExit ?_
     obtain rfl := Option.some.inj H
     have hS : Sat w (rf w0) [O66 b53 q55_l2, osl 5 (r0 (.int .u8)) 1 A34 c35 r25.1, pts b23 (.cells #[.slice A5_q20 o18.length c5_q20] 31 (0, 0)), osl 5 (r0 (.int .u8)) 1 A5_q20 c5_q20 o18] := hS.sel [0, 1, 2, 3] kr
     refine At.weaken [6] (L' := [(6, .pointer (some ⟨b53, 0, none⟩))]) kr ?_
     exact hn0 _ hS
theorem colophonlaw07_made.calls (w0 : World) (a0 : Int) (a1 : Int) (r : (Option ((Option ((List (List Int)) × (List Int) × (List Int))) × (List (Int × (List Int) × Bool × Int)) × Int × Int × Int))) (H : colophonlaw07_made.f a0 a1 = some r) :
    Calls Try.prog 8 #[.int .i64 a0, .int .i64 a1] w0 (fun e w' => ∃ v, e = .returned v ∧ colophonlaw07_made.post w0 r v w') := by
  have hS : Sat w0 (rf w0) [] := Sat.start w0
  unfold colophonlaw07_made.f at H
  refine calls_of_WC (vs := [.int .i64 a0, .int .i64 a1]) Try.func8 (c := C8) (n := 46) kr kr kr ?_
  refine WC.seq kr ?_
  refine WC.reg [0] kr kr ?_
  refine WR.runk [0] [] [0, 1] (L' := [(0, .int .i64 a0), (1, .int .i64 a1)]) (w' := w0) kr ?_
  refine WR.nil ?_
  refine At.go ?_
  refine WC.seq kr ?_
  refine WC.reg [0] kr kr ?_
  refine WR.runk [0] [] [0, 1, 5] (L' := [(0, .int .i64 a0), (1, .int .i64 a1), (5, .slice none 0 0)]) (w' := w0) kr ?_
  refine WR.nil ?_
  refine At.go ?_
  refine WC.seq kr ?_
  refine WC.seq kr ?_
  refine WC.reg [0, 1] kr kr ?_
  refine WR.runk [0, 1] [] [1, 5, 14, 15] (L' := [(1, .int .i64 a1), (5, .slice none 0 0), (14, .int .i64 a0), (15, .int .i64 0)]) (w' := w0) kr ?_
  refine WR.nil ?_
  refine At.go ?_
  refine WC.block kr ?_
  have hS := hS.addNil (α := Int) 5 (r0 (.int .u8)) 1
  have hS : Sat w0 (rf w0) [osl 5 (r0 (.int .u8)) 1 none 0 ([] : List Int)] := hS.sel [0] kr
  obtain ⟨o18, e19, H⟩ := bind_ex H
  refine WC.loop kr ?_
  refine WL.weaken [1, 5, 14, 15] (L' := [(1, .int .i64 a1), (5, .slice none 0 0), (14, .int .i64 a0), (15, .int .i64 0)]) kr ?_
  refine colophonlaw07_made.l1_ok w0 a0 a1 o18 (fun A5_q20 c5_q20 w21 hS => ?_) FU ([] : List Int) 0 none 0 _ hS e19
  refine At.hit ?_
  refine At.go ?_
  refine WC.seq kr ?_
  refine WC.reg [0, 1, 2, 3, 4, 5, 6, 7] kr kr ?_
  refine WR.runk [0] [1, 2, 3, 4, 5, 6, 7] [1, 29] (L' := [(1, .int .i64 a1), (29, .slice A5_q20 o18.length c5_q20)]) (w' := w21) kr ?_
  refine WR.st (St.box hS kr (.cells #[.slice A5_q20 o18.length c5_q20] 31) (fun b23 => .slice (some ⟨b23, 0, none⟩) 1 1) (fun _ => by kernel_rfl) (fun b23 w24 hS => ?_))
  refine WR.runk [] [2, 3, 4, 5, 6, 7] [1, 30] (L' := [(1, .int .i64 a1), (30, .slice (some ⟨b23, 0, none⟩) 1 1)]) (w' := w24) kr ?_
  obtain ⟨r25, e26, H⟩ := bind_ex H
  refine WR.st (St.call kr (f := 18) (args := #[.slice (some ⟨b23, 0, none⟩) 1 1]) kr (image_Build.calls w24 (some ⟨b23, 0, none⟩) 1 ([o18] : List (List Int)) (Sat.ptsAt 0 (rd (hp w24) (.slice 5 (.int .u8))) 1 ([o18] : List (List Int)) hS rfl rfl (rdL.cons1 ⟨_, _, rfl, (rdS.r0up (Sat.rdAt 1 hS rfl))⟩ (rdL.nil _ _))) r25 e26) ?_)
  rintro _ w32 ⟨A34, c35, rfl, hS33⟩
  have hS : Sat w32 (rf w0) [osl 5 (r0 (.int .u8)) 1 A34 c35 r25.1, pts b23 (.cells #[.slice A5_q20 o18.length c5_q20] 31 (0, 0)), osl 5 (r0 (.int .u8)) 1 A5_q20 c5_q20 o18] := hS.ext hS33
  refine WR.runk [3, 4, 5, 6, 7] [] [1, 8] (L' := [(1, .int .i64 a1), (8, .slice A34 r25.1.length c35)]) (w' := w32) kr ?_
  refine WR.nil ?_
  refine At.go ?_
  refine WC.seq kr ?_
  refine WC.reg [0, 1, 2, 3, 4, 5, 6] kr kr ?_
  refine WR.runk [0] [1, 2, 3, 4, 5, 6] [1, 35] (L' := [(1, .int .i64 a1), (35, .slice A34 r25.1.length c35)]) (w' := w32) kr ?_
  obtain ⟨r36, e37, H⟩ := bind_ex H
  refine WR.st (St.call kr (f := 19) (args := #[.slice A34 r25.1.length c35]) kr (image_Open.calls w32 A34 c35 r25.1 (Sat.rdAt 0 hS rfl) r36 e37) ?_)
  rintro _ w43 ⟨pv45, rfl, hS44⟩
  have hS : Sat w43 (rf w0) [optP O80 pv45 r36.1, osl 5 (r0 (.int .u8)) 1 A34 c35 r25.1, pts b23 (.cells #[.slice A5_q20 o18.length c5_q20] 31 (0, 0)), osl 5 (r0 (.int .u8)) 1 A5_q20 c5_q20 o18] := hS.ext hS44
  refine WR.runk [2, 3, 4, 5, 6] [] [1, 10] (L' := [(1, .int .i64 a1), (10, pv45)]) (w' := w43) kr ?_
  refine WR.nil ?_
  refine At.go ?_
  refine WC.seq kr ?_
  refine WC.reg [0, 1, 2, 3, 4, 5, 6, 7] kr kr ?_
  refine WR.runk [0, 1] [2, 3, 4, 5, 6, 7] [40, 41] (L' := [(40, pv45), (41, .int .i64 a1)]) (w' := w43) kr ?_
  refine WR.st (St.call kr (f := 17) (args := #[pv45, .int .i64 a1]) kr (calls_of_WC (vs := [pv45, .int .i64 a1]) Try.func17 (c := C17) (n := 35) kr kr kr ?_) (fun _ _ h => h))
  refine WC.seq kr ?_
  refine WC.reg [0, 1] kr kr ?_
  refine WR.runk [0, 1] [] [0, 1] (L' := [(0, pv45), (1, .int .i64 a1)]) (w' := w43) kr ?_
  refine WR.nil ?_
  refine At.go ?_
  refine WC.seq kr ?_
  refine WC.block kr ?_
  refine WC.seq kr ?_
  refine WC.reg [0, 1, 2] kr kr ?_
  refine WR.runk [0] [1, 2] [0, 1, 8] (L' := [(0, pv45), (1, .int .i64 a1), (8, pv45)]) (w' := w43) kr ?_
  rcases hr47 : r36.1 with _ | y46
  ·rw [hr47] at H
   dsimp only at H
   have hv48 := optP.none hS hr47
   subst hv48
   have hS : Sat w43 (rf w0) [osl 5 (r0 (.int .u8)) 1 A34 c35 r25.1, pts b23 (.cells #[.slice A5_q20 o18.length c5_q20] 31 (0, 0)), osl 5 (r0 (.int .u8)) 1 A5_q20 c5_q20 o18] := hS.sel [1, 2, 3] kr
   refine WR.runk [1, 2] [] [0, 1, 7] (L' := [(0, .pointer none), (1, .int .i64 a1), (7, .bool true)]) (w' := w43) kr ?_
   refine WR.nil ?_
   refine At.go ?_
   refine WC.condT kr kr kr ?_
   refine WC.seq kr ?_
   refine WC.reg [0, 1] kr kr ?_
   refine WR.runk [0, 1] [] [4, 5] (L' := [(4, .pointer none), (5, .int .i64 1)]) (w' := w43) kr ?_
   refine WR.nil ?_
   refine At.go ?_
   refine WC.ret kr ?_
   refine At.blockRet ?_
   refine At.thenRet ?_
   refine At.bodyK [.pointer none, .int .i64 1] (.tuple #[.pointer none, .int .i64 1]) kr rfl ?_
   refine WR.runk [3, 4, 5, 6, 7] [] [12] (L' := [(12, .pointer none)]) (w' := w43) kr ?_
   refine WR.nil ?_
   refine At.go ?_
   refine WC.seq kr ?_
   refine WC.reg [0, 1] kr kr ?_
   refine WR.runk [0, 1] [] [4] (L' := [(4, .pointer none)]) (w' := w43) kr ?_
   refine WR.nil ?_
   refine At.go ?_
   refine WC.ret kr ?_
   obtain rfl := Option.some.inj H
   have hS := optP.nil (O := O66) hS
   have hS : Sat w43 (rf w0) [optP O66 (.pointer none) none] := hS.sel [0] kr
   exact At.body [.pointer none] kr ⟨_, rfl, _, rfl, hS⟩
  ·rw [hr47] at H
   dsimp only at H
   obtain ⟨b49, hv48, hN78⟩ := optP.some hS hr47
   subst hv48
   have hS : Sat w43 (rf w0) [O80 b49 y46, osl 5 (r0 (.int .u8)) 1 A34 c35 r25.1, pts b23 (.cells #[.slice A5_q20 o18.length c5_q20] 31 (0, 0)), osl 5 (r0 (.int .u8)) 1 A5_q20 c5_q20 o18] := hN78
   refine WR.runk [1, 2] [] [0, 1, 7] (L' := [(0, .pointer (some ⟨b49, 0, none⟩)), (1, .int .i64 a1), (7, .bool false)]) (w' := w43) kr ?_
   refine WR.nil ?_
   refine At.go ?_
   refine WC.condF kr kr kr ?_
   refine WC.seq kr ?_
   refine WC.reg [0, 1, 2, 3, 4, 5, 6] kr kr ?_
   refine WR.runk [0, 1, 2] [3, 4, 5, 6] [0, 1, 13] (L' := [(0, .pointer (some ⟨b49, 0, none⟩)), (1, .int .i64 a1), (13, .bool (decide (a1 < 1)))]) (w' := w43) kr ?_
   refine WR.split 13 (b := decide (a1 < 1)) kr (fun hb51 => ?_) (fun hb51 => ?_)
   ·replace H := ite_t H hb51
    refine WR.runk [3, 4, 5, 6] [] [0, 1, 10] (L' := [(0, .pointer (some ⟨b49, 0, none⟩)), (1, .int .i64 a1), (10, .bool true)]) (w' := w43) kr ?_
    refine WR.nil ?_
    refine At.go ?_
    refine WC.condT kr kr kr ?_
    refine WC.seq kr ?_
    refine WC.reg [0, 1] kr kr ?_
    refine WR.runk [0, 1] [] [4, 5] (L' := [(4, .pointer none), (5, .int .i64 2)]) (w' := w43) kr ?_
    refine WR.nil ?_
    refine At.go ?_
    refine WC.ret kr ?_
    refine At.blockRet ?_
    refine At.thenRet ?_
    refine At.bodyK [.pointer none, .int .i64 2] (.tuple #[.pointer none, .int .i64 2]) kr rfl ?_
    refine WR.runk [3, 4, 5, 6, 7] [] [12] (L' := [(12, .pointer none)]) (w' := w43) kr ?_
    refine WR.nil ?_
    refine At.go ?_
    refine WC.seq kr ?_
    refine WC.reg [0, 1] kr kr ?_
    refine WR.runk [0, 1] [] [4] (L' := [(4, .pointer none)]) (w' := w43) kr ?_
    refine WR.nil ?_
    refine At.go ?_
    refine WC.ret kr ?_
    obtain rfl := Option.some.inj H
    have hS := optP.nil (O := O66) hS
    have hS : Sat w43 (rf w0) [optP O66 (.pointer none) none] := hS.sel [0] kr
    exact At.body [.pointer none] kr ⟨_, rfl, _, rfl, hS⟩
   ·replace H := ite_f H hb51
    refine WR.runk [3, 4, 5, 6] [] [0, 1, 10] (L' := [(0, .pointer (some ⟨b49, 0, none⟩)), (1, .int .i64 a1), (10, .bool (decide (a1 > 4096)))]) (w' := w43) kr ?_
    refine WR.nil ?_
    refine At.go ?_
    refine WC.cond kr (decide (a1 > 4096)) kr kr (fun hb52 => ?_) (fun hb52 => ?_)
    ·replace H := ite_t H hb52
     refine WC.seq kr ?_
     refine WC.reg [0, 1] kr kr ?_
     refine WR.runk [0, 1] [] [4, 5] (L' := [(4, .pointer none), (5, .int .i64 2)]) (w' := w43) kr ?_
     refine WR.nil ?_
     refine At.go ?_
     refine WC.ret kr ?_
     refine At.blockRet ?_
     refine At.thenRet ?_
     refine At.bodyK [.pointer none, .int .i64 2] (.tuple #[.pointer none, .int .i64 2]) kr rfl ?_
     refine WR.runk [3, 4, 5, 6, 7] [] [12] (L' := [(12, .pointer none)]) (w' := w43) kr ?_
     refine WR.nil ?_
     refine At.go ?_
     refine WC.seq kr ?_
     refine WC.reg [0, 1] kr kr ?_
     refine WR.runk [0, 1] [] [4] (L' := [(4, .pointer none)]) (w' := w43) kr ?_
     refine WR.nil ?_
     refine At.go ?_
     refine WC.ret kr ?_
     obtain rfl := Option.some.inj H
     have hS := optP.nil (O := O66) hS
     have hS : Sat w43 (rf w0) [optP O66 (.pointer none) none] := hS.sel [0] kr
     exact At.body [.pointer none] kr ⟨_, rfl, _, rfl, hS⟩
    ·replace H := ite_f H hb52
     refine WC.skip kr ?_
     refine At.blockNormal ?_
     refine At.go ?_
     refine WC.seq kr ?_
     refine WC.reg [0, 1, 2, 3] kr kr ?_
     refine WR.runk [0, 1] [2, 3] [1, 18] (L' := [(1, .int .i64 a1), (18, .agg #[.pointer (some ⟨b49, 0, none⟩), .slice none 0 0, .int .i64 0, .int .i64 0, .int .i64 0])]) (w' := w43) kr ?_
     refine WR.st (St.box hS kr (.cells #[.pointer (some ⟨b49, 0, none⟩), .slice none 0 0, .int .i64 0, .int .i64 0, .int .i64 0] 66) (fun b53 => .pointer (some ⟨b53, 0, none⟩)) (fun _ => by kernel_rfl) (fun b53 w54 hS => ?_))
     refine WR.runk [3] [] [1, 6] (L' := [(1, .int .i64 a1), (6, .pointer (some ⟨b53, 0, none⟩))]) (w' := w54) kr ?_
     refine WR.nil ?_
     refine At.go ?_
     refine WC.seq kr ?_
     refine WC.seq kr ?_
     refine WC.reg [0, 1] kr kr ?_
     refine WR.runk [0, 1] [] [6, 20, 21] (L' := [(6, .pointer (some ⟨b53, 0, none⟩)), (20, .int .i64 a1), (21, .int .i64 0)]) (w' := w54) kr ?_
     refine WR.nil ?_
     refine At.go ?_
     refine WC.block kr ?_
     have hS : Sat w54 (rf w0) [O80 b49 y46, pts b53 (.cells #[.pointer (some ⟨b49, 0, none⟩), .slice none 0 0, .int .i64 0, .int .i64 0, .int .i64 0] 66 (0, 0)), osl 5 (r0 (.int .u8)) 1 A34 c35 r25.1, pts b23 (.cells #[.slice A5_q20 o18.length c5_q20] 31 (0, 0)), osl 5 (r0 (.int .u8)) 1 A5_q20 c5_q20 o18] := hS.sel [1, 0, 2, 3, 4] kr
     have hS : Sat w54 (rf w0) [optP O80 (.pointer (some ⟨b49, 0, none⟩)) (some y46), pts b53 (.cells #[.pointer (some ⟨b49, 0, none⟩), .slice none 0 0, .int .i64 0, .int .i64 0, .int .i64 0] 66 (0, 0)), osl 5 (r0 (.int .u8)) 1 A34 c35 r25.1, pts b23 (.cells #[.slice A5_q20 o18.length c5_q20] 31 (0, 0)), osl 5 (r0 (.int .u8)) 1 A5_q20 c5_q20 o18] := optP.mk hS
     have hS := hS.addNilR (α := (Int × (List Int) × Bool × Int)) 63 F63 4
     have hS : Sat w54 (rf w0) [pts b53 (.cells #[.pointer (some ⟨b49, 0, none⟩), .slice none 0 0, .int .i64 0, .int .i64 0, .int .i64 0] 66 (0, 0)), optP O80 (.pointer (some ⟨b49, 0, none⟩)) (some y46), orw 63 F63 4 none 0 ([] : List (Int × (List Int) × Bool × Int)), osl 5 (r0 (.int .u8)) 1 A34 c35 r25.1, pts b23 (.cells #[.slice A5_q20 o18.length c5_q20] 31 (0, 0)), osl 5 (r0 (.int .u8)) 1 A5_q20 c5_q20 o18] := hS.sel [2, 1, 0, 3, 4, 5] kr
     have hS : Sat w54 (rf w0) [O66 b53 ((some y46), ([] : List (Int × (List Int) × Bool × Int)), 0, 0, 0), osl 5 (r0 (.int .u8)) 1 A34 c35 r25.1, pts b23 (.cells #[.slice A5_q20 o18.length c5_q20] 31 (0, 0)), osl 5 (r0 (.int .u8)) 1 A5_q20 c5_q20 o18] := O66.close ((some y46), ([] : List (Int × (List Int) × Bool × Int)), 0, 0, 0) (.pointer (some ⟨b49, 0, none⟩)) none 0 hS
     have hS : Sat w54 (rf w0) [O66 b53 ((some y46), ([] : List (Int × (List Int) × Bool × Int)), 0, 0, 0), osl 5 (r0 (.int .u8)) 1 A34 c35 r25.1, pts b23 (.cells #[.slice A5_q20 o18.length c5_q20] 31 (0, 0)), osl 5 (r0 (.int .u8)) 1 A5_q20 c5_q20 o18] := hS.sel [0, 1, 2, 3] kr
     obtain ⟨o73, e74, H⟩ := bind_ex H
     refine WC.loop kr ?_
     refine WL.weaken [6, 20, 21] (L' := [(6, .pointer (some ⟨b53, 0, none⟩)), (20, .int .i64 a1), (21, .int .i64 0)]) kr ?_
     refine colophonlaw07_made.l2_ok w0 a1 o18 A5_q20 c5_q20 b23 r25 A34 c35 b53 o73 (fun w76 hS => ?_) FU 0 ((some y46), ([] : List (Int × (List Int) × Bool × Int)), 0, 0, 0) _ hS e74
     refine At.hit ?_
     refine At.go ?_
     refine WC.seq kr ?_
     refine WC.reg [0, 1, 2] kr kr ?_
     refine WR.runk [0, 1, 2] [] [4, 5] (L' := [(4, .pointer (some ⟨b53, 0, none⟩)), (5, .int .i64 0)]) (w' := w76) kr ?_
     refine WR.nil ?_
     refine At.go ?_
     refine WC.ret kr ?_
     refine At.bodyK [.pointer (some ⟨b53, 0, none⟩), .int .i64 0] (.tuple #[.pointer (some ⟨b53, 0, none⟩), .int .i64 0]) kr rfl ?_
     refine WR.runk [3, 4, 5, 6, 7] [] [12] (L' := [(12, .pointer (some ⟨b53, 0, none⟩))]) (w' := w76) kr ?_
     refine WR.nil ?_
     refine At.go ?_
     refine WC.seq kr ?_
     refine WC.reg [0, 1] kr kr ?_
     refine WR.runk [0, 1] [] [4] (L' := [(4, .pointer (some ⟨b53, 0, none⟩))]) (w' := w76) kr ?_
     refine WR.nil ?_
     refine At.go ?_
     refine WC.ret kr ?_
     obtain rfl := Option.some.inj H
     have hS : Sat w76 (rf w0) [optP O66 (.pointer (some ⟨b53, 0, none⟩)) (some o73), osl 5 (r0 (.int .u8)) 1 A34 c35 r25.1, pts b23 (.cells #[.slice A5_q20 o18.length c5_q20] 31 (0, 0)), osl 5 (r0 (.int .u8)) 1 A5_q20 c5_q20 o18] := optP.mk hS
     have hS : Sat w76 (rf w0) [optP O66 (.pointer (some ⟨b53, 0, none⟩)) (some o73)] := hS.sel [0] kr
     exact At.body [.pointer (some ⟨b53, 0, none⟩)] kr ⟨_, rfl, _, rfl, hS⟩
/-! ### 20 (*colophon/cache.Cache).at -/
def cache_Cache_at.l1 (a1 : Int) (y6 : (Option ((List (List Int)) × (List Int) × (List Int))) × (List (Int × (List Int) × Bool × Int)) × Int × Int × Int) : Nat → Int → Option (Sum Int Unit)
  | 0, _ => none
  | k + 1, x8_l1 => (if decide (x8_l1 < (y6.2.1.length : Int)) then ((at? y6.2.1 x8_l1).bind fun v18 => (if (v18.1 == a1) then some (.inl x8_l1) else cache_Cache_at.l1 a1 y6 k (wi (x8_l1 + 1)))) else some (.inr ()))
def cache_Cache_at.f (p0 : Option ((Option ((List (List Int)) × (List Int) × (List Int))) × (List (Int × (List Int) × Bool × Int)) × Int × Int × Int)) (a1 : Int) : Option Int := (p0.bind fun y6 => ((cache_Cache_at.l1 a1 y6 FU 0).bind fun o27 => (match o27 with | .inl o29 => some o29 | .inr o33 => some (-1))))
def cache_Cache_at.post (w : World) (r : Int) (v : Value) (w' : World) : Prop := v = (.int .i64 r : Value) ∧ Sat w' (rf w) []
theorem cache_Cache_at.l1_ok {Q} (w0 : World) (a1 : Int) (b1 : Nat) (y6 : (Option ((List (List Int)) × (List Int) × (List Int))) × (List (Int × (List Int) × Bool × Int)) × Int × Int × Int) (A14 : Option Addr) (c15 : Nat) (R16 : rdS (rd (hp w0) (.pair (.int .i64) (.pair (.slice 5 (.int .u8)) (.pair .bool (.int .i64))))) 4 (hp w0) A14 c15 y6.2.1) (out : Sum Int Unit) (hn0 : ∀ (o0 : Int) (w : World), out = (.inl o0) → Sat w (rf w0) [pts b1 (.cells #[.int .i64 a1] 3 (0, 0))] → At Q .ret 19 [(4, .int .i64 o0)] w) (hn1 : ∀ (o1 : Unit) (w : World), out = (.inr o1) → Sat w (rf w0) [pts b1 (.cells #[.int .i64 a1] 3 (0, 0))] → At Q (.exit 0) 19 [] w) :
    ∀ (k : Nat) (x8_l1 : Int) (w : World), Sat w (rf w0) [pts b1 (.cells #[.int .i64 a1] 3 (0, 0))] → cache_Cache_at.l1 a1 y6 k x8_l1 = some out → WL Try.prog (cbody (cbody (cr (cl (cr C33))))) Q 19 [(0, .slice A14 y6.2.1.length c15), (1, .func (.func 34) #[] #[.pointer (some ⟨b1, 0, none⟩)]), (7, .int .i64 (y6.2.1.length : Int)), (8, .int .i64 x8_l1)] w := by
  intro k
  induction k with
  | zero => intro x8_l1 w hS H; exact absurd (show none = some out from H) (by simp)
  | succ k ih =>
    intro x8_l1 w hS H
    unfold cache_Cache_at.l1 at H
    refine WL.round ?_
    refine WC.seq kr ?_
    refine WC.reg [0] kr kr ?_
    refine WR.runk [0] [] [0, 1, 7, 8, 9] (L' := [(0, .slice A14 y6.2.1.length c15), (1, .func (.func 34) #[] #[.pointer (some ⟨b1, 0, none⟩)]), (7, .int .i64 (y6.2.1.length : Int)), (8, .int .i64 x8_l1), (9, .bool (decide (x8_l1 < (y6.2.1.length : Int))))]) (w' := w) kr ?_
    refine WR.nil ?_
    refine At.go ?_
    refine WC.seq kr ?_
    refine WC.cond kr (decide (x8_l1 < (y6.2.1.length : Int))) kr kr (fun hb17 => ?_) (fun hb17 => ?_)
    ·replace H := ite_t H hb17
     refine WC.skip kr ?_
     refine At.go ?_
     refine WC.seq kr ?_
     refine WC.block kr ?_
     refine WC.seq kr ?_
     refine WC.reg [0, 1] kr kr ?_
     refine WR.runk [0, 1] [] [0, 1, 5, 7, 8] (L' := [(0, .slice A14 y6.2.1.length c15), (1, .func (.func 34) #[] #[.pointer (some ⟨b1, 0, none⟩)]), (5, .int .i64 x8_l1), (7, .int .i64 (y6.2.1.length : Int)), (8, .int .i64 x8_l1)]) (w' := w) kr ?_
     refine WR.nil ?_
     refine At.go ?_
     refine WC.seq kr ?_
     refine WC.reg [0, 1, 2, 3, 4, 5] kr kr ?_
     refine WR.runk [0, 1, 2] [3, 4, 5] [0, 1, 5, 7, 8, 11, 12, 13] (L' := [(0, .slice A14 y6.2.1.length c15), (1, .func (.func 34) #[] #[.pointer (some ⟨b1, 0, none⟩)]), (5, .int .i64 x8_l1), (7, .int .i64 (y6.2.1.length : Int)), (8, .int .i64 x8_l1), (11, .func (.func 34) #[] #[.pointer (some ⟨b1, 0, none⟩)]), (12, .slice A14 y6.2.1.length c15), (13, .int .i64 x8_l1)]) (w' := w) kr ?_
     obtain ⟨v18, e19, H⟩ := bind_ex H
     refine WR.st (St.ofP (PSt.idx (k := .i64) (.tmp 12) (.tmp 13) kr kr E64 kr kr (rdS.up R16 hS.sub0) e19 ?_))
     refine WR.runk [] [4, 5] [0, 1, 5, 7, 8, 11, 14] (L' := [(0, .slice A14 y6.2.1.length c15), (1, .func (.func 34) #[] #[.pointer (some ⟨b1, 0, none⟩)]), (5, .int .i64 x8_l1), (7, .int .i64 (y6.2.1.length : Int)), (8, .int .i64 x8_l1), (11, .func (.func 34) #[] #[.pointer (some ⟨b1, 0, none⟩)]), (14, .pointer (some (adr A14 x8_l1.toNat 4)))]) (w' := w) kr ?_
     refine WR.st (St.ofR (RSt.loadAggR (t := 63) (κ := (.pair (.int .i64) (.pair (.slice 5 (.int .u8)) (.pair .bool (.int .i64))))) (.tmp 14) kr kr kr kr kr R16 e19 hS.sub0 (fun cv hcv => ?_)))
     obtain ⟨A20, c21, rfl, R22⟩ := F63.un hcv
     replace R22 : rdS (r0 (.int .u8)) 1 (hp w0) A20 c21 v18.2.1 := R22
     clear hcv
     refine WR.runk [] [5] [0, 1, 5, 7, 8, 11, 15] (L' := [(0, .slice A14 y6.2.1.length c15), (1, .func (.func 34) #[] #[.pointer (some ⟨b1, 0, none⟩)]), (5, .int .i64 x8_l1), (7, .int .i64 (y6.2.1.length : Int)), (8, .int .i64 x8_l1), (11, .func (.func 34) #[] #[.pointer (some ⟨b1, 0, none⟩)]), (15, .agg #[.int .i64 v18.1, .slice A20 v18.2.1.length c21, .bool v18.2.2.1, .int .i64 v18.2.2.2])]) (w' := w) kr ?_
     refine WR.st (St.call kr (f := 34) (args := #[.agg #[.int .i64 v18.1, .slice A20 v18.2.1.length c21, .bool v18.2.2.1, .int .i64 v18.2.2.2], .pointer (some ⟨b1, 0, none⟩)]) kr (calls_of_WC (vs := [.agg #[.int .i64 v18.1, .slice A20 v18.2.1.length c21, .bool v18.2.2.1, .int .i64 v18.2.2.2], .pointer (some ⟨b1, 0, none⟩)]) Try.func34 (c := C34) (n := 8) kr kr kr ?_) (fun _ _ h => h))
     refine WC.seq kr ?_
     refine WC.reg [0, 1] kr kr ?_
     refine WR.runk [] [0, 1] [0, 1] (L' := [(0, .agg #[.int .i64 v18.1, .slice A20 v18.2.1.length c21, .bool v18.2.2.1, .int .i64 v18.2.2.2]), (1, .pointer (some ⟨b1, 0, none⟩))]) (w' := w) kr ?_
     refine WR.st (St.box hS kr (.cells #[.int .i64 v18.1, .slice A20 v18.2.1.length c21, .bool v18.2.2.1, .int .i64 v18.2.2.2] 63) (fun b23 => .pointer (some ⟨b23, 0, none⟩)) (fun _ => by kernel_rfl) (fun b23 w24 hS => ?_))
     refine WR.runk [1] [] [1, 2] (L' := [(1, .pointer (some ⟨b1, 0, none⟩)), (2, .pointer (some ⟨b23, 0, none⟩))]) (w' := w24) kr ?_
     refine WR.nil ?_
     refine At.go ?_
     refine WC.seq kr ?_
     refine WC.reg [0, 1, 2, 3, 4] kr kr ?_
     refine WR.runk [0] [1, 2, 3, 4] [1, 4] (L' := [(1, .pointer (some ⟨b1, 0, none⟩)), (4, .pointer (some ⟨b23, 0, none⟩))]) (w' := w24) kr ?_
     refine WR.st (St.ofR (RSt.loadObj (t := 3) (k := 0) (v := .int .i64 v18.1) (.tmp 4) kr kr kr 0 hS rfl kr rfl ?_))
     refine WR.runk [] [2, 3, 4] [1, 5] (L' := [(1, .pointer (some ⟨b1, 0, none⟩)), (5, .int .i64 v18.1)]) (w' := w24) kr ?_
     refine WR.st (St.ofR (RSt.loadObj (t := 3) (k := 0) (v := .int .i64 a1) (.tmp 1) kr kr kr 1 hS rfl kr rfl ?_))
     refine WR.runk [3, 4] [] [3] (L' := [(3, .bool (v18.1 == a1))]) (w' := w24) kr ?_
     refine WR.nil ?_
     refine At.go ?_
     refine WC.ret kr ?_
     refine At.bodyK [.bool (v18.1 == a1)] (.bool (v18.1 == a1)) kr rfl ?_
     refine WR.runk [] [] [0, 1, 5, 7, 8, 16] (L' := [(0, .slice A14 y6.2.1.length c15), (1, .func (.func 34) #[] #[.pointer (some ⟨b1, 0, none⟩)]), (5, .int .i64 x8_l1), (7, .int .i64 (y6.2.1.length : Int)), (8, .int .i64 x8_l1), (16, .bool (v18.1 == a1))]) (w' := w24) kr ?_
     refine WR.nil ?_
     refine At.go ?_
     refine WC.cond kr (v18.1 == a1) kr kr (fun hb26 => ?_) (fun hb26 => ?_)
     ·replace H := ite_t H hb26
      refine WC.seq kr ?_
      refine WC.reg [0, 1] kr kr ?_
      refine WR.runk [0, 1] [] [4] (L' := [(4, .int .i64 x8_l1)]) (w' := w24) kr ?_
      refine WR.nil ?_
      refine At.go ?_
      refine WC.ret kr ?_
      refine At.blockRet ?_
      refine At.thenRet ?_
      refine At.thenRet ?_
      obtain rfl := Option.some.inj H
      have hS : Sat w24 (rf w0) [pts b1 (.cells #[.int .i64 a1] 3 (0, 0))] := hS.sel [1] kr
      refine At.weaken [4] (L' := [(4, .int .i64 x8_l1)]) kr ?_
      exact hn0 x8_l1 _ rfl hS
     ·replace H := ite_f H hb26
      refine WC.skip kr ?_
      refine At.blockNormal ?_
      refine At.go ?_
      refine WC.reg [0, 1] kr kr ?_
      refine WR.runk [0, 1] [] [0, 1, 7, 8] (L' := [(0, .slice A14 y6.2.1.length c15), (1, .func (.func 34) #[] #[.pointer (some ⟨b1, 0, none⟩)]), (7, .int .i64 (y6.2.1.length : Int)), (8, .int .i64 (wi (x8_l1 + 1)))]) (w' := w24) kr ?_
      refine WR.nil ?_
      have hS : Sat w24 (rf w0) [pts b1 (.cells #[.int .i64 a1] 3 (0, 0))] := hS.sel [1] kr
      refine At.again ?_
      refine WL.weaken [0, 1, 7, 8] (L' := [(0, .slice A14 y6.2.1.length c15), (1, .func (.func 34) #[] #[.pointer (some ⟨b1, 0, none⟩)]), (7, .int .i64 (y6.2.1.length : Int)), (8, .int .i64 (wi (x8_l1 + 1)))]) kr ?_
      exact ih (wi (x8_l1 + 1)) _ hS H
    ·replace H := ite_f H hb17
     refine WC.exit kr ?_
     refine At.thenExit ?_
     refine At.thenExit ?_
     obtain rfl := Option.some.inj H
     have hS : Sat w (rf w0) [pts b1 (.cells #[.int .i64 a1] 3 (0, 0))] := hS.sel [0] kr
     refine At.weaken [] (L' := []) kr ?_
     exact hn1 () _ rfl hS
theorem cache_Cache_at.calls (w0 : World) (v0 : Value) (p0 : Option ((Option ((List (List Int)) × (List Int) × (List Int))) × (List (Int × (List Int) × Bool × Int)) × Int × Int × Int)) (R0 : rd (hp w0) (.ptr 66 (.pair (.ptr 80 (.pair (.slice 31 (.slice 5 (.int .u8))) (.pair (.slice 3 (.int .i64)) (.slice 3 (.int .i64))))) (.pair (.slice 63 (.pair (.int .i64) (.pair (.slice 5 (.int .u8)) (.pair .bool (.int .i64))))) (.pair (.int .i64) (.pair (.int .i64) (.int .i64)))))) [v0] p0) (a1 : Int) (r : Int) (H : cache_Cache_at.f p0 a1 = some r) :
    Calls Try.prog 20 #[v0, .int .i64 a1] w0 (fun e w' => ∃ v, e = .returned v ∧ cache_Cache_at.post w0 r v w') := by
  have hS : Sat w0 (rf w0) [] := Sat.start w0
  unfold cache_Cache_at.f at H
  refine calls_of_WC (vs := [v0, .int .i64 a1]) Try.func20 (c := C20) (n := 11) kr kr kr ?_
  refine WC.seq kr ?_
  refine WC.reg [0, 1] kr kr ?_
  refine WR.runk [] [0, 1] [0, 1] (L' := [(0, v0), (1, .int .i64 a1)]) (w' := w0) kr ?_
  refine WR.st (St.box hS kr (.cells #[.int .i64 a1] 3) (fun b1 => .pointer (some ⟨b1, 0, none⟩)) (fun _ => by kernel_rfl) (fun b1 w2 hS => ?_))
  refine WR.runk [1] [] [0, 3] (L' := [(0, v0), (3, .pointer (some ⟨b1, 0, none⟩))]) (w' := w2) kr ?_
  refine WR.nil ?_
  refine At.go ?_
  refine WC.seq kr ?_
  refine WC.reg [0, 1, 2, 3, 4, 5, 6] kr kr ?_
  refine WR.runk [0] [1, 2, 3, 4, 5, 6] [3, 5] (L' := [(3, .pointer (some ⟨b1, 0, none⟩)), (5, v0)]) (w' := w2) kr ?_
  obtain ⟨y6, hr4, H⟩ := bind_ex H
  obtain ⟨b7, fr8, u12, A14, c15, hv9, hb10, R13, R16⟩ := P66.open R0 hr4
  have R11 := R0
  rw [hv9, hr4] at R11
  try subst hv9
  replace R13 : rd (hp w0) (.ptr 80 (.pair (.slice 31 (.slice 5 (.int .u8))) (.pair (.slice 3 (.int .i64)) (.slice 3 (.int .i64))))) [u12] y6.1 := R13
  replace R16 : rdS (rd (hp w0) (.pair (.int .i64) (.pair (.slice 5 (.int .u8)) (.pair .bool (.int .i64))))) 4 (hp w0) A14 c15 y6.2.1 := R16
  refine WR.runk [1, 2] [3, 4, 5, 6] [3, 7] (L' := [(3, .pointer (some ⟨b1, 0, none⟩)), (7, .pointer (some ⟨b7, 1, none⟩))]) (w' := w2) kr ?_
  refine WR.st (St.ofR (RSt.loadRo (t := 64) (k := 1) (v := .slice A14 y6.2.1.length c15) (.tmp 7) kr kr kr hS.sub0 hb10 kr rfl ?_))
  refine WR.runk [4] [5, 6] [8, 9] (L' := [(8, .slice A14 y6.2.1.length c15), (9, .func (.func 34) #[] #[.pointer (some ⟨b1, 0, none⟩)])]) (w' := w2) kr ?_
  refine WR.st (St.call kr (f := 33) (args := #[.slice A14 y6.2.1.length c15, .func (.func 34) #[] #[.pointer (some ⟨b1, 0, none⟩)]]) kr (calls_of_WC (vs := [.slice A14 y6.2.1.length c15, .func (.func 34) #[] #[.pointer (some ⟨b1, 0, none⟩)]]) Try.func33 (c := C33) (n := 19) kr kr kr ?_) (fun _ _ h => h))
  refine WC.seq kr ?_
  refine WC.reg [0] kr kr ?_
  refine WR.runk [0] [] [0, 1] (L' := [(0, .slice A14 y6.2.1.length c15), (1, .func (.func 34) #[] #[.pointer (some ⟨b1, 0, none⟩)])]) (w' := w2) kr ?_
  refine WR.nil ?_
  refine At.go ?_
  refine WC.seq kr ?_
  refine WC.seq kr ?_
  refine WC.reg [0, 1, 2] kr kr ?_
  refine WR.runk [0, 1, 2] [] [0, 1, 7, 8] (L' := [(0, .slice A14 y6.2.1.length c15), (1, .func (.func 34) #[] #[.pointer (some ⟨b1, 0, none⟩)]), (7, .int .i64 (y6.2.1.length : Int)), (8, .int .i64 0)]) (w' := w2) kr ?_
  refine WR.nil ?_
  refine At.go ?_
  refine WC.block kr ?_
  have hS : Sat w2 (rf w0) [pts b1 (.cells #[.int .i64 a1] 3 (0, 0))] := hS.sel [0] kr
  obtain ⟨o27, e28, H⟩ := bind_ex H
  refine WC.loop kr ?_
  refine WL.weaken [0, 1, 7, 8] (L' := [(0, .slice A14 y6.2.1.length c15), (1, .func (.func 34) #[] #[.pointer (some ⟨b1, 0, none⟩)]), (7, .int .i64 (y6.2.1.length : Int)), (8, .int .i64 0)]) kr ?_
  refine cache_Cache_at.l1_ok w0 a1 b1 y6 A14 c15 R16 o27 (fun o29 w31 ho32 hS => ?_) (fun o33 w35 ho36 hS => ?_) FU 0 _ hS e28
  ·subst ho32
   dsimp only at H
   refine At.blockRet ?_
   refine At.thenRet ?_
   refine At.bodyK [.int .i64 o29] (.int .i64 o29) kr rfl ?_
   refine WR.runk [6] [] [4] (L' := [(4, .int .i64 o29)]) (w' := w31) kr ?_
   refine WR.nil ?_
   refine At.go ?_
   refine WC.ret kr ?_
   obtain rfl := Option.some.inj H
   have hS : Sat w31 (rf w0) [] := hS.sel [] kr
   exact At.body [.int .i64 o29] kr ⟨_, rfl, rfl, hS⟩
  ·subst ho36
   dsimp only at H
   refine At.hit ?_
   refine At.go ?_
   refine WC.seq kr ?_
   refine WC.reg [0] kr kr ?_
   refine WR.runk [0] [] [4] (L' := [(4, .int .i64 (-1))]) (w' := w35) kr ?_
   refine WR.nil ?_
   refine At.go ?_
   refine WC.ret kr ?_
   refine At.bodyK [.int .i64 (-1)] (.int .i64 (-1)) kr rfl ?_
   refine WR.runk [6] [] [4] (L' := [(4, .int .i64 (-1))]) (w' := w35) kr ?_
   refine WR.nil ?_
   refine At.go ?_
   refine WC.ret kr ?_
   obtain rfl := Option.some.inj H
   have hS : Sat w35 (rf w0) [] := hS.sel [] kr
   exact At.body [.int .i64 (-1)] kr ⟨_, rfl, rfl, hS⟩
/-! ### 22 (*colophon/image.Image).Page -/
def image_Image_Page.f (p0 : Option ((List (List Int)) × (List Int) × (List Int))) (a1 : Int) : Option ((List Int) × Int) := (match p0 with | none => some (([] : List Int), 1) | some y3 => (if decide (a1 < 0) then some (([] : List Int), 222) else (if decide (a1 ≥ (y3.1.length : Int)) then some (([] : List Int), 222) else ((at? y3.1 a1).bind fun v20 => ((slices_Clone.f v20).bind fun r25 => some (r25, 0))))))
def image_Image_Page.post (w : World) (r : (List Int) × Int) (v : Value) (w' : World) : Prop := ∃ (A0' : Option Addr) (c0' : Nat), v = .tuple #[.slice A0' r.1.length c0', .int .i64 r.2] ∧ Sat w' (rf w) [osl 5 (r0 (.int .u8)) 1 A0' c0' r.1]
theorem image_Image_Page.calls (w0 : World) (v0 : Value) (p0 : Option ((List (List Int)) × (List Int) × (List Int))) (R0 : rd (hp w0) (.ptr 80 (.pair (.slice 31 (.slice 5 (.int .u8))) (.pair (.slice 3 (.int .i64)) (.slice 3 (.int .i64))))) [v0] p0) (a1 : Int) (r : (List Int) × Int) (H : image_Image_Page.f p0 a1 = some r) :
    Calls Try.prog 22 #[v0, .int .i64 a1] w0 (fun e w' => ∃ v, e = .returned v ∧ image_Image_Page.post w0 r v w') := by
  have hS : Sat w0 (rf w0) [] := Sat.start w0
  unfold image_Image_Page.f at H
  refine calls_of_WC (vs := [v0, .int .i64 a1]) Try.func22 (c := C22) (n := 29) kr kr kr ?_
  refine WC.seq kr ?_
  refine WC.reg [0, 1] kr kr ?_
  refine WR.runk [0, 1] [] [0, 1] (L' := [(0, v0), (1, .int .i64 a1)]) (w' := w0) kr ?_
  refine WR.nil ?_
  refine At.go ?_
  refine WC.seq kr ?_
  refine WC.block kr ?_
  refine WC.seq kr ?_
  refine WC.reg [0, 1, 2] kr kr ?_
  refine WR.runk [0] [1, 2] [0, 1, 7] (L' := [(0, v0), (1, .int .i64 a1), (7, v0)]) (w' := w0) kr ?_
  rcases opt_cases p0 with hr1 | ⟨y3, hr1⟩
  ·rw [hr1] at H
   dsimp only at H
   have hx2 := rd_ptr_none R0 hr1
   try subst hx2
   refine WR.runk [1, 2] [] [0, 1, 6] (L' := [(0, .pointer none), (1, .int .i64 a1), (6, .bool true)]) (w' := w0) kr ?_
   refine WR.nil ?_
   refine At.go ?_
   refine WC.condT kr kr kr ?_
   refine WC.seq kr ?_
   refine WC.reg [0, 1] kr kr ?_
   refine WR.runk [0, 1] [] [4, 5] (L' := [(4, .slice none 0 0), (5, .int .i64 1)]) (w' := w0) kr ?_
   refine WR.nil ?_
   refine At.go ?_
   refine WC.ret kr ?_
   refine At.blockRet ?_
   refine At.thenRet ?_
   obtain rfl := Option.some.inj H
   have hS := hS.addNil (α := Int) 5 (r0 (.int .u8)) 1
   have hS : Sat w0 (rf w0) [osl 5 (r0 (.int .u8)) 1 none 0 ([] : List Int)] := hS.sel [0] kr
   exact At.body [.slice none 0 0, .int .i64 1] kr ⟨_, rfl, _, _, rfl, hS⟩
  ·rw [hr1] at H
   dsimp only at H
   obtain ⟨b4, fr5, A9, c10, A12, c13, A15, c16, hv6, hb7, R11, R14, R17⟩ := P80.open R0 hr1
   have R8 := R0
   rw [hv6, hr1] at R8
   try subst hv6
   replace R11 : rdS (rd (hp w0) (.slice 5 (.int .u8))) 1 (hp w0) A9 c10 y3.1 := R11
   replace R14 : rdS (r0 (.int .i64)) 1 (hp w0) A12 c13 y3.2.1 := R14
   replace R17 : rdS (r0 (.int .i64)) 1 (hp w0) A15 c16 y3.2.2 := R17
   refine WR.runk [1, 2] [] [0, 1, 6] (L' := [(0, .pointer (some ⟨b4, 0, none⟩)), (1, .int .i64 a1), (6, .bool false)]) (w' := w0) kr ?_
   refine WR.nil ?_
   refine At.go ?_
   refine WC.condF kr kr kr ?_
   refine WC.seq kr ?_
   refine WC.reg [0, 1, 2, 3, 4, 5, 6, 7, 8, 9, 10, 11] kr kr ?_
   refine WR.runk [0, 1, 2] [3, 4, 5, 6, 7, 8, 9, 10, 11] [0, 1, 12] (L' := [(0, .pointer (some ⟨b4, 0, none⟩)), (1, .int .i64 a1), (12, .bool (decide (a1 < 0)))]) (w' := w0) kr ?_
   refine WR.split 12 (b := decide (a1 < 0)) kr (fun hb18 => ?_) (fun hb18 => ?_)
   ·replace H := ite_t H hb18
    refine WR.runk [3, 4, 5, 6, 7, 8, 9, 10, 11] [] [0, 1, 9] (L' := [(0, .pointer (some ⟨b4, 0, none⟩)), (1, .int .i64 a1), (9, .bool true)]) (w' := w0) kr ?_
    refine WR.nil ?_
    refine At.go ?_
    refine WC.condT kr kr kr ?_
    refine WC.seq kr ?_
    refine WC.reg [0, 1] kr kr ?_
    refine WR.runk [0, 1] [] [4, 5] (L' := [(4, .slice none 0 0), (5, .int .i64 222)]) (w' := w0) kr ?_
    refine WR.nil ?_
    refine At.go ?_
    refine WC.ret kr ?_
    refine At.blockRet ?_
    refine At.thenRet ?_
    obtain rfl := Option.some.inj H
    have hS := hS.addNil (α := Int) 5 (r0 (.int .u8)) 1
    have hS : Sat w0 (rf w0) [osl 5 (r0 (.int .u8)) 1 none 0 ([] : List Int)] := hS.sel [0] kr
    exact At.body [.slice none 0 0, .int .i64 222] kr ⟨_, rfl, _, _, rfl, hS⟩
   ·replace H := ite_f H hb18
    refine WR.runk [3, 4, 5, 6] [7, 8, 9, 10, 11] [0, 1, 12, 13, 16] (L' := [(0, .pointer (some ⟨b4, 0, none⟩)), (1, .int .i64 a1), (12, .bool false), (13, .int .i64 a1), (16, .pointer (some ⟨b4, 0, none⟩))]) (w' := w0) kr ?_
    refine WR.st (St.ofR (RSt.loadRo (t := 71) (k := 0) (v := .slice A9 y3.1.length c10) (.tmp 16) kr kr kr hS.sub0 hb7 kr rfl ?_))
    refine WR.runk [8, 9, 10, 11] [] [0, 1, 9] (L' := [(0, .pointer (some ⟨b4, 0, none⟩)), (1, .int .i64 a1), (9, .bool (decide (a1 ≥ (y3.1.length : Int))))]) (w' := w0) kr ?_
    refine WR.nil ?_
    refine At.go ?_
    refine WC.cond kr (decide (a1 ≥ (y3.1.length : Int))) kr kr (fun hb19 => ?_) (fun hb19 => ?_)
    ·replace H := ite_t H hb19
     refine WC.seq kr ?_
     refine WC.reg [0, 1] kr kr ?_
     refine WR.runk [0, 1] [] [4, 5] (L' := [(4, .slice none 0 0), (5, .int .i64 222)]) (w' := w0) kr ?_
     refine WR.nil ?_
     refine At.go ?_
     refine WC.ret kr ?_
     refine At.blockRet ?_
     refine At.thenRet ?_
     obtain rfl := Option.some.inj H
     have hS := hS.addNil (α := Int) 5 (r0 (.int .u8)) 1
     have hS : Sat w0 (rf w0) [osl 5 (r0 (.int .u8)) 1 none 0 ([] : List Int)] := hS.sel [0] kr
     exact At.body [.slice none 0 0, .int .i64 222] kr ⟨_, rfl, _, _, rfl, hS⟩
    ·replace H := ite_f H hb19
     refine WC.skip kr ?_
     refine At.blockNormal ?_
     refine At.go ?_
     refine WC.seq kr ?_
     refine WC.reg [0, 1, 2, 3, 4, 5, 6, 7, 8, 9] kr kr ?_
     refine WR.runk [0, 1, 2] [3, 4, 5, 6, 7, 8, 9] [1, 23] (L' := [(1, .int .i64 a1), (23, .pointer (some ⟨b4, 0, none⟩))]) (w' := w0) kr ?_
     refine WR.st (St.ofR (RSt.loadRo (t := 71) (k := 0) (v := .slice A9 y3.1.length c10) (.tmp 23) kr kr kr hS.sub0 hb7 kr rfl ?_))
     refine WR.runk [4] [5, 6, 7, 8, 9] [24, 25] (L' := [(24, .slice A9 y3.1.length c10), (25, .int .i64 a1)]) (w' := w0) kr ?_
     obtain ⟨v20, e21, H⟩ := bind_ex H
     refine WR.st (St.ofP (PSt.idx (k := .i64) (.tmp 24) (.tmp 25) kr kr E71 kr kr (rdS.up R11 hS.sub0) e21 ?_))
     refine WR.runk [] [6, 7, 8, 9] [26] (L' := [(26, .pointer (some (adr A9 a1.toNat 1)))]) (w' := w0) kr ?_
     refine WR.st (St.ofR (RSt.loadSl (t := 31) (.tmp 26) kr kr kr kr R11 e21 hS.sub0 (fun A22 c23 R24 => ?_)))
     replace R24 : rdS (r0 (.int .u8)) 1 (hp w0) A22 c23 v20 := R24
     refine WR.runk [] [7, 8, 9] [27] (L' := [(27, .slice A22 v20.length c23)]) (w' := w0) kr ?_
     obtain ⟨r25, e26, H⟩ := bind_ex H
     refine WR.st (St.call kr (f := 21) (args := #[.slice A22 v20.length c23]) kr (slices_Clone.calls w0 A22 c23 v20 (rdS.up R24 hS.sub0) r25 e26) ?_)
     rintro _ w32 ⟨A34, c35, rfl, hS33⟩
     have hS : Sat w32 (rf w0) [osl 5 (r0 (.int .u8)) 1 A34 c35 r25] := hS.ext hS33
     refine WR.runk [8, 9] [] [4, 5] (L' := [(4, .slice A34 r25.length c35), (5, .int .i64 0)]) (w' := w32) kr ?_
     refine WR.nil ?_
     refine At.go ?_
     refine WC.ret kr ?_
     obtain rfl := Option.some.inj H
     have hS : Sat w32 (rf w0) [osl 5 (r0 (.int .u8)) 1 A34 c35 r25] := hS.sel [0] kr
     exact At.body [.slice A34 r25.length c35, .int .i64 0] kr ⟨_, rfl, _, _, rfl, hS⟩
/-! ### 23 (*colophon/cache.Cache).free -/
def cache_Cache_free.l1 (p0 : (Option ((List (List Int)) × (List Int) × (List Int))) × (List (Int × (List Int) × Bool × Int)) × Int × Int × Int) : Nat → Int → Option (Sum Int Unit)
  | 0, _ => none
  | k + 1, x8_l1 => (if decide (x8_l1 < (p0.2.1.length : Int)) then ((at? p0.2.1 x8_l1).bind fun v18 => (if (v18.2.2.2 == 0) then some (.inl x8_l1) else cache_Cache_free.l1 p0 k (wi (x8_l1 + 1)))) else some (.inr ()))
def cache_Cache_free.l2 : Nat → ((Option ((List (List Int)) × (List Int) × (List Int))) × (List (Int × (List Int) × Bool × Int)) × Int × Int × Int) → Option (Int × ((Option ((List (List Int)) × (List Int) × (List Int))) × (List (Int × (List Int) × Bool × Int)) × Int × Int × Int))
  | 0, _ => none
  | k + 1, q0_l2 => ((at? q0_l2.2.1 q0_l2.2.2.1).bind fun v40 => ((chk? (decide ((q0_l2.2.1.length : Int) ≠ 0))).bind fun _ => (if decide (v40.2.2.2 > 0) then cache_Cache_free.l2 k (q0_l2.1, q0_l2.2.1, Int.tmod (wi (q0_l2.2.2.1 + 1)) (q0_l2.2.1.length : Int), q0_l2.2.2.2.1, q0_l2.2.2.2.2) else (if v40.2.2.1 then cache_Cache_free.l2 k (q0_l2.1, (List.set q0_l2.2.1 (q0_l2.2.2.1).toNat (v40.1, v40.2.1, false, v40.2.2.2)), Int.tmod (wi (q0_l2.2.2.1 + 1)) (q0_l2.2.1.length : Int), q0_l2.2.2.2.1, q0_l2.2.2.2.2) else some (q0_l2.2.2.1, (q0_l2.1, q0_l2.2.1, Int.tmod (wi (q0_l2.2.2.1 + 1)) (q0_l2.2.1.length : Int), q0_l2.2.2.2.1, q0_l2.2.2.2.2))))))
def cache_Cache_free.l3 : Nat → ((Option ((List (List Int)) × (List Int) × (List Int))) × (List (Int × (List Int) × Bool × Int)) × Int × Int × Int) → Option (Int × ((Option ((List (List Int)) × (List Int) × (List Int))) × (List (Int × (List Int) × Bool × Int)) × Int × Int × Int))
  | 0, _ => none
  | k + 1, q0_l3 => ((at? q0_l3.2.1 q0_l3.2.2.1).bind fun v67 => ((chk? (decide ((q0_l3.2.1.length : Int) ≠ 0))).bind fun _ => (if decide (v67.2.2.2 > 0) then cache_Cache_free.l3 k (q0_l3.1, q0_l3.2.1, Int.tmod (wi (q0_l3.2.2.1 + 1)) (q0_l3.2.1.length : Int), q0_l3.2.2.2.1, q0_l3.2.2.2.2) else (if v67.2.2.1 then cache_Cache_free.l3 k (q0_l3.1, (List.set q0_l3.2.1 (q0_l3.2.2.1).toNat (v67.1, v67.2.1, false, v67.2.2.2)), Int.tmod (wi (q0_l3.2.2.1 + 1)) (q0_l3.2.1.length : Int), q0_l3.2.2.2.1, q0_l3.2.2.2.2) else some (q0_l3.2.2.1, (q0_l3.1, q0_l3.2.1, Int.tmod (wi (q0_l3.2.2.1 + 1)) (q0_l3.2.1.length : Int), q0_l3.2.2.2.1, q0_l3.2.2.2.2))))))
def cache_Cache_free.f (p0 : (Option ((List (List Int)) × (List Int) × (List Int))) × (List (Int × (List Int) × Bool × Int)) × Int × Int × Int) : Option (Int × ((Option ((List (List Int)) × (List Int) × (List Int))) × (List (Int × (List Int) × Bool × Int)) × Int × Int × Int)) := ((cache_Cache_at.f (some p0) (-1)).bind fun r1 => (if decide (r1 ≥ 0) then some (r1, p0) else ((cache_Cache_free.l1 p0 FU 0).bind fun o27 => (match o27 with | .inl o29 => (if (!(decide (o29 ≥ 0))) then some ((-1), p0) else ((cache_Cache_free.l2 FU p0).bind fun o51 => some (o51.1, o51.2))) | .inr o56 => (if (!(decide ((-1) ≥ 0))) then some ((-1), p0) else ((cache_Cache_free.l3 FU p0).bind fun o78 => some (o78.1, o78.2)))))))
def cache_Cache_free.post (B : Rf) (b0 : Nat) (p0 : (Option ((List (List Int)) × (List Int) × (List Int))) × (List (Int × (List Int) × Bool × Int)) × Int × Int × Int) (w : World) (r : Int × ((Option ((List (List Int)) × (List Int) × (List Int))) × (List (Int × (List Int) × Bool × Int)) × Int × Int × Int)) (v : Value) (w' : World) : Prop := v = (.int .i64 r.1 : Value) ∧ Sat w' B [O66 b0 r.2]
theorem cache_Cache_free.l1_ok {Q} (B : Rf) (b0 : Nat) (p0 : (Option ((List (List Int)) × (List Int) × (List Int))) × (List (Int × (List Int) × Bool × Int)) × Int × Int × Int) (pv11 : Value) (A12 : Option Addr) (c13 : Nat) (K14 : Heap) (R16 : rdS (rd K14 (.pair (.int .i64) (.pair (.slice 5 (.int .u8)) (.pair .bool (.int .i64))))) 4 K14 A12 c13 p0.2.1) (out : Sum Int Unit) (hn0 : ∀ (o0 : Int) (w : World), out = (.inl o0) → Sat w B [pts b0 (.cells #[pv11, .slice A12 p0.2.1.length c13, .int .i64 p0.2.2.1, .int .i64 p0.2.2.2.1, .int .i64 p0.2.2.2.2] 66 (0, 0)), gh K14, optP O80 pv11 p0.1] → At Q .ret 19 [(4, .int .i64 o0)] w) (hn1 : ∀ (o1 : Unit) (w : World), out = (.inr o1) → Sat w B [pts b0 (.cells #[pv11, .slice A12 p0.2.1.length c13, .int .i64 p0.2.2.1, .int .i64 p0.2.2.2.1, .int .i64 p0.2.2.2.2] 66 (0, 0)), gh K14, optP O80 pv11 p0.1] → At Q (.exit 0) 19 [] w) :
    ∀ (k : Nat) (x8_l1 : Int) (w : World), Sat w B [gh K14, pts b0 (.cells #[pv11, .slice A12 p0.2.1.length c13, .int .i64 p0.2.2.1, .int .i64 p0.2.2.2.1, .int .i64 p0.2.2.2.2] 66 (0, 0)), optP O80 pv11 p0.1] → cache_Cache_free.l1 p0 k x8_l1 = some out → WL Try.prog (cbody (cbody (cr (cl (cr C33))))) Q 19 [(0, .slice A12 p0.2.1.length c13), (1, .func (.func 36) #[] #[]), (7, .int .i64 (p0.2.1.length : Int)), (8, .int .i64 x8_l1)] w := by
  intro k
  induction k with
  | zero => intro x8_l1 w hS H; exact absurd (show none = some out from H) (by simp)
  | succ k ih =>
    intro x8_l1 w hS H
    unfold cache_Cache_free.l1 at H
    refine WL.round ?_
    refine WC.seq kr ?_
    refine WC.reg [0] kr kr ?_
    refine WR.runk [0] [] [0, 1, 7, 8, 9] (L' := [(0, .slice A12 p0.2.1.length c13), (1, .func (.func 36) #[] #[]), (7, .int .i64 (p0.2.1.length : Int)), (8, .int .i64 x8_l1), (9, .bool (decide (x8_l1 < (p0.2.1.length : Int))))]) (w' := w) kr ?_
    refine WR.nil ?_
    refine At.go ?_
    refine WC.seq kr ?_
    refine WC.cond kr (decide (x8_l1 < (p0.2.1.length : Int))) kr kr (fun hb17 => ?_) (fun hb17 => ?_)
    ·replace H := ite_t H hb17
     refine WC.skip kr ?_
     refine At.go ?_
     refine WC.seq kr ?_
     refine WC.block kr ?_
     refine WC.seq kr ?_
     refine WC.reg [0, 1] kr kr ?_
     refine WR.runk [0, 1] [] [0, 1, 5, 7, 8] (L' := [(0, .slice A12 p0.2.1.length c13), (1, .func (.func 36) #[] #[]), (5, .int .i64 x8_l1), (7, .int .i64 (p0.2.1.length : Int)), (8, .int .i64 x8_l1)]) (w' := w) kr ?_
     refine WR.nil ?_
     refine At.go ?_
     refine WC.seq kr ?_
     refine WC.reg [0, 1, 2, 3, 4, 5] kr kr ?_
     refine WR.runk [0, 1, 2] [3, 4, 5] [0, 1, 5, 7, 8, 11, 12, 13] (L' := [(0, .slice A12 p0.2.1.length c13), (1, .func (.func 36) #[] #[]), (5, .int .i64 x8_l1), (7, .int .i64 (p0.2.1.length : Int)), (8, .int .i64 x8_l1), (11, .func (.func 36) #[] #[]), (12, .slice A12 p0.2.1.length c13), (13, .int .i64 x8_l1)]) (w' := w) kr ?_
     obtain ⟨v18, e19, H⟩ := bind_ex H
     refine WR.st (St.ofP (PSt.idx (k := .i64) (.tmp 12) (.tmp 13) kr kr E64 kr kr (rdS.upd R16 (Sat.ghAt 0 hS rfl)) e19 ?_))
     refine WR.runk [] [4, 5] [0, 1, 5, 7, 8, 11, 14] (L' := [(0, .slice A12 p0.2.1.length c13), (1, .func (.func 36) #[] #[]), (5, .int .i64 x8_l1), (7, .int .i64 (p0.2.1.length : Int)), (8, .int .i64 x8_l1), (11, .func (.func 36) #[] #[]), (14, .pointer (some (adr A12 x8_l1.toNat 4)))]) (w' := w) kr ?_
     refine WR.st (St.ofR (RSt.loadAggR (t := 63) (κ := (.pair (.int .i64) (.pair (.slice 5 (.int .u8)) (.pair .bool (.int .i64))))) (.tmp 14) kr kr kr kr kr R16 e19 (Sat.ghAt 0 hS rfl) (fun cv hcv => ?_)))
     obtain ⟨A20, c21, rfl, R22⟩ := F63.un hcv
     replace R22 : rdS (r0 (.int .u8)) 1 K14 A20 c21 v18.2.1 := R22
     clear hcv
     refine WR.runk [] [5] [0, 1, 5, 7, 8, 11, 15] (L' := [(0, .slice A12 p0.2.1.length c13), (1, .func (.func 36) #[] #[]), (5, .int .i64 x8_l1), (7, .int .i64 (p0.2.1.length : Int)), (8, .int .i64 x8_l1), (11, .func (.func 36) #[] #[]), (15, .agg #[.int .i64 v18.1, .slice A20 v18.2.1.length c21, .bool v18.2.2.1, .int .i64 v18.2.2.2])]) (w' := w) kr ?_
     refine WR.st (St.call kr (f := 36) (args := #[.agg #[.int .i64 v18.1, .slice A20 v18.2.1.length c21, .bool v18.2.2.1, .int .i64 v18.2.2.2]]) kr (calls_of_WC (vs := [.agg #[.int .i64 v18.1, .slice A20 v18.2.1.length c21, .bool v18.2.2.1, .int .i64 v18.2.2.2]]) Try.func36 (c := C36) (n := 6) kr kr kr ?_) (fun _ _ h => h))
     refine WC.seq kr ?_
     refine WC.reg [0, 1] kr kr ?_
     refine WR.runk [] [0, 1] [0] (L' := [(0, .agg #[.int .i64 v18.1, .slice A20 v18.2.1.length c21, .bool v18.2.2.1, .int .i64 v18.2.2.2])]) (w' := w) kr ?_
     refine WR.st (St.box hS kr (.cells #[.int .i64 v18.1, .slice A20 v18.2.1.length c21, .bool v18.2.2.1, .int .i64 v18.2.2.2] 63) (fun b23 => .pointer (some ⟨b23, 0, none⟩)) (fun _ => by kernel_rfl) (fun b23 w24 hS => ?_))
     refine WR.runk [1] [] [1] (L' := [(1, .pointer (some ⟨b23, 0, none⟩))]) (w' := w24) kr ?_
     refine WR.nil ?_
     refine At.go ?_
     refine WC.seq kr ?_
     refine WC.reg [0, 1, 2, 3] kr kr ?_
     refine WR.runk [0] [1, 2, 3] [3] (L' := [(3, .pointer (some ⟨b23, 3, none⟩))]) (w' := w24) kr ?_
     refine WR.st (St.ofR (RSt.loadObj (t := 3) (k := 3) (v := .int .i64 v18.2.2.2) (.tmp 3) kr kr kr 0 hS rfl kr rfl ?_))
     refine WR.runk [2, 3] [] [2] (L' := [(2, .bool (v18.2.2.2 == 0))]) (w' := w24) kr ?_
     refine WR.nil ?_
     refine At.go ?_
     refine WC.ret kr ?_
     refine At.bodyK [.bool (v18.2.2.2 == 0)] (.bool (v18.2.2.2 == 0)) kr rfl ?_
     refine WR.runk [] [] [0, 1, 5, 7, 8, 16] (L' := [(0, .slice A12 p0.2.1.length c13), (1, .func (.func 36) #[] #[]), (5, .int .i64 x8_l1), (7, .int .i64 (p0.2.1.length : Int)), (8, .int .i64 x8_l1), (16, .bool (v18.2.2.2 == 0))]) (w' := w24) kr ?_
     refine WR.nil ?_
     refine At.go ?_
     refine WC.cond kr (v18.2.2.2 == 0) kr kr (fun hb26 => ?_) (fun hb26 => ?_)
     ·replace H := ite_t H hb26
      refine WC.seq kr ?_
      refine WC.reg [0, 1] kr kr ?_
      refine WR.runk [0, 1] [] [4] (L' := [(4, .int .i64 x8_l1)]) (w' := w24) kr ?_
      refine WR.nil ?_
      refine At.go ?_
      refine WC.ret kr ?_
      refine At.blockRet ?_
      refine At.thenRet ?_
      refine At.thenRet ?_
      obtain rfl := Option.some.inj H
      have hS : Sat w24 B [pts b0 (.cells #[pv11, .slice A12 p0.2.1.length c13, .int .i64 p0.2.2.1, .int .i64 p0.2.2.2.1, .int .i64 p0.2.2.2.2] 66 (0, 0)), gh K14, optP O80 pv11 p0.1] := hS.sel [2, 1, 3] kr
      refine At.weaken [4] (L' := [(4, .int .i64 x8_l1)]) kr ?_
      exact hn0 x8_l1 _ rfl hS
     ·replace H := ite_f H hb26
      refine WC.skip kr ?_
      refine At.blockNormal ?_
      refine At.go ?_
      refine WC.reg [0, 1] kr kr ?_
      refine WR.runk [0, 1] [] [0, 1, 7, 8] (L' := [(0, .slice A12 p0.2.1.length c13), (1, .func (.func 36) #[] #[]), (7, .int .i64 (p0.2.1.length : Int)), (8, .int .i64 (wi (x8_l1 + 1)))]) (w' := w24) kr ?_
      refine WR.nil ?_
      have hS : Sat w24 B [gh K14, pts b0 (.cells #[pv11, .slice A12 p0.2.1.length c13, .int .i64 p0.2.2.1, .int .i64 p0.2.2.2.1, .int .i64 p0.2.2.2.2] 66 (0, 0)), optP O80 pv11 p0.1] := hS.sel [1, 2, 3] kr
      refine At.again ?_
      refine WL.weaken [0, 1, 7, 8] (L' := [(0, .slice A12 p0.2.1.length c13), (1, .func (.func 36) #[] #[]), (7, .int .i64 (p0.2.1.length : Int)), (8, .int .i64 (wi (x8_l1 + 1)))]) kr ?_
      exact ih (wi (x8_l1 + 1)) _ hS H
    ·replace H := ite_f H hb17
     refine WC.exit kr ?_
     refine At.thenExit ?_
     refine At.thenExit ?_
     obtain rfl := Option.some.inj H
     have hS : Sat w B [pts b0 (.cells #[pv11, .slice A12 p0.2.1.length c13, .int .i64 p0.2.2.1, .int .i64 p0.2.2.2.1, .int .i64 p0.2.2.2.2] 66 (0, 0)), gh K14, optP O80 pv11 p0.1] := hS.sel [1, 0, 2] kr
     refine At.weaken [] (L' := []) kr ?_
     exact hn1 () _ rfl hS
theorem cache_Cache_free.l2_ok {Q} (B : Rf) (b0 : Nat) (out : Int × ((Option ((List (List Int)) × (List Int) × (List Int))) × (List (Int × (List Int) × Bool × Int)) × Int × Int × Int)) (hn0 : ∀ (w : World), Sat w B [O66 b0 out.2] → At Q .ret 56 [(2, .int .i64 out.1)] w) :
    ∀ (k : Nat) (q0_l2 : (Option ((List (List Int)) × (List Int) × (List Int))) × (List (Int × (List Int) × Bool × Int)) × Int × Int × Int) (w : World), Sat w B [O66 b0 q0_l2] → cache_Cache_free.l2 k q0_l2 = some out → WL Try.prog (cbody (cbody (cr (cr (cr C23))))) Q 56 [(0, .pointer (some ⟨b0, 0, none⟩))] w := by
  intro k
  induction k with
  | zero => intro q0_l2 w hS H; exact absurd (show none = some out from H) (by simp)
  | succ k ih =>
    intro q0_l2 w hS H
    unfold cache_Cache_free.l2 at H
    refine WL.round ?_
    refine WC.block kr ?_
    refine WC.seq kr ?_
    refine WC.reg [0, 1, 2, 3, 4] kr kr ?_
    refine WR.runk [0, 1, 2] [3, 4] [0, 19] (L' := [(0, .pointer (some ⟨b0, 0, none⟩)), (19, .pointer (some ⟨b0, 2, none⟩))]) (w' := w) kr ?_
    obtain ⟨pv34, A35, c36, hS⟩ := O66.open hS
    have hS : Sat w B [pts b0 (.cells #[pv34, .slice A35 q0_l2.2.1.length c36, .int .i64 q0_l2.2.2.1, .int .i64 q0_l2.2.2.2.1, .int .i64 q0_l2.2.2.2.2] 66 (0, 0)), optP O80 pv34 q0_l2.1, orw 63 F63 4 A35 c36 q0_l2.2.1] := hS
    refine WR.st (St.ofR (RSt.loadObj (t := 3) (k := 2) (v := .int .i64 q0_l2.2.2.1) (.tmp 19) kr kr kr 0 hS rfl kr rfl ?_))
    refine WR.runk [4] [] [0, 4] (L' := [(0, .pointer (some ⟨b0, 0, none⟩)), (4, .int .i64 q0_l2.2.2.1)]) (w' := w) kr ?_
    refine WR.nil ?_
    refine At.go ?_
    refine WC.seq kr ?_
    refine WC.reg [0, 1, 2, 3, 4, 5, 6] kr kr ?_
    refine WR.runk [0, 1, 2] [3, 4, 5, 6] [0, 4, 23] (L' := [(0, .pointer (some ⟨b0, 0, none⟩)), (4, .int .i64 q0_l2.2.2.1), (23, .pointer (some ⟨b0, 1, none⟩))]) (w' := w) kr ?_
    refine WR.st (St.ofR (RSt.loadObj (t := 64) (k := 1) (v := .slice A35 q0_l2.2.1.length c36) (.tmp 23) kr kr kr 0 hS rfl kr rfl ?_))
    refine WR.runk [4] [5, 6] [0, 4, 24, 25] (L' := [(0, .pointer (some ⟨b0, 0, none⟩)), (4, .int .i64 q0_l2.2.2.1), (24, .slice A35 q0_l2.2.1.length c36), (25, .int .i64 q0_l2.2.2.1)]) (w' := w) kr ?_
    have hS : Sat w B [orw 63 F63 4 A35 c36 q0_l2.2.1, pts b0 (.cells #[pv34, .slice A35 q0_l2.2.1.length c36, .int .i64 q0_l2.2.2.1, .int .i64 q0_l2.2.2.2.1, .int .i64 q0_l2.2.2.2.2] 66 (0, 0)), optP O80 pv34 q0_l2.1] := hS.sel [2, 0, 1] kr
    obtain ⟨K37, hK38, hS⟩ := Sat.gho hS
    have hS : Sat w B [gh K37, pts b0 (.cells #[pv34, .slice A35 q0_l2.2.1.length c36, .int .i64 q0_l2.2.2.1, .int .i64 q0_l2.2.2.2.1, .int .i64 q0_l2.2.2.2.2] 66 (0, 0)), optP O80 pv34 q0_l2.1] := hS
    have R39 : rdS (rd K37 (.pair (.int .i64) (.pair (.slice 5 (.int .u8)) (.pair .bool (.int .i64))))) 4 K37 A35 c36 q0_l2.2.1 := orw.rdS (κ := (.pair (.int .i64) (.pair (.slice 5 (.int .u8)) (.pair .bool (.int .i64))))) F63.rd hK38
    obtain ⟨v40, e41, H⟩ := bind_ex H
    refine WR.st (St.ofP (PSt.idx (k := .i64) (.tmp 24) (.tmp 25) kr kr E64 kr kr (rdS.upd R39 (Sat.ghAt 0 hS rfl)) e41 ?_))
    refine WR.runk [6] [] [0, 4, 5] (L' := [(0, .pointer (some ⟨b0, 0, none⟩)), (4, .int .i64 q0_l2.2.2.1), (5, .pointer (some (adr A35 (q0_l2.2.2.1).toNat 4)))]) (w' := w) kr ?_
    refine WR.nil ?_
    refine At.go ?_
    refine WC.seq kr ?_
    refine WC.drawn kr kr 15 kr (fun w42 hw43 => ?_)
    have hS := hS.heap hw43.1 hw43.2
    refine WD.weaken [0, 4, 5] (L' := [(0, .pointer (some ⟨b0, 0, none⟩)), (4, .int .i64 q0_l2.2.2.1), (5, .pointer (some (adr A35 (q0_l2.2.2.1).toNat 4)))]) kr ?_
    refine WD.pure (i := 0) (v := .pointer (some ⟨b0, 0, none⟩)) kr kr (fun _ => by kernel_rfl) ?_
    refine WD.weaken [0, 4, 5, 27] (L' := [(0, .pointer (some ⟨b0, 0, none⟩)), (4, .int .i64 q0_l2.2.2.1), (5, .pointer (some (adr A35 (q0_l2.2.2.1).toNat 4))), (27, .pointer (some ⟨b0, 0, none⟩))]) kr ?_
    refine WD.pure (i := 1) (v := .pointer (some ⟨b0, 0, none⟩)) kr kr (fun _ => by kernel_rfl) ?_
    refine WD.weaken [0, 4, 5, 27, 28] (L' := [(0, .pointer (some ⟨b0, 0, none⟩)), (4, .int .i64 q0_l2.2.2.1), (5, .pointer (some (adr A35 (q0_l2.2.2.1).toNat 4))), (27, .pointer (some ⟨b0, 0, none⟩)), (28, .pointer (some ⟨b0, 0, none⟩))]) kr ?_
    refine WD.pure (i := 2) (v := .pointer (some ⟨b0, 0, none⟩)) kr kr (fun _ => by kernel_rfl) ?_
    refine WD.weaken [0, 4, 5, 27, 29] (L' := [(0, .pointer (some ⟨b0, 0, none⟩)), (4, .int .i64 q0_l2.2.2.1), (5, .pointer (some (adr A35 (q0_l2.2.2.1).toNat 4))), (27, .pointer (some ⟨b0, 0, none⟩)), (29, .pointer (some ⟨b0, 0, none⟩))]) kr ?_
    refine WD.pure (i := 3) (v := .pointer (some ⟨b0, 2, none⟩)) kr kr (fun _ => by kernel_rfl) ?_
    refine WD.weaken [0, 4, 5, 27, 30] (L' := [(0, .pointer (some ⟨b0, 0, none⟩)), (4, .int .i64 q0_l2.2.2.1), (5, .pointer (some (adr A35 (q0_l2.2.2.1).toNat 4))), (27, .pointer (some ⟨b0, 0, none⟩)), (30, .pointer (some ⟨b0, 2, none⟩))]) kr ?_
    refine WD.ofR (i := 4) kr (RSt.loadObj (t := 3) (k := 2) (v := .int .i64 q0_l2.2.2.1) (.tmp 30) kr kr kr 1 hS rfl kr rfl ?_)
    refine WD.weaken [0, 4, 5, 27, 31] (L' := [(0, .pointer (some ⟨b0, 0, none⟩)), (4, .int .i64 q0_l2.2.2.1), (5, .pointer (some (adr A35 (q0_l2.2.2.1).toNat 4))), (27, .pointer (some ⟨b0, 0, none⟩)), (31, .int .i64 q0_l2.2.2.1)]) kr ?_
    refine WD.pure (i := 5) (v := .int .i64 (wi (q0_l2.2.2.1 + 1))) kr kr (fun _ => by kernel_rfl) ?_
    refine WD.weaken [0, 4, 5, 27, 32] (L' := [(0, .pointer (some ⟨b0, 0, none⟩)), (4, .int .i64 q0_l2.2.2.1), (5, .pointer (some (adr A35 (q0_l2.2.2.1).toNat 4))), (27, .pointer (some ⟨b0, 0, none⟩)), (32, .int .i64 (wi (q0_l2.2.2.1 + 1)))]) kr ?_
    refine WD.pure (i := 6) (v := .pointer (some ⟨b0, 0, none⟩)) kr kr (fun _ => by kernel_rfl) ?_
    refine WD.weaken [0, 4, 5, 27, 32, 33] (L' := [(0, .pointer (some ⟨b0, 0, none⟩)), (4, .int .i64 q0_l2.2.2.1), (5, .pointer (some (adr A35 (q0_l2.2.2.1).toNat 4))), (27, .pointer (some ⟨b0, 0, none⟩)), (32, .int .i64 (wi (q0_l2.2.2.1 + 1))), (33, .pointer (some ⟨b0, 0, none⟩))]) kr ?_
    refine WD.pure (i := 7) (v := .pointer (some ⟨b0, 0, none⟩)) kr kr (fun _ => by kernel_rfl) ?_
    refine WD.weaken [0, 4, 5, 27, 32, 34] (L' := [(0, .pointer (some ⟨b0, 0, none⟩)), (4, .int .i64 q0_l2.2.2.1), (5, .pointer (some (adr A35 (q0_l2.2.2.1).toNat 4))), (27, .pointer (some ⟨b0, 0, none⟩)), (32, .int .i64 (wi (q0_l2.2.2.1 + 1))), (34, .pointer (some ⟨b0, 0, none⟩))]) kr ?_
    refine WD.pure (i := 8) (v := .pointer (some ⟨b0, 1, none⟩)) kr kr (fun _ => by kernel_rfl) ?_
    refine WD.weaken [0, 4, 5, 27, 32, 35] (L' := [(0, .pointer (some ⟨b0, 0, none⟩)), (4, .int .i64 q0_l2.2.2.1), (5, .pointer (some (adr A35 (q0_l2.2.2.1).toNat 4))), (27, .pointer (some ⟨b0, 0, none⟩)), (32, .int .i64 (wi (q0_l2.2.2.1 + 1))), (35, .pointer (some ⟨b0, 1, none⟩))]) kr ?_
    refine WD.ofR (i := 9) kr (RSt.loadObj (t := 64) (k := 1) (v := .slice A35 q0_l2.2.1.length c36) (.tmp 35) kr kr kr 1 hS rfl kr rfl ?_)
    refine WD.weaken [0, 4, 5, 27, 32, 36] (L' := [(0, .pointer (some ⟨b0, 0, none⟩)), (4, .int .i64 q0_l2.2.2.1), (5, .pointer (some (adr A35 (q0_l2.2.2.1).toNat 4))), (27, .pointer (some ⟨b0, 0, none⟩)), (32, .int .i64 (wi (q0_l2.2.2.1 + 1))), (36, .slice A35 q0_l2.2.1.length c36)]) kr ?_
    refine WD.pure (i := 10) (v := .int .i64 (q0_l2.2.1.length : Int)) kr kr (fun _ => by kernel_rfl) ?_
    refine WD.weaken [0, 4, 5, 27, 32, 37] (L' := [(0, .pointer (some ⟨b0, 0, none⟩)), (4, .int .i64 q0_l2.2.2.1), (5, .pointer (some (adr A35 (q0_l2.2.2.1).toNat 4))), (27, .pointer (some ⟨b0, 0, none⟩)), (32, .int .i64 (wi (q0_l2.2.2.1 + 1))), (37, .int .i64 (q0_l2.2.1.length : Int))]) kr ?_
    obtain ⟨_, e44, H⟩ := bind_ex H
    refine WD.ofP (i := 11) kr (PSt.div (k := .i64) (t := 3) (t2 := 3) (a := (wi (q0_l2.2.2.1 + 1))) (b := (q0_l2.2.1.length : Int)) .rem (by decide) (.tmp 32) (.tmp 37) kr kr kr kr (of_decide_eq_true (chk?_some e44)) ?_)
    refine WD.weaken [0, 4, 5, 27, 38] (L' := [(0, .pointer (some ⟨b0, 0, none⟩)), (4, .int .i64 q0_l2.2.2.1), (5, .pointer (some (adr A35 (q0_l2.2.2.1).toNat 4))), (27, .pointer (some ⟨b0, 0, none⟩)), (38, .int .i64 (Int.tmod (wi (q0_l2.2.2.1 + 1)) (q0_l2.2.1.length : Int)))]) kr ?_
    refine WD.pure (i := 12) (v := .pointer (some ⟨b0, 0, none⟩)) kr kr (fun _ => by kernel_rfl) ?_
    refine WD.weaken [0, 4, 5, 38, 39] (L' := [(0, .pointer (some ⟨b0, 0, none⟩)), (4, .int .i64 q0_l2.2.2.1), (5, .pointer (some (adr A35 (q0_l2.2.2.1).toNat 4))), (38, .int .i64 (Int.tmod (wi (q0_l2.2.2.1 + 1)) (q0_l2.2.1.length : Int))), (39, .pointer (some ⟨b0, 0, none⟩))]) kr ?_
    refine WD.pure (i := 13) (v := .pointer (some ⟨b0, 2, none⟩)) kr kr (fun _ => by kernel_rfl) ?_
    refine WD.weaken [0, 4, 5, 38, 40] (L' := [(0, .pointer (some ⟨b0, 0, none⟩)), (4, .int .i64 q0_l2.2.2.1), (5, .pointer (some (adr A35 (q0_l2.2.2.1).toNat 4))), (38, .int .i64 (Int.tmod (wi (q0_l2.2.2.1 + 1)) (q0_l2.2.1.length : Int))), (40, .pointer (some ⟨b0, 2, none⟩))]) kr ?_
    have hS : Sat w42 B [pts b0 (.cells #[pv34, .slice A35 q0_l2.2.1.length c36, .int .i64 q0_l2.2.2.1, .int .i64 q0_l2.2.2.2.1, .int .i64 q0_l2.2.2.2.2] 66 (0, 0)), gh K37, optP O80 pv34 q0_l2.1] := hS.sel [1, 0, 2] kr
    refine WD.act (i := 14) kr (St.storeObj (t := 3) (k := 2) (cur' := #[pv34, .slice A35 q0_l2.2.1.length c36, .int .i64 (Int.tmod (wi (q0_l2.2.2.1 + 1)) (q0_l2.2.1.length : Int)), .int .i64 q0_l2.2.2.2.1, .int .i64 q0_l2.2.2.2.2]) (.tmp 40) (.tmp 38) kr kr kr hS kr kr kr rfl rfl (fun w45 hS => ?_))
    refine ⟨(asked.anc kr (asked.anc kr (asked.nil _ _))), ?_⟩
    refine WD.weaken [0, 4, 5] (L' := [(0, .pointer (some ⟨b0, 0, none⟩)), (4, .int .i64 q0_l2.2.2.1), (5, .pointer (some (adr A35 (q0_l2.2.2.1).toNat 4)))]) kr ?_
    refine WD.nil kr ?_
    refine At.go ?_
    refine WC.block kr ?_
    refine WC.seq kr ?_
    refine WC.reg [0, 1, 2, 3, 4, 5] kr kr ?_
    refine WR.runk [0, 1, 2] [3, 4, 5] [0, 4, 5, 45] (L' := [(0, .pointer (some ⟨b0, 0, none⟩)), (4, .int .i64 q0_l2.2.2.1), (5, .pointer (some (adr A35 (q0_l2.2.2.1).toNat 4))), (45, .pointer (some ((adr A35 (q0_l2.2.2.1).toNat 4).add 3)))]) (w' := w45) kr ?_
    refine WR.st (St.ofR (RSt.loadPartV (t := 3) (κ := (.pair (.int .i64) (.pair (.slice 5 (.int .u8)) (.pair .bool (.int .i64))))) (.tmp 45) 3 kr kr kr kr R39 e41 (Sat.ghAt 1 hS rfl) (u := .int .i64 v40.2.2.2) (fun cv hcv => by obtain ⟨_, _, rfl, _⟩ := F63.un hcv; rfl) ?_))
    refine WR.runk [4, 5] [] [0, 4, 5, 42] (L' := [(0, .pointer (some ⟨b0, 0, none⟩)), (4, .int .i64 q0_l2.2.2.1), (5, .pointer (some (adr A35 (q0_l2.2.2.1).toNat 4))), (42, .bool (decide (v40.2.2.2 > 0)))]) (w' := w45) kr ?_
    refine WR.nil ?_
    refine At.go ?_
    refine WC.cond kr (decide (v40.2.2.2 > 0)) kr kr (fun hb46 => ?_) (fun hb46 => ?_)
    ·replace H := ite_t H hb46
     refine WC.skip kr ?_
     refine At.blockNormal ?_
     refine At.blockNormal ?_
     have hS : Sat w45 B [gh K37, pts b0 (.cells #[pv34, .slice A35 q0_l2.2.1.length c36, .int .i64 (Int.tmod (wi (q0_l2.2.2.1 + 1)) (q0_l2.2.1.length : Int)), .int .i64 q0_l2.2.2.2.1, .int .i64 q0_l2.2.2.2.2] 66 (0, 0)), optP O80 pv34 q0_l2.1] := hS.sel [1, 0, 2] kr
     have hS : Sat w45 B [orw 63 F63 4 A35 c36 q0_l2.2.1, pts b0 (.cells #[pv34, .slice A35 q0_l2.2.1.length c36, .int .i64 (Int.tmod (wi (q0_l2.2.2.1 + 1)) (q0_l2.2.1.length : Int)), .int .i64 q0_l2.2.2.2.1, .int .i64 q0_l2.2.2.2.2] 66 (0, 0)), optP O80 pv34 q0_l2.1] := Sat.ungh hK38 hS
     have hS : Sat w45 B [pts b0 (.cells #[pv34, .slice A35 q0_l2.2.1.length c36, .int .i64 (Int.tmod (wi (q0_l2.2.2.1 + 1)) (q0_l2.2.1.length : Int)), .int .i64 q0_l2.2.2.2.1, .int .i64 q0_l2.2.2.2.2] 66 (0, 0)), optP O80 pv34 q0_l2.1, orw 63 F63 4 A35 c36 q0_l2.2.1] := hS.sel [1, 2, 0] kr
     have hS : Sat w45 B [O66 b0 (q0_l2.1, q0_l2.2.1, Int.tmod (wi (q0_l2.2.2.1 + 1)) (q0_l2.2.1.length : Int), q0_l2.2.2.2.1, q0_l2.2.2.2.2)] := O66.close (q0_l2.1, q0_l2.2.1, Int.tmod (wi (q0_l2.2.2.1 + 1)) (q0_l2.2.1.length : Int), q0_l2.2.2.2.1, q0_l2.2.2.2.2) pv34 A35 c36 hS
     have hS : Sat w45 B [O66 b0 (q0_l2.1, q0_l2.2.1, Int.tmod (wi (q0_l2.2.2.1 + 1)) (q0_l2.2.1.length : Int), q0_l2.2.2.2.1, q0_l2.2.2.2.2)] := hS.sel [0] kr
     refine At.again ?_
     refine WL.weaken [0] (L' := [(0, .pointer (some ⟨b0, 0, none⟩))]) kr ?_
     exact ih (q0_l2.1, q0_l2.2.1, Int.tmod (wi (q0_l2.2.2.1 + 1)) (q0_l2.2.1.length : Int), q0_l2.2.2.2.1, q0_l2.2.2.2.2) _ hS H
    ·replace H := ite_f H hb46
     refine WC.seq kr ?_
     refine WC.reg [0, 1, 2, 3, 4] kr kr ?_
     refine WR.runk [0, 1, 2] [3, 4] [0, 4, 5, 51] (L' := [(0, .pointer (some ⟨b0, 0, none⟩)), (4, .int .i64 q0_l2.2.2.1), (5, .pointer (some (adr A35 (q0_l2.2.2.1).toNat 4))), (51, .pointer (some ((adr A35 (q0_l2.2.2.1).toNat 4).add 2)))]) (w' := w45) kr ?_
     refine WR.st (St.ofR (RSt.loadPartV (t := 4) (κ := (.pair (.int .i64) (.pair (.slice 5 (.int .u8)) (.pair .bool (.int .i64))))) (.tmp 51) 2 kr kr kr kr R39 e41 (Sat.ghAt 1 hS rfl) (u := .bool v40.2.2.1) (fun cv hcv => by obtain ⟨_, _, rfl, _⟩ := F63.un hcv; rfl) ?_))
     refine WR.runk [4] [] [0, 4, 5, 48] (L' := [(0, .pointer (some ⟨b0, 0, none⟩)), (4, .int .i64 q0_l2.2.2.1), (5, .pointer (some (adr A35 (q0_l2.2.2.1).toNat 4))), (48, .bool v40.2.2.1)]) (w' := w45) kr ?_
     refine WR.nil ?_
     refine At.go ?_
     refine WC.cond kr v40.2.2.1 kr kr (fun hb47 => ?_) (fun hb47 => ?_)
     ·replace H := ite_t H hb47
      refine WC.reg [0, 1, 2, 3] kr kr ?_
      refine WR.runk [0, 1, 2] [3] [0, 55] (L' := [(0, .pointer (some ⟨b0, 0, none⟩)), (55, .pointer (some ((adr A35 (q0_l2.2.2.1).toNat 4).add 2)))]) (w' := w45) kr ?_
      have hS : Sat w45 B [gh K37, pts b0 (.cells #[pv34, .slice A35 q0_l2.2.1.length c36, .int .i64 (Int.tmod (wi (q0_l2.2.2.1 + 1)) (q0_l2.2.1.length : Int)), .int .i64 q0_l2.2.2.2.1, .int .i64 q0_l2.2.2.2.2] 66 (0, 0)), optP O80 pv34 q0_l2.1] := hS.sel [1, 0, 2] kr
      have hS : Sat w45 B [orw 63 F63 4 A35 c36 q0_l2.2.1, pts b0 (.cells #[pv34, .slice A35 q0_l2.2.1.length c36, .int .i64 (Int.tmod (wi (q0_l2.2.2.1 + 1)) (q0_l2.2.1.length : Int)), .int .i64 q0_l2.2.2.2.1, .int .i64 q0_l2.2.2.2.2] 66 (0, 0)), optP O80 pv34 q0_l2.1] := Sat.ungh hK38 hS
      refine WR.st (St.storePartRow (t := 4) (v' := (v40.1, v40.2.1, false, v40.2.2.2)) (.tmp 55) (.const (.bool false)) 2 kr kr kr hS kr kr kr kr e41 (fun cv H h => by obtain ⟨a, rfl, h⟩ := h; exact ⟨a, rfl, h⟩) (fun w48 hS => ?_))
      have hS : Sat w48 B [orw 63 F63 4 A35 c36 (List.set q0_l2.2.1 (q0_l2.2.2.1).toNat (v40.1, v40.2.1, false, v40.2.2.2)), pts b0 (.cells #[pv34, .slice A35 q0_l2.2.1.length c36, .int .i64 (Int.tmod (wi (q0_l2.2.2.1 + 1)) (q0_l2.2.1.length : Int)), .int .i64 q0_l2.2.2.2.1, .int .i64 q0_l2.2.2.2.2] 66 (0, 0)), optP O80 pv34 q0_l2.1] := hS
      have hl49 : List.length (List.set q0_l2.2.1 (q0_l2.2.2.1).toNat (v40.1, v40.2.1, false, v40.2.2.2)) = List.length q0_l2.2.1 := List.length_set
      have e50 : at? (List.set q0_l2.2.1 (q0_l2.2.2.1).toNat (v40.1, v40.2.1, false, v40.2.2.2)) q0_l2.2.2.1 = some (v40.1, v40.2.1, false, v40.2.2.2) := at?_set e41
      have hS : Sat w48 B [orw 63 F63 4 A35 c36 (List.set q0_l2.2.1 (q0_l2.2.2.1).toNat (v40.1, v40.2.1, false, v40.2.2.2)), pts b0 (.cells #[pv34, .slice A35 (List.set q0_l2.2.1 (q0_l2.2.2.1).toNat (v40.1, v40.2.1, false, v40.2.2.2)).length c36, .int .i64 (Int.tmod (wi (q0_l2.2.2.1 + 1)) (q0_l2.2.1.length : Int)), .int .i64 q0_l2.2.2.2.1, .int .i64 q0_l2.2.2.2.2] 66 (0, 0)), optP O80 pv34 q0_l2.1] := by simpa only [hl49] using hS
      refine WR.runk [] [] [0] (L' := [(0, .pointer (some ⟨b0, 0, none⟩))]) (w' := w48) kr ?_
      refine WR.nil ?_
      refine At.blockNormal ?_
      refine At.blockNormal ?_
      have hS : Sat w48 B [pts b0 (.cells #[pv34, .slice A35 (List.set q0_l2.2.1 (q0_l2.2.2.1).toNat (v40.1, v40.2.1, false, v40.2.2.2)).length c36, .int .i64 (Int.tmod (wi (q0_l2.2.2.1 + 1)) (q0_l2.2.1.length : Int)), .int .i64 q0_l2.2.2.2.1, .int .i64 q0_l2.2.2.2.2] 66 (0, 0)), optP O80 pv34 q0_l2.1, orw 63 F63 4 A35 c36 (List.set q0_l2.2.1 (q0_l2.2.2.1).toNat (v40.1, v40.2.1, false, v40.2.2.2))] := hS.sel [1, 2, 0] kr
      have hS : Sat w48 B [O66 b0 (q0_l2.1, (List.set q0_l2.2.1 (q0_l2.2.2.1).toNat (v40.1, v40.2.1, false, v40.2.2.2)), Int.tmod (wi (q0_l2.2.2.1 + 1)) (q0_l2.2.1.length : Int), q0_l2.2.2.2.1, q0_l2.2.2.2.2)] := O66.close (q0_l2.1, (List.set q0_l2.2.1 (q0_l2.2.2.1).toNat (v40.1, v40.2.1, false, v40.2.2.2)), Int.tmod (wi (q0_l2.2.2.1 + 1)) (q0_l2.2.1.length : Int), q0_l2.2.2.2.1, q0_l2.2.2.2.2) pv34 A35 c36 hS
      have hS : Sat w48 B [O66 b0 (q0_l2.1, (List.set q0_l2.2.1 (q0_l2.2.2.1).toNat (v40.1, v40.2.1, false, v40.2.2.2)), Int.tmod (wi (q0_l2.2.2.1 + 1)) (q0_l2.2.1.length : Int), q0_l2.2.2.2.1, q0_l2.2.2.2.2)] := hS.sel [0] kr
      refine At.again ?_
      refine WL.weaken [0] (L' := [(0, .pointer (some ⟨b0, 0, none⟩))]) kr ?_
      exact ih (q0_l2.1, (List.set q0_l2.2.1 (q0_l2.2.2.1).toNat (v40.1, v40.2.1, false, v40.2.2.2)), Int.tmod (wi (q0_l2.2.2.1 + 1)) (q0_l2.2.1.length : Int), q0_l2.2.2.2.1, q0_l2.2.2.2.2) _ hS H
     ·replace H := ite_f H hb47
      refine WC.seq kr ?_
      refine WC.reg [0, 1] kr kr ?_
      refine WR.runk [0, 1] [] [2] (L' := [(2, .int .i64 q0_l2.2.2.1)]) (w' := w45) kr ?_
      refine WR.nil ?_
      refine At.go ?_
      refine WC.ret kr ?_
      refine At.blockRet ?_
      refine At.blockRet ?_
      refine At.thenRet ?_
      obtain rfl := Option.some.inj H
      have hS : Sat w45 B [gh K37, pts b0 (.cells #[pv34, .slice A35 q0_l2.2.1.length c36, .int .i64 (Int.tmod (wi (q0_l2.2.2.1 + 1)) (q0_l2.2.1.length : Int)), .int .i64 q0_l2.2.2.2.1, .int .i64 q0_l2.2.2.2.2] 66 (0, 0)), optP O80 pv34 q0_l2.1] := hS.sel [1, 0, 2] kr
      have hS : Sat w45 B [orw 63 F63 4 A35 c36 q0_l2.2.1, pts b0 (.cells #[pv34, .slice A35 q0_l2.2.1.length c36, .int .i64 (Int.tmod (wi (q0_l2.2.2.1 + 1)) (q0_l2.2.1.length : Int)), .int .i64 q0_l2.2.2.2.1, .int .i64 q0_l2.2.2.2.2] 66 (0, 0)), optP O80 pv34 q0_l2.1] := Sat.ungh hK38 hS
      have hS : Sat w45 B [pts b0 (.cells #[pv34, .slice A35 q0_l2.2.1.length c36, .int .i64 (Int.tmod (wi (q0_l2.2.2.1 + 1)) (q0_l2.2.1.length : Int)), .int .i64 q0_l2.2.2.2.1, .int .i64 q0_l2.2.2.2.2] 66 (0, 0)), optP O80 pv34 q0_l2.1, orw 63 F63 4 A35 c36 q0_l2.2.1] := hS.sel [1, 2, 0] kr
      have hS : Sat w45 B [O66 b0 (q0_l2.1, q0_l2.2.1, Int.tmod (wi (q0_l2.2.2.1 + 1)) (q0_l2.2.1.length : Int), q0_l2.2.2.2.1, q0_l2.2.2.2.2)] := O66.close (q0_l2.1, q0_l2.2.1, Int.tmod (wi (q0_l2.2.2.1 + 1)) (q0_l2.2.1.length : Int), q0_l2.2.2.2.1, q0_l2.2.2.2.2) pv34 A35 c36 hS
      have hS : Sat w45 B [O66 b0 (q0_l2.1, q0_l2.2.1, Int.tmod (wi (q0_l2.2.2.1 + 1)) (q0_l2.2.1.length : Int), q0_l2.2.2.2.1, q0_l2.2.2.2.2)] := hS.sel [0] kr
      refine At.weaken [2] (L' := [(2, .int .i64 q0_l2.2.2.1)]) kr ?_
      exact hn0 _ hS
theorem cache_Cache_free.l3_ok {Q} (B : Rf) (b0 : Nat) (out : Int × ((Option ((List (List Int)) × (List Int) × (List Int))) × (List (Int × (List Int) × Bool × Int)) × Int × Int × Int)) (hn0 : ∀ (w : World), Sat w B [O66 b0 out.2] → At Q .ret 56 [(2, .int .i64 out.1)] w) :
    ∀ (k : Nat) (q0_l3 : (Option ((List (List Int)) × (List Int) × (List Int))) × (List (Int × (List Int) × Bool × Int)) × Int × Int × Int) (w : World), Sat w B [O66 b0 q0_l3] → cache_Cache_free.l3 k q0_l3 = some out → WL Try.prog (cbody (cbody (cr (cr (cr C23))))) Q 56 [(0, .pointer (some ⟨b0, 0, none⟩))] w := by
  intro k
  induction k with
  | zero => intro q0_l3 w hS H; exact absurd (show none = some out from H) (by simp)
  | succ k ih =>
    intro q0_l3 w hS H
    unfold cache_Cache_free.l3 at H
    refine WL.round ?_
    refine WC.block kr ?_
    refine WC.seq kr ?_
    refine WC.reg [0, 1, 2, 3, 4] kr kr ?_
    refine WR.runk [0, 1, 2] [3, 4] [0, 19] (L' := [(0, .pointer (some ⟨b0, 0, none⟩)), (19, .pointer (some ⟨b0, 2, none⟩))]) (w' := w) kr ?_
    obtain ⟨pv61, A62, c63, hS⟩ := O66.open hS
    have hS : Sat w B [pts b0 (.cells #[pv61, .slice A62 q0_l3.2.1.length c63, .int .i64 q0_l3.2.2.1, .int .i64 q0_l3.2.2.2.1, .int .i64 q0_l3.2.2.2.2] 66 (0, 0)), optP O80 pv61 q0_l3.1, orw 63 F63 4 A62 c63 q0_l3.2.1] := hS
    refine WR.st (St.ofR (RSt.loadObj (t := 3) (k := 2) (v := .int .i64 q0_l3.2.2.1) (.tmp 19) kr kr kr 0 hS rfl kr rfl ?_))
    refine WR.runk [4] [] [0, 4] (L' := [(0, .pointer (some ⟨b0, 0, none⟩)), (4, .int .i64 q0_l3.2.2.1)]) (w' := w) kr ?_
    refine WR.nil ?_
    refine At.go ?_
    refine WC.seq kr ?_
    refine WC.reg [0, 1, 2, 3, 4, 5, 6] kr kr ?_
    refine WR.runk [0, 1, 2] [3, 4, 5, 6] [0, 4, 23] (L' := [(0, .pointer (some ⟨b0, 0, none⟩)), (4, .int .i64 q0_l3.2.2.1), (23, .pointer (some ⟨b0, 1, none⟩))]) (w' := w) kr ?_
    refine WR.st (St.ofR (RSt.loadObj (t := 64) (k := 1) (v := .slice A62 q0_l3.2.1.length c63) (.tmp 23) kr kr kr 0 hS rfl kr rfl ?_))
    refine WR.runk [4] [5, 6] [0, 4, 24, 25] (L' := [(0, .pointer (some ⟨b0, 0, none⟩)), (4, .int .i64 q0_l3.2.2.1), (24, .slice A62 q0_l3.2.1.length c63), (25, .int .i64 q0_l3.2.2.1)]) (w' := w) kr ?_
    have hS : Sat w B [orw 63 F63 4 A62 c63 q0_l3.2.1, pts b0 (.cells #[pv61, .slice A62 q0_l3.2.1.length c63, .int .i64 q0_l3.2.2.1, .int .i64 q0_l3.2.2.2.1, .int .i64 q0_l3.2.2.2.2] 66 (0, 0)), optP O80 pv61 q0_l3.1] := hS.sel [2, 0, 1] kr
    obtain ⟨K64, hK65, hS⟩ := Sat.gho hS
    have hS : Sat w B [gh K64, pts b0 (.cells #[pv61, .slice A62 q0_l3.2.1.length c63, .int .i64 q0_l3.2.2.1, .int .i64 q0_l3.2.2.2.1, .int .i64 q0_l3.2.2.2.2] 66 (0, 0)), optP O80 pv61 q0_l3.1] := hS
    have R66 : rdS (rd K64 (.pair (.int .i64) (.pair (.slice 5 (.int .u8)) (.pair .bool (.int .i64))))) 4 K64 A62 c63 q0_l3.2.1 := orw.rdS (κ := (.pair (.int .i64) (.pair (.slice 5 (.int .u8)) (.pair .bool (.int .i64))))) F63.rd hK65
    obtain ⟨v67, e68, H⟩ := bind_ex H
    refine WR.st (St.ofP (PSt.idx (k := .i64) (.tmp 24) (.tmp 25) kr kr E64 kr kr (rdS.upd R66 (Sat.ghAt 0 hS rfl)) e68 ?_))
    refine WR.runk [6] [] [0, 4, 5] (L' := [(0, .pointer (some ⟨b0, 0, none⟩)), (4, .int .i64 q0_l3.2.2.1), (5, .pointer (some (adr A62 (q0_l3.2.2.1).toNat 4)))]) (w' := w) kr ?_
    refine WR.nil ?_
    refine At.go ?_
    refine WC.seq kr ?_
    refine WC.drawn kr kr 15 kr (fun w69 hw70 => ?_)
    have hS := hS.heap hw70.1 hw70.2
    refine WD.weaken [0, 4, 5] (L' := [(0, .pointer (some ⟨b0, 0, none⟩)), (4, .int .i64 q0_l3.2.2.1), (5, .pointer (some (adr A62 (q0_l3.2.2.1).toNat 4)))]) kr ?_
    refine WD.pure (i := 0) (v := .pointer (some ⟨b0, 0, none⟩)) kr kr (fun _ => by kernel_rfl) ?_
    refine WD.weaken [0, 4, 5, 27] (L' := [(0, .pointer (some ⟨b0, 0, none⟩)), (4, .int .i64 q0_l3.2.2.1), (5, .pointer (some (adr A62 (q0_l3.2.2.1).toNat 4))), (27, .pointer (some ⟨b0, 0, none⟩))]) kr ?_
    refine WD.pure (i := 1) (v := .pointer (some ⟨b0, 0, none⟩)) kr kr (fun _ => by kernel_rfl) ?_
    refine WD.weaken [0, 4, 5, 27, 28] (L' := [(0, .pointer (some ⟨b0, 0, none⟩)), (4, .int .i64 q0_l3.2.2.1), (5, .pointer (some (adr A62 (q0_l3.2.2.1).toNat 4))), (27, .pointer (some ⟨b0, 0, none⟩)), (28, .pointer (some ⟨b0, 0, none⟩))]) kr ?_
    refine WD.pure (i := 2) (v := .pointer (some ⟨b0, 0, none⟩)) kr kr (fun _ => by kernel_rfl) ?_
    refine WD.weaken [0, 4, 5, 27, 29] (L' := [(0, .pointer (some ⟨b0, 0, none⟩)), (4, .int .i64 q0_l3.2.2.1), (5, .pointer (some (adr A62 (q0_l3.2.2.1).toNat 4))), (27, .pointer (some ⟨b0, 0, none⟩)), (29, .pointer (some ⟨b0, 0, none⟩))]) kr ?_
    refine WD.pure (i := 3) (v := .pointer (some ⟨b0, 2, none⟩)) kr kr (fun _ => by kernel_rfl) ?_
    refine WD.weaken [0, 4, 5, 27, 30] (L' := [(0, .pointer (some ⟨b0, 0, none⟩)), (4, .int .i64 q0_l3.2.2.1), (5, .pointer (some (adr A62 (q0_l3.2.2.1).toNat 4))), (27, .pointer (some ⟨b0, 0, none⟩)), (30, .pointer (some ⟨b0, 2, none⟩))]) kr ?_
    refine WD.ofR (i := 4) kr (RSt.loadObj (t := 3) (k := 2) (v := .int .i64 q0_l3.2.2.1) (.tmp 30) kr kr kr 1 hS rfl kr rfl ?_)
    refine WD.weaken [0, 4, 5, 27, 31] (L' := [(0, .pointer (some ⟨b0, 0, none⟩)), (4, .int .i64 q0_l3.2.2.1), (5, .pointer (some (adr A62 (q0_l3.2.2.1).toNat 4))), (27, .pointer (some ⟨b0, 0, none⟩)), (31, .int .i64 q0_l3.2.2.1)]) kr ?_
    refine WD.pure (i := 5) (v := .int .i64 (wi (q0_l3.2.2.1 + 1))) kr kr (fun _ => by kernel_rfl) ?_
    refine WD.weaken [0, 4, 5, 27, 32] (L' := [(0, .pointer (some ⟨b0, 0, none⟩)), (4, .int .i64 q0_l3.2.2.1), (5, .pointer (some (adr A62 (q0_l3.2.2.1).toNat 4))), (27, .pointer (some ⟨b0, 0, none⟩)), (32, .int .i64 (wi (q0_l3.2.2.1 + 1)))]) kr ?_
    refine WD.pure (i := 6) (v := .pointer (some ⟨b0, 0, none⟩)) kr kr (fun _ => by kernel_rfl) ?_
    refine WD.weaken [0, 4, 5, 27, 32, 33] (L' := [(0, .pointer (some ⟨b0, 0, none⟩)), (4, .int .i64 q0_l3.2.2.1), (5, .pointer (some (adr A62 (q0_l3.2.2.1).toNat 4))), (27, .pointer (some ⟨b0, 0, none⟩)), (32, .int .i64 (wi (q0_l3.2.2.1 + 1))), (33, .pointer (some ⟨b0, 0, none⟩))]) kr ?_
    refine WD.pure (i := 7) (v := .pointer (some ⟨b0, 0, none⟩)) kr kr (fun _ => by kernel_rfl) ?_
    refine WD.weaken [0, 4, 5, 27, 32, 34] (L' := [(0, .pointer (some ⟨b0, 0, none⟩)), (4, .int .i64 q0_l3.2.2.1), (5, .pointer (some (adr A62 (q0_l3.2.2.1).toNat 4))), (27, .pointer (some ⟨b0, 0, none⟩)), (32, .int .i64 (wi (q0_l3.2.2.1 + 1))), (34, .pointer (some ⟨b0, 0, none⟩))]) kr ?_
    refine WD.pure (i := 8) (v := .pointer (some ⟨b0, 1, none⟩)) kr kr (fun _ => by kernel_rfl) ?_
    refine WD.weaken [0, 4, 5, 27, 32, 35] (L' := [(0, .pointer (some ⟨b0, 0, none⟩)), (4, .int .i64 q0_l3.2.2.1), (5, .pointer (some (adr A62 (q0_l3.2.2.1).toNat 4))), (27, .pointer (some ⟨b0, 0, none⟩)), (32, .int .i64 (wi (q0_l3.2.2.1 + 1))), (35, .pointer (some ⟨b0, 1, none⟩))]) kr ?_
    refine WD.ofR (i := 9) kr (RSt.loadObj (t := 64) (k := 1) (v := .slice A62 q0_l3.2.1.length c63) (.tmp 35) kr kr kr 1 hS rfl kr rfl ?_)
    refine WD.weaken [0, 4, 5, 27, 32, 36] (L' := [(0, .pointer (some ⟨b0, 0, none⟩)), (4, .int .i64 q0_l3.2.2.1), (5, .pointer (some (adr A62 (q0_l3.2.2.1).toNat 4))), (27, .pointer (some ⟨b0, 0, none⟩)), (32, .int .i64 (wi (q0_l3.2.2.1 + 1))), (36, .slice A62 q0_l3.2.1.length c63)]) kr ?_
    refine WD.pure (i := 10) (v := .int .i64 (q0_l3.2.1.length : Int)) kr kr (fun _ => by kernel_rfl) ?_
    refine WD.weaken [0, 4, 5, 27, 32, 37] (L' := [(0, .pointer (some ⟨b0, 0, none⟩)), (4, .int .i64 q0_l3.2.2.1), (5, .pointer (some (adr A62 (q0_l3.2.2.1).toNat 4))), (27, .pointer (some ⟨b0, 0, none⟩)), (32, .int .i64 (wi (q0_l3.2.2.1 + 1))), (37, .int .i64 (q0_l3.2.1.length : Int))]) kr ?_
    obtain ⟨_, e71, H⟩ := bind_ex H
    refine WD.ofP (i := 11) kr (PSt.div (k := .i64) (t := 3) (t2 := 3) (a := (wi (q0_l3.2.2.1 + 1))) (b := (q0_l3.2.1.length : Int)) .rem (by decide) (.tmp 32) (.tmp 37) kr kr kr kr (of_decide_eq_true (chk?_some e71)) ?_)
    refine WD.weaken [0, 4, 5, 27, 38] (L' := [(0, .pointer (some ⟨b0, 0, none⟩)), (4, .int .i64 q0_l3.2.2.1), (5, .pointer (some (adr A62 (q0_l3.2.2.1).toNat 4))), (27, .pointer (some ⟨b0, 0, none⟩)), (38, .int .i64 (Int.tmod (wi (q0_l3.2.2.1 + 1)) (q0_l3.2.1.length : Int)))]) kr ?_
    refine WD.pure (i := 12) (v := .pointer (some ⟨b0, 0, none⟩)) kr kr (fun _ => by kernel_rfl) ?_
    refine WD.weaken [0, 4, 5, 38, 39] (L' := [(0, .pointer (some ⟨b0, 0, none⟩)), (4, .int .i64 q0_l3.2.2.1), (5, .pointer (some (adr A62 (q0_l3.2.2.1).toNat 4))), (38, .int .i64 (Int.tmod (wi (q0_l3.2.2.1 + 1)) (q0_l3.2.1.length : Int))), (39, .pointer (some ⟨b0, 0, none⟩))]) kr ?_
    refine WD.pure (i := 13) (v := .pointer (some ⟨b0, 2, none⟩)) kr kr (fun _ => by kernel_rfl) ?_
    refine WD.weaken [0, 4, 5, 38, 40] (L' := [(0, .pointer (some ⟨b0, 0, none⟩)), (4, .int .i64 q0_l3.2.2.1), (5, .pointer (some (adr A62 (q0_l3.2.2.1).toNat 4))), (38, .int .i64 (Int.tmod (wi (q0_l3.2.2.1 + 1)) (q0_l3.2.1.length : Int))), (40, .pointer (some ⟨b0, 2, none⟩))]) kr ?_
    have hS : Sat w69 B [pts b0 (.cells #[pv61, .slice A62 q0_l3.2.1.length c63, .int .i64 q0_l3.2.2.1, .int .i64 q0_l3.2.2.2.1, .int .i64 q0_l3.2.2.2.2] 66 (0, 0)), gh K64, optP O80 pv61 q0_l3.1] := hS.sel [1, 0, 2] kr
    refine WD.act (i := 14) kr (St.storeObj (t := 3) (k := 2) (cur' := #[pv61, .slice A62 q0_l3.2.1.length c63, .int .i64 (Int.tmod (wi (q0_l3.2.2.1 + 1)) (q0_l3.2.1.length : Int)), .int .i64 q0_l3.2.2.2.1, .int .i64 q0_l3.2.2.2.2]) (.tmp 40) (.tmp 38) kr kr kr hS kr kr kr rfl rfl (fun w72 hS => ?_))
    refine ⟨(asked.anc kr (asked.anc kr (asked.nil _ _))), ?_⟩
    refine WD.weaken [0, 4, 5] (L' := [(0, .pointer (some ⟨b0, 0, none⟩)), (4, .int .i64 q0_l3.2.2.1), (5, .pointer (some (adr A62 (q0_l3.2.2.1).toNat 4)))]) kr ?_
    refine WD.nil kr ?_
    refine At.go ?_
    refine WC.block kr ?_
    refine WC.seq kr ?_
    refine WC.reg [0, 1, 2, 3, 4, 5] kr kr ?_
    refine WR.runk [0, 1, 2] [3, 4, 5] [0, 4, 5, 45] (L' := [(0, .pointer (some ⟨b0, 0, none⟩)), (4, .int .i64 q0_l3.2.2.1), (5, .pointer (some (adr A62 (q0_l3.2.2.1).toNat 4))), (45, .pointer (some ((adr A62 (q0_l3.2.2.1).toNat 4).add 3)))]) (w' := w72) kr ?_
    refine WR.st (St.ofR (RSt.loadPartV (t := 3) (κ := (.pair (.int .i64) (.pair (.slice 5 (.int .u8)) (.pair .bool (.int .i64))))) (.tmp 45) 3 kr kr kr kr R66 e68 (Sat.ghAt 1 hS rfl) (u := .int .i64 v67.2.2.2) (fun cv hcv => by obtain ⟨_, _, rfl, _⟩ := F63.un hcv; rfl) ?_))
    refine WR.runk [4, 5] [] [0, 4, 5, 42] (L' := [(0, .pointer (some ⟨b0, 0, none⟩)), (4, .int .i64 q0_l3.2.2.1), (5, .pointer (some (adr A62 (q0_l3.2.2.1).toNat 4))), (42, .bool (decide (v67.2.2.2 > 0)))]) (w' := w72) kr ?_
    refine WR.nil ?_
    refine At.go ?_
    refine WC.cond kr (decide (v67.2.2.2 > 0)) kr kr (fun hb73 => ?_) (fun hb73 => ?_)
    ·replace H := ite_t H hb73
     refine WC.skip kr ?_
     refine At.blockNormal ?_
     refine At.blockNormal ?_
     have hS : Sat w72 B [gh K64, pts b0 (.cells #[pv61, .slice A62 q0_l3.2.1.length c63, .int .i64 (Int.tmod (wi (q0_l3.2.2.1 + 1)) (q0_l3.2.1.length : Int)), .int .i64 q0_l3.2.2.2.1, .int .i64 q0_l3.2.2.2.2] 66 (0, 0)), optP O80 pv61 q0_l3.1] := hS.sel [1, 0, 2] kr
     have hS : Sat w72 B [orw 63 F63 4 A62 c63 q0_l3.2.1, pts b0 (.cells #[pv61, .slice A62 q0_l3.2.1.length c63, .int .i64 (Int.tmod (wi (q0_l3.2.2.1 + 1)) (q0_l3.2.1.length : Int)), .int .i64 q0_l3.2.2.2.1, .int .i64 q0_l3.2.2.2.2] 66 (0, 0)), optP O80 pv61 q0_l3.1] := Sat.ungh hK65 hS
     have hS : Sat w72 B [pts b0 (.cells #[pv61, .slice A62 q0_l3.2.1.length c63, .int .i64 (Int.tmod (wi (q0_l3.2.2.1 + 1)) (q0_l3.2.1.length : Int)), .int .i64 q0_l3.2.2.2.1, .int .i64 q0_l3.2.2.2.2] 66 (0, 0)), optP O80 pv61 q0_l3.1, orw 63 F63 4 A62 c63 q0_l3.2.1] := hS.sel [1, 2, 0] kr
     have hS : Sat w72 B [O66 b0 (q0_l3.1, q0_l3.2.1, Int.tmod (wi (q0_l3.2.2.1 + 1)) (q0_l3.2.1.length : Int), q0_l3.2.2.2.1, q0_l3.2.2.2.2)] := O66.close (q0_l3.1, q0_l3.2.1, Int.tmod (wi (q0_l3.2.2.1 + 1)) (q0_l3.2.1.length : Int), q0_l3.2.2.2.1, q0_l3.2.2.2.2) pv61 A62 c63 hS
     have hS : Sat w72 B [O66 b0 (q0_l3.1, q0_l3.2.1, Int.tmod (wi (q0_l3.2.2.1 + 1)) (q0_l3.2.1.length : Int), q0_l3.2.2.2.1, q0_l3.2.2.2.2)] := hS.sel [0] kr
     refine At.again ?_
     refine WL.weaken [0] (L' := [(0, .pointer (some ⟨b0, 0, none⟩))]) kr ?_
     exact ih (q0_l3.1, q0_l3.2.1, Int.tmod (wi (q0_l3.2.2.1 + 1)) (q0_l3.2.1.length : Int), q0_l3.2.2.2.1, q0_l3.2.2.2.2) _ hS H
    ·replace H := ite_f H hb73
     refine WC.seq kr ?_
     refine WC.reg [0, 1, 2, 3, 4] kr kr ?_
     refine WR.runk [0, 1, 2] [3, 4] [0, 4, 5, 51] (L' := [(0, .pointer (some ⟨b0, 0, none⟩)), (4, .int .i64 q0_l3.2.2.1), (5, .pointer (some (adr A62 (q0_l3.2.2.1).toNat 4))), (51, .pointer (some ((adr A62 (q0_l3.2.2.1).toNat 4).add 2)))]) (w' := w72) kr ?_
     refine WR.st (St.ofR (RSt.loadPartV (t := 4) (κ := (.pair (.int .i64) (.pair (.slice 5 (.int .u8)) (.pair .bool (.int .i64))))) (.tmp 51) 2 kr kr kr kr R66 e68 (Sat.ghAt 1 hS rfl) (u := .bool v67.2.2.1) (fun cv hcv => by obtain ⟨_, _, rfl, _⟩ := F63.un hcv; rfl) ?_))
     refine WR.runk [4] [] [0, 4, 5, 48] (L' := [(0, .pointer (some ⟨b0, 0, none⟩)), (4, .int .i64 q0_l3.2.2.1), (5, .pointer (some (adr A62 (q0_l3.2.2.1).toNat 4))), (48, .bool v67.2.2.1)]) (w' := w72) kr ?_
     refine WR.nil ?_
     refine At.go ?_
     refine WC.cond kr v67.2.2.1 kr kr (fun hb74 => ?_) (fun hb74 => ?_)
     ·replace H := ite_t H hb74
      refine WC.reg [0, 1, 2, 3] kr kr ?_
      refine WR.runk [0, 1, 2] [3] [0, 55] (L' := [(0, .pointer (some ⟨b0, 0, none⟩)), (55, .pointer (some ((adr A62 (q0_l3.2.2.1).toNat 4).add 2)))]) (w' := w72) kr ?_
      have hS : Sat w72 B [gh K64, pts b0 (.cells #[pv61, .slice A62 q0_l3.2.1.length c63, .int .i64 (Int.tmod (wi (q0_l3.2.2.1 + 1)) (q0_l3.2.1.length : Int)), .int .i64 q0_l3.2.2.2.1, .int .i64 q0_l3.2.2.2.2] 66 (0, 0)), optP O80 pv61 q0_l3.1] := hS.sel [1, 0, 2] kr
      have hS : Sat w72 B [orw 63 F63 4 A62 c63 q0_l3.2.1, pts b0 (.cells #[pv61, .slice A62 q0_l3.2.1.length c63, .int .i64 (Int.tmod (wi (q0_l3.2.2.1 + 1)) (q0_l3.2.1.length : Int)), .int .i64 q0_l3.2.2.2.1, .int .i64 q0_l3.2.2.2.2] 66 (0, 0)), optP O80 pv61 q0_l3.1] := Sat.ungh hK65 hS
      refine WR.st (St.storePartRow (t := 4) (v' := (v67.1, v67.2.1, false, v67.2.2.2)) (.tmp 55) (.const (.bool false)) 2 kr kr kr hS kr kr kr kr e68 (fun cv H h => by obtain ⟨a, rfl, h⟩ := h; exact ⟨a, rfl, h⟩) (fun w75 hS => ?_))
      have hS : Sat w75 B [orw 63 F63 4 A62 c63 (List.set q0_l3.2.1 (q0_l3.2.2.1).toNat (v67.1, v67.2.1, false, v67.2.2.2)), pts b0 (.cells #[pv61, .slice A62 q0_l3.2.1.length c63, .int .i64 (Int.tmod (wi (q0_l3.2.2.1 + 1)) (q0_l3.2.1.length : Int)), .int .i64 q0_l3.2.2.2.1, .int .i64 q0_l3.2.2.2.2] 66 (0, 0)), optP O80 pv61 q0_l3.1] := hS
      have hl76 : List.length (List.set q0_l3.2.1 (q0_l3.2.2.1).toNat (v67.1, v67.2.1, false, v67.2.2.2)) = List.length q0_l3.2.1 := List.length_set
      have e77 : at? (List.set q0_l3.2.1 (q0_l3.2.2.1).toNat (v67.1, v67.2.1, false, v67.2.2.2)) q0_l3.2.2.1 = some (v67.1, v67.2.1, false, v67.2.2.2) := at?_set e68
      have hS : Sat w75 B [orw 63 F63 4 A62 c63 (List.set q0_l3.2.1 (q0_l3.2.2.1).toNat (v67.1, v67.2.1, false, v67.2.2.2)), pts b0 (.cells #[pv61, .slice A62 (List.set q0_l3.2.1 (q0_l3.2.2.1).toNat (v67.1, v67.2.1, false, v67.2.2.2)).length c63, .int .i64 (Int.tmod (wi (q0_l3.2.2.1 + 1)) (q0_l3.2.1.length : Int)), .int .i64 q0_l3.2.2.2.1, .int .i64 q0_l3.2.2.2.2] 66 (0, 0)), optP O80 pv61 q0_l3.1] := by simpa only [hl76] using hS
      refine WR.runk [] [] [0] (L' := [(0, .pointer (some ⟨b0, 0, none⟩))]) (w' := w75) kr ?_
      refine WR.nil ?_
      refine At.blockNormal ?_
      refine At.blockNormal ?_
      have hS : Sat w75 B [pts b0 (.cells #[pv61, .slice A62 (List.set q0_l3.2.1 (q0_l3.2.2.1).toNat (v67.1, v67.2.1, false, v67.2.2.2)).length c63, .int .i64 (Int.tmod (wi (q0_l3.2.2.1 + 1)) (q0_l3.2.1.length : Int)), .int .i64 q0_l3.2.2.2.1, .int .i64 q0_l3.2.2.2.2] 66 (0, 0)), optP O80 pv61 q0_l3.1, orw 63 F63 4 A62 c63 (List.set q0_l3.2.1 (q0_l3.2.2.1).toNat (v67.1, v67.2.1, false, v67.2.2.2))] := hS.sel [1, 2, 0] kr
      have hS : Sat w75 B [O66 b0 (q0_l3.1, (List.set q0_l3.2.1 (q0_l3.2.2.1).toNat (v67.1, v67.2.1, false, v67.2.2.2)), Int.tmod (wi (q0_l3.2.2.1 + 1)) (q0_l3.2.1.length : Int), q0_l3.2.2.2.1, q0_l3.2.2.2.2)] := O66.close (q0_l3.1, (List.set q0_l3.2.1 (q0_l3.2.2.1).toNat (v67.1, v67.2.1, false, v67.2.2.2)), Int.tmod (wi (q0_l3.2.2.1 + 1)) (q0_l3.2.1.length : Int), q0_l3.2.2.2.1, q0_l3.2.2.2.2) pv61 A62 c63 hS
      have hS : Sat w75 B [O66 b0 (q0_l3.1, (List.set q0_l3.2.1 (q0_l3.2.2.1).toNat (v67.1, v67.2.1, false, v67.2.2.2)), Int.tmod (wi (q0_l3.2.2.1 + 1)) (q0_l3.2.1.length : Int), q0_l3.2.2.2.1, q0_l3.2.2.2.2)] := hS.sel [0] kr
      refine At.again ?_
      refine WL.weaken [0] (L' := [(0, .pointer (some ⟨b0, 0, none⟩))]) kr ?_
      exact ih (q0_l3.1, (List.set q0_l3.2.1 (q0_l3.2.2.1).toNat (v67.1, v67.2.1, false, v67.2.2.2)), Int.tmod (wi (q0_l3.2.2.1 + 1)) (q0_l3.2.1.length : Int), q0_l3.2.2.2.1, q0_l3.2.2.2.2) _ hS H
     ·replace H := ite_f H hb74
      refine WC.seq kr ?_
      refine WC.reg [0, 1] kr kr ?_
      refine WR.runk [0, 1] [] [2] (L' := [(2, .int .i64 q0_l3.2.2.1)]) (w' := w72) kr ?_
      refine WR.nil ?_
      refine At.go ?_
      refine WC.ret kr ?_
      refine At.blockRet ?_
      refine At.blockRet ?_
      refine At.thenRet ?_
      obtain rfl := Option.some.inj H
      have hS : Sat w72 B [gh K64, pts b0 (.cells #[pv61, .slice A62 q0_l3.2.1.length c63, .int .i64 (Int.tmod (wi (q0_l3.2.2.1 + 1)) (q0_l3.2.1.length : Int)), .int .i64 q0_l3.2.2.2.1, .int .i64 q0_l3.2.2.2.2] 66 (0, 0)), optP O80 pv61 q0_l3.1] := hS.sel [1, 0, 2] kr
      have hS : Sat w72 B [orw 63 F63 4 A62 c63 q0_l3.2.1, pts b0 (.cells #[pv61, .slice A62 q0_l3.2.1.length c63, .int .i64 (Int.tmod (wi (q0_l3.2.2.1 + 1)) (q0_l3.2.1.length : Int)), .int .i64 q0_l3.2.2.2.1, .int .i64 q0_l3.2.2.2.2] 66 (0, 0)), optP O80 pv61 q0_l3.1] := Sat.ungh hK65 hS
      have hS : Sat w72 B [pts b0 (.cells #[pv61, .slice A62 q0_l3.2.1.length c63, .int .i64 (Int.tmod (wi (q0_l3.2.2.1 + 1)) (q0_l3.2.1.length : Int)), .int .i64 q0_l3.2.2.2.1, .int .i64 q0_l3.2.2.2.2] 66 (0, 0)), optP O80 pv61 q0_l3.1, orw 63 F63 4 A62 c63 q0_l3.2.1] := hS.sel [1, 2, 0] kr
      have hS : Sat w72 B [O66 b0 (q0_l3.1, q0_l3.2.1, Int.tmod (wi (q0_l3.2.2.1 + 1)) (q0_l3.2.1.length : Int), q0_l3.2.2.2.1, q0_l3.2.2.2.2)] := O66.close (q0_l3.1, q0_l3.2.1, Int.tmod (wi (q0_l3.2.2.1 + 1)) (q0_l3.2.1.length : Int), q0_l3.2.2.2.1, q0_l3.2.2.2.2) pv61 A62 c63 hS
      have hS : Sat w72 B [O66 b0 (q0_l3.1, q0_l3.2.1, Int.tmod (wi (q0_l3.2.2.1 + 1)) (q0_l3.2.1.length : Int), q0_l3.2.2.2.1, q0_l3.2.2.2.2)] := hS.sel [0] kr
      refine At.weaken [2] (L' := [(2, .int .i64 q0_l3.2.2.1)]) kr ?_
      exact hn0 _ hS
theorem cache_Cache_free.calls (B : Rf) (w0 : World) (b0 : Nat) (p0 : (Option ((List (List Int)) × (List Int) × (List Int))) × (List (Int × (List Int) × Bool × Int)) × Int × Int × Int) (hS : Sat w0 B [O66 b0 p0]) (r : Int × ((Option ((List (List Int)) × (List Int) × (List Int))) × (List (Int × (List Int) × Bool × Int)) × Int × Int × Int)) (H : cache_Cache_free.f p0 = some r) :
    Calls Try.prog 23 #[.pointer (some ⟨b0, 0, none⟩)] w0 (fun e w' => ∃ v, e = .returned v ∧ cache_Cache_free.post B b0 p0 w0 r v w') := by
  unfold cache_Cache_free.f at H
  refine calls_of_WC (vs := [.pointer (some ⟨b0, 0, none⟩)]) Try.func23 (c := C23) (n := 56) kr kr kr ?_
  refine WC.seq kr ?_
  refine WC.reg [0] kr kr ?_
  refine WR.runk [0] [] [0] (L' := [(0, .pointer (some ⟨b0, 0, none⟩))]) (w' := w0) kr ?_
  refine WR.nil ?_
  refine At.go ?_
  refine WC.seq kr ?_
  refine WC.seq kr ?_
  refine WC.reg [0, 1, 2] kr kr ?_
  refine WR.runk [0] [1, 2] [0, 6] (L' := [(0, .pointer (some ⟨b0, 0, none⟩)), (6, .pointer (some ⟨b0, 0, none⟩))]) (w' := w0) kr ?_
  obtain ⟨r1, e2, H⟩ := bind_ex H
  refine WR.st (St.call kr (f := 20) (args := #[.pointer (some ⟨b0, 0, none⟩), .int .i64 (-1)]) kr (cache_Cache_at.calls w0 (.pointer (some ⟨b0, 0, none⟩)) (some p0) (Sat.rdAny 0 hS rfl (fun _ h => O66.rd _ _ _ h)) (-1) r1 e2) ?_)
  rintro _ w8 ⟨rfl, hS9⟩
  have hS : Sat w8 B [O66 b0 p0] := hS.ext hS9
  refine WR.runk [2] [] [0, 3] (L' := [(0, .pointer (some ⟨b0, 0, none⟩)), (3, .int .i64 r1)]) (w' := w8) kr ?_
  refine WR.nil ?_
  refine At.go ?_
  refine WC.seq kr ?_
  refine WC.reg [0, 1] kr kr ?_
  refine WR.runk [0, 1] [] [0, 3, 9] (L' := [(0, .pointer (some ⟨b0, 0, none⟩)), (3, .int .i64 r1), (9, .bool (decide (r1 ≥ 0)))]) (w' := w8) kr ?_
  refine WR.nil ?_
  refine At.go ?_
  refine WC.cond kr (decide (r1 ≥ 0)) kr kr (fun hb10 => ?_) (fun hb10 => ?_)
  ·replace H := ite_t H hb10
   refine WC.seq kr ?_
   refine WC.reg [0, 1] kr kr ?_
   refine WR.runk [0, 1] [] [2] (L' := [(2, .int .i64 r1)]) (w' := w8) kr ?_
   refine WR.nil ?_
   refine At.go ?_
   refine WC.ret kr ?_
   refine At.thenRet ?_
   obtain rfl := Option.some.inj H
   have hS : Sat w8 B [O66 b0 p0] := hS.sel [0] kr
   exact At.body [.int .i64 r1] kr ⟨_, rfl, rfl, hS⟩
  ·replace H := ite_f H hb10
   refine WC.skip kr ?_
   refine At.go ?_
   refine WC.seq kr ?_
   refine WC.seq kr ?_
   refine WC.reg [0, 1, 2, 3, 4, 5] kr kr ?_
   refine WR.runk [0, 1, 2] [3, 4, 5] [0, 13] (L' := [(0, .pointer (some ⟨b0, 0, none⟩)), (13, .pointer (some ⟨b0, 1, none⟩))]) (w' := w8) kr ?_
   obtain ⟨pv11, A12, c13, hS⟩ := O66.open hS
   have hS : Sat w8 B [pts b0 (.cells #[pv11, .slice A12 p0.2.1.length c13, .int .i64 p0.2.2.1, .int .i64 p0.2.2.2.1, .int .i64 p0.2.2.2.2] 66 (0, 0)), optP O80 pv11 p0.1, orw 63 F63 4 A12 c13 p0.2.1] := hS
   refine WR.st (St.ofR (RSt.loadObj (t := 64) (k := 1) (v := .slice A12 p0.2.1.length c13) (.tmp 13) kr kr kr 0 hS rfl kr rfl ?_))
   refine WR.runk [] [4, 5] [0, 14] (L' := [(0, .pointer (some ⟨b0, 0, none⟩)), (14, .slice A12 p0.2.1.length c13)]) (w' := w8) kr ?_
   refine WR.st (St.call kr (f := 35) (args := #[.slice A12 p0.2.1.length c13, .func (.func 36) #[] #[]]) kr (calls_of_WC (vs := [.slice A12 p0.2.1.length c13, .func (.func 36) #[] #[]]) Try.func35 (c := C35) (n := 9) kr kr kr ?_) (fun _ _ h => h))
   refine WC.seq kr ?_
   refine WC.reg [0] kr kr ?_
   refine WR.runk [0] [] [0, 1] (L' := [(0, .slice A12 p0.2.1.length c13), (1, .func (.func 36) #[] #[])]) (w' := w8) kr ?_
   refine WR.nil ?_
   refine At.go ?_
   refine WC.seq kr ?_
   refine WC.reg [0, 1, 2, 3, 4] kr kr ?_
   refine WR.runk [0, 1] [2, 3, 4] [5, 6] (L' := [(5, .slice A12 p0.2.1.length c13), (6, .func (.func 36) #[] #[])]) (w' := w8) kr ?_
   refine WR.st (St.call kr (f := 33) (args := #[.slice A12 p0.2.1.length c13, .func (.func 36) #[] #[]]) kr (calls_of_WC (vs := [.slice A12 p0.2.1.length c13, .func (.func 36) #[] #[]]) Try.func33 (c := C33) (n := 19) kr kr kr ?_) (fun _ _ h => h))
   refine WC.seq kr ?_
   refine WC.reg [0] kr kr ?_
   refine WR.runk [0] [] [0, 1] (L' := [(0, .slice A12 p0.2.1.length c13), (1, .func (.func 36) #[] #[])]) (w' := w8) kr ?_
   refine WR.nil ?_
   refine At.go ?_
   refine WC.seq kr ?_
   refine WC.seq kr ?_
   refine WC.reg [0, 1, 2] kr kr ?_
   refine WR.runk [0, 1, 2] [] [0, 1, 7, 8] (L' := [(0, .slice A12 p0.2.1.length c13), (1, .func (.func 36) #[] #[]), (7, .int .i64 (p0.2.1.length : Int)), (8, .int .i64 0)]) (w' := w8) kr ?_
   refine WR.nil ?_
   refine At.go ?_
   refine WC.block kr ?_
   have hS : Sat w8 B [orw 63 F63 4 A12 c13 p0.2.1, pts b0 (.cells #[pv11, .slice A12 p0.2.1.length c13, .int .i64 p0.2.2.1, .int .i64 p0.2.2.2.1, .int .i64 p0.2.2.2.2] 66 (0, 0)), optP O80 pv11 p0.1] := hS.sel [2, 0, 1] kr
   obtain ⟨K14, hK15, hS⟩ := Sat.gho hS
   have hS : Sat w8 B [gh K14, pts b0 (.cells #[pv11, .slice A12 p0.2.1.length c13, .int .i64 p0.2.2.1, .int .i64 p0.2.2.2.1, .int .i64 p0.2.2.2.2] 66 (0, 0)), optP O80 pv11 p0.1] := hS
   have R16 : rdS (rd K14 (.pair (.int .i64) (.pair (.slice 5 (.int .u8)) (.pair .bool (.int .i64))))) 4 K14 A12 c13 p0.2.1 := orw.rdS (κ := (.pair (.int .i64) (.pair (.slice 5 (.int .u8)) (.pair .bool (.int .i64))))) F63.rd hK15
   have hS : Sat w8 B [gh K14, pts b0 (.cells #[pv11, .slice A12 p0.2.1.length c13, .int .i64 p0.2.2.1, .int .i64 p0.2.2.2.1, .int .i64 p0.2.2.2.2] 66 (0, 0)), optP O80 pv11 p0.1] := hS.sel [0, 1, 2] kr
   obtain ⟨o27, e28, H⟩ := bind_ex H
   refine WC.loop kr ?_
   refine WL.weaken [0, 1, 7, 8] (L' := [(0, .slice A12 p0.2.1.length c13), (1, .func (.func 36) #[] #[]), (7, .int .i64 (p0.2.1.length : Int)), (8, .int .i64 0)]) kr ?_
   refine cache_Cache_free.l1_ok B b0 p0 pv11 A12 c13 K14 R16 o27 (fun o29 w31 ho32 hS => ?_) (fun o56 w58 ho59 hS => ?_) FU 0 _ hS e28
   ·subst ho32
    dsimp only at H
    refine At.blockRet ?_
    refine At.thenRet ?_
    refine At.bodyK [.int .i64 o29] (.int .i64 o29) kr rfl ?_
    refine WR.runk [3, 4] [] [4] (L' := [(4, .bool (decide (o29 ≥ 0)))]) (w' := w31) kr ?_
    refine WR.nil ?_
    refine At.go ?_
    refine WC.ret kr ?_
    refine At.bodyK [.bool (decide (o29 ≥ 0))] (.bool (decide (o29 ≥ 0))) kr rfl ?_
    refine WR.runk [5] [] [0, 16] (L' := [(0, .pointer (some ⟨b0, 0, none⟩)), (16, .bool (!(decide (o29 ≥ 0))))]) (w' := w31) kr ?_
    refine WR.nil ?_
    refine At.go ?_
    refine WC.cond kr (!(decide (o29 ≥ 0))) kr kr (fun hb33 => ?_) (fun hb33 => ?_)
    ·replace H := ite_t H hb33
     refine WC.seq kr ?_
     refine WC.reg [0] kr kr ?_
     refine WR.runk [0] [] [2] (L' := [(2, .int .i64 (-1))]) (w' := w31) kr ?_
     refine WR.nil ?_
     refine At.go ?_
     refine WC.ret kr ?_
     refine At.thenRet ?_
     obtain rfl := Option.some.inj H
     have hS : Sat w31 B [gh K14, pts b0 (.cells #[pv11, .slice A12 p0.2.1.length c13, .int .i64 p0.2.2.1, .int .i64 p0.2.2.2.1, .int .i64 p0.2.2.2.2] 66 (0, 0)), optP O80 pv11 p0.1] := hS.sel [1, 0, 2] kr
     have hS : Sat w31 B [orw 63 F63 4 A12 c13 p0.2.1, pts b0 (.cells #[pv11, .slice A12 p0.2.1.length c13, .int .i64 p0.2.2.1, .int .i64 p0.2.2.2.1, .int .i64 p0.2.2.2.2] 66 (0, 0)), optP O80 pv11 p0.1] := Sat.ungh hK15 hS
     have hS : Sat w31 B [pts b0 (.cells #[pv11, .slice A12 p0.2.1.length c13, .int .i64 p0.2.2.1, .int .i64 p0.2.2.2.1, .int .i64 p0.2.2.2.2] 66 (0, 0)), optP O80 pv11 p0.1, orw 63 F63 4 A12 c13 p0.2.1] := hS.sel [1, 2, 0] kr
     have hS : Sat w31 B [O66 b0 p0] := O66.close p0 pv11 A12 c13 hS
     have hS : Sat w31 B [O66 b0 p0] := hS.sel [0] kr
     exact At.body [.int .i64 (-1)] kr ⟨_, rfl, rfl, hS⟩
    ·replace H := ite_f H hb33
     refine WC.skip kr ?_
     refine At.go ?_
     refine WC.block kr ?_
     have hS : Sat w31 B [gh K14, pts b0 (.cells #[pv11, .slice A12 p0.2.1.length c13, .int .i64 p0.2.2.1, .int .i64 p0.2.2.2.1, .int .i64 p0.2.2.2.2] 66 (0, 0)), optP O80 pv11 p0.1] := hS.sel [1, 0, 2] kr
     have hS : Sat w31 B [orw 63 F63 4 A12 c13 p0.2.1, pts b0 (.cells #[pv11, .slice A12 p0.2.1.length c13, .int .i64 p0.2.2.1, .int .i64 p0.2.2.2.1, .int .i64 p0.2.2.2.2] 66 (0, 0)), optP O80 pv11 p0.1] := Sat.ungh hK15 hS
     have hS : Sat w31 B [pts b0 (.cells #[pv11, .slice A12 p0.2.1.length c13, .int .i64 p0.2.2.1, .int .i64 p0.2.2.2.1, .int .i64 p0.2.2.2.2] 66 (0, 0)), optP O80 pv11 p0.1, orw 63 F63 4 A12 c13 p0.2.1] := hS.sel [1, 2, 0] kr
     have hS : Sat w31 B [O66 b0 p0] := O66.close p0 pv11 A12 c13 hS
     have hS : Sat w31 B [O66 b0 p0] := hS.sel [0] kr
     obtain ⟨o51, e52, H⟩ := bind_ex H
     refine WC.loop kr ?_
     refine WL.weaken [0] (L' := [(0, .pointer (some ⟨b0, 0, none⟩))]) kr ?_
     refine cache_Cache_free.l2_ok B b0 o51 (fun w54 hS => ?_) FU p0 _ hS e52
     refine At.blockRet ?_
     obtain rfl := Option.some.inj H
     have hS : Sat w54 B [O66 b0 o51.2] := hS.sel [0] kr
     exact At.body [.int .i64 o51.1] kr ⟨_, rfl, rfl, hS⟩
   ·subst ho59
    dsimp only at H
    refine At.hit ?_
    refine At.go ?_
    refine WC.seq kr ?_
    refine WC.reg [0] kr kr ?_
    refine WR.runk [0] [] [4] (L' := [(4, .int .i64 (-1))]) (w' := w58) kr ?_
    refine WR.nil ?_
    refine At.go ?_
    refine WC.ret kr ?_
    refine At.bodyK [.int .i64 (-1)] (.int .i64 (-1)) kr rfl ?_
    refine WR.runk [3, 4] [] [4] (L' := [(4, .bool (decide ((-1) ≥ 0)))]) (w' := w58) kr ?_
    refine WR.nil ?_
    refine At.go ?_
    refine WC.ret kr ?_
    refine At.bodyK [.bool (decide ((-1) ≥ 0))] (.bool (decide ((-1) ≥ 0))) kr rfl ?_
    refine WR.runk [5] [] [0, 16] (L' := [(0, .pointer (some ⟨b0, 0, none⟩)), (16, .bool (!(decide ((-1) ≥ 0))))]) (w' := w58) kr ?_
    refine WR.nil ?_
    refine At.go ?_
    refine WC.cond kr (!(decide ((-1) ≥ 0))) kr kr (fun hb60 => ?_) (fun hb60 => ?_)
    ·replace H := ite_t H hb60
     refine WC.seq kr ?_
     refine WC.reg [0] kr kr ?_
     refine WR.runk [0] [] [2] (L' := [(2, .int .i64 (-1))]) (w' := w58) kr ?_
     refine WR.nil ?_
     refine At.go ?_
     refine WC.ret kr ?_
     refine At.thenRet ?_
     obtain rfl := Option.some.inj H
     have hS : Sat w58 B [gh K14, pts b0 (.cells #[pv11, .slice A12 p0.2.1.length c13, .int .i64 p0.2.2.1, .int .i64 p0.2.2.2.1, .int .i64 p0.2.2.2.2] 66 (0, 0)), optP O80 pv11 p0.1] := hS.sel [1, 0, 2] kr
     have hS : Sat w58 B [orw 63 F63 4 A12 c13 p0.2.1, pts b0 (.cells #[pv11, .slice A12 p0.2.1.length c13, .int .i64 p0.2.2.1, .int .i64 p0.2.2.2.1, .int .i64 p0.2.2.2.2] 66 (0, 0)), optP O80 pv11 p0.1] := Sat.ungh hK15 hS
     have hS : Sat w58 B [pts b0 (.cells #[pv11, .slice A12 p0.2.1.length c13, .int .i64 p0.2.2.1, .int .i64 p0.2.2.2.1, .int .i64 p0.2.2.2.2] 66 (0, 0)), optP O80 pv11 p0.1, orw 63 F63 4 A12 c13 p0.2.1] := hS.sel [1, 2, 0] kr
     have hS : Sat w58 B [O66 b0 p0] := O66.close p0 pv11 A12 c13 hS
     have hS : Sat w58 B [O66 b0 p0] := hS.sel [0] kr
     exact At.body [.int .i64 (-1)] kr ⟨_, rfl, rfl, hS⟩
    ·replace H := ite_f H hb60
     refine WC.skip kr ?_
     refine At.go ?_
     refine WC.block kr ?_
     have hS : Sat w58 B [gh K14, pts b0 (.cells #[pv11, .slice A12 p0.2.1.length c13, .int .i64 p0.2.2.1, .int .i64 p0.2.2.2.1, .int .i64 p0.2.2.2.2] 66 (0, 0)), optP O80 pv11 p0.1] := hS.sel [1, 0, 2] kr
     have hS : Sat w58 B [orw 63 F63 4 A12 c13 p0.2.1, pts b0 (.cells #[pv11, .slice A12 p0.2.1.length c13, .int .i64 p0.2.2.1, .int .i64 p0.2.2.2.1, .int .i64 p0.2.2.2.2] 66 (0, 0)), optP O80 pv11 p0.1] := Sat.ungh hK15 hS
     have hS : Sat w58 B [pts b0 (.cells #[pv11, .slice A12 p0.2.1.length c13, .int .i64 p0.2.2.1, .int .i64 p0.2.2.2.1, .int .i64 p0.2.2.2.2] 66 (0, 0)), optP O80 pv11 p0.1, orw 63 F63 4 A12 c13 p0.2.1] := hS.sel [1, 2, 0] kr
     have hS : Sat w58 B [O66 b0 p0] := O66.close p0 pv11 A12 c13 hS
     have hS : Sat w58 B [O66 b0 p0] := hS.sel [0] kr
     obtain ⟨o78, e79, H⟩ := bind_ex H
     refine WC.loop kr ?_
     refine WL.weaken [0] (L' := [(0, .pointer (some ⟨b0, 0, none⟩))]) kr ?_
     refine cache_Cache_free.l3_ok B b0 o78 (fun w81 hS => ?_) FU p0 _ hS e79
     refine At.blockRet ?_
     obtain rfl := Option.some.inj H
     have hS : Sat w81 B [O66 b0 o78.2] := hS.sel [0] kr
     exact At.body [.int .i64 o78.1] kr ⟨_, rfl, rfl, hS⟩
end Go.Proofs.Ytbcdcpkofgfofaa
