/-
  Printed by gen.py (my own tool): for each Go function a plain Lean function and the proof that a call of it does what that function says.
-/
import Derived.Test.YtbcdcpkofgfofaaGP1b
set_option linter.unusedVariables false
set_option linter.unusedSimpArgs false
set_option maxRecDepth 100000
namespace Go.Proofs.Ytbcdcpkofgfofaa
open Go Go.Gol
/-! ### 10 (*colophon/cache.Cache).Hold -/
def cache_Cache_Hold.f (p0 : (Option ((List (List Int)) × (List Int) × (List Int))) × (List (Int × (List Int) × Bool × Int)) × Int × Int × Int) (a1 : Int) : Option ((List Int) × Bool × Int × ((Option ((List (List Int)) × (List Int) × (List Int))) × (List (Int × (List Int) × Bool × Int)) × Int × Int × Int)) := (if decide (a1 ≥ 0) then ((cache_Cache_at.f (some p0) a1).bind fun r2 => (if decide (r2 ≥ 0) then ((at? p0.2.1 r2).bind fun v18 => ((slices_Clone.f (((v18.1, v18.2.1, v18.2.2.1, wi (v18.2.2.2 + 1)).1, (v18.1, v18.2.1, v18.2.2.1, wi (v18.2.2.2 + 1)).2.1, true, (v18.1, v18.2.1, v18.2.2.1, wi (v18.2.2.2 + 1)).2.2.2).2.1)).bind fun r33 => some (r33, true, 0, (p0.1, (List.set (List.set p0.2.1 r2.toNat (v18.1, v18.2.1, v18.2.2.1, wi (v18.2.2.2 + 1))) r2.toNat ((v18.1, v18.2.1, v18.2.2.1, wi (v18.2.2.2 + 1)).1, (v18.1, v18.2.1, v18.2.2.1, wi (v18.2.2.2 + 1)).2.1, true, (v18.1, v18.2.1, v18.2.2.1, wi (v18.2.2.2 + 1)).2.2.2)), p0.2.2.1, wi (p0.2.2.2.1 + 1), p0.2.2.2.2)))) else ((image_Image_Page.f p0.1 a1).bind fun r47 => (if (r47.2 != 0) then some (([] : List Int), false, r47.2, p0) else ((cache_Cache_free.f p0).bind fun r59 => (if decide (r59.1 < 0) then some (([] : List Int), false, 70, r59.2) else ((at? r59.2.2.1 r59.1).bind fun v76 => ((slices_Clone.f r47.1).bind fun r86 => some (r86, false, 0, (r59.2.1, (List.set r59.2.2.1 (r59.1).toNat (a1, r47.1, true, 1)), r59.2.2.2.1, r59.2.2.2.2.1, wi (r59.2.2.2.2.2 + 1))))))))))) else ((image_Image_Page.f p0.1 a1).bind fun r100 => (if (r100.2 != 0) then some (([] : List Int), false, r100.2, p0) else ((cache_Cache_free.f p0).bind fun r112 => (if decide (r112.1 < 0) then some (([] : List Int), false, 70, r112.2) else ((at? r112.2.2.1 r112.1).bind fun v129 => ((slices_Clone.f r100.1).bind fun r139 => some (r139, false, 0, (r112.2.1, (List.set r112.2.2.1 (r112.1).toNat (a1, r100.1, true, 1)), r112.2.2.2.1, r112.2.2.2.2.1, wi (r112.2.2.2.2.2 + 1))))))))))
def cache_Cache_Hold.post (B : Rf) (b0 : Nat) (p0 : (Option ((List (List Int)) × (List Int) × (List Int))) × (List (Int × (List Int) × Bool × Int)) × Int × Int × Int) (w : World) (r : (List Int) × Bool × Int × ((Option ((List (List Int)) × (List Int) × (List Int))) × (List (Int × (List Int) × Bool × Int)) × Int × Int × Int)) (v : Value) (w' : World) : Prop := ∃ (A0' : Option Addr) (c0' : Nat), v = .tuple #[.slice A0' r.1.length c0', .bool r.2.1, .int .i64 r.2.2.1] ∧ Sat w' B [O66 b0 r.2.2.2, osl 5 (r0 (.int .u8)) 1 A0' c0' r.1]
theorem cache_Cache_Hold.calls (B : Rf) (w0 : World) (b0 : Nat) (p0 : (Option ((List (List Int)) × (List Int) × (List Int))) × (List (Int × (List Int) × Bool × Int)) × Int × Int × Int) (hS : Sat w0 B [O66 b0 p0]) (a1 : Int) (r : (List Int) × Bool × Int × ((Option ((List (List Int)) × (List Int) × (List Int))) × (List (Int × (List Int) × Bool × Int)) × Int × Int × Int)) (H : cache_Cache_Hold.f p0 a1 = some r) :
    Calls Try.prog 10 #[.pointer (some ⟨b0, 0, none⟩), .int .i64 a1] w0 (fun e w' => ∃ v, e = .returned v ∧ cache_Cache_Hold.post B b0 p0 w0 r v w') := by
  unfold cache_Cache_Hold.f at H
  refine calls_of_WC (vs := [.pointer (some ⟨b0, 0, none⟩), .int .i64 a1]) Try.func10 (c := C10) (n := 83) kr kr kr ?_
  refine WC.seq kr ?_
  refine WC.reg [0, 1, 2] kr kr ?_
  refine WR.runk [0, 1, 2] [] [0, 1] (L' := [(0, .pointer (some ⟨b0, 0, none⟩)), (1, .int .i64 a1)]) (w' := w0) kr ?_
  refine WR.nil ?_
  refine At.go ?_
  refine WC.seq kr ?_
  refine WC.seq kr ?_
  refine WC.reg [0, 1] kr kr ?_
  refine WR.runk [0, 1] [] [0, 1, 13] (L' := [(0, .pointer (some ⟨b0, 0, none⟩)), (1, .int .i64 a1), (13, .bool false)]) (w' := w0) kr ?_
  refine WR.nil ?_
  refine At.go ?_
  refine WC.condF kr kr kr ?_
  refine WC.skip kr ?_
  refine At.go ?_
  refine WC.seq kr ?_
  refine WC.seq kr ?_
  refine WC.reg [0, 1] kr kr ?_
  refine WR.runk [0, 1] [] [0, 1, 15] (L' := [(0, .pointer (some ⟨b0, 0, none⟩)), (1, .int .i64 a1), (15, .bool (decide (a1 ≥ 0)))]) (w' := w0) kr ?_
  refine WR.nil ?_
  refine At.go ?_
  refine WC.cond kr (decide (a1 ≥ 0)) kr kr (fun hb1 => ?_) (fun hb1 => ?_)
  ·replace H := ite_t H hb1
   refine WC.seq kr ?_
   refine WC.reg [0, 1, 2, 3] kr kr ?_
   refine WR.runk [0, 1] [2, 3] [0, 1, 16, 17] (L' := [(0, .pointer (some ⟨b0, 0, none⟩)), (1, .int .i64 a1), (16, .pointer (some ⟨b0, 0, none⟩)), (17, .int .i64 a1)]) (w' := w0) kr ?_
   obtain ⟨r2, e3, H⟩ := bind_ex H
   refine WR.st (St.call kr (f := 20) (args := #[.pointer (some ⟨b0, 0, none⟩), .int .i64 a1]) kr (cache_Cache_at.calls w0 (.pointer (some ⟨b0, 0, none⟩)) (some p0) (Sat.rdAny 0 hS rfl (fun _ h => O66.rd _ _ _ h)) a1 r2 e3) ?_)
   rintro _ w9 ⟨rfl, hS10⟩
   have hS : Sat w9 B [O66 b0 p0] := hS.ext hS10
   refine WR.runk [3] [] [0, 1, 7] (L' := [(0, .pointer (some ⟨b0, 0, none⟩)), (1, .int .i64 a1), (7, .int .i64 r2)]) (w' := w9) kr ?_
   refine WR.nil ?_
   refine At.go ?_
   refine WC.seq kr ?_
   refine WC.reg [0, 1] kr kr ?_
   refine WR.runk [0, 1] [] [0, 1, 7, 20] (L' := [(0, .pointer (some ⟨b0, 0, none⟩)), (1, .int .i64 a1), (7, .int .i64 r2), (20, .bool (decide (r2 ≥ 0)))]) (w' := w9) kr ?_
   refine WR.nil ?_
   refine At.go ?_
   refine WC.cond kr (decide (r2 ≥ 0)) kr kr (fun hb11 => ?_) (fun hb11 => ?_)
   ·replace H := ite_t H hb11
    refine WC.seq kr ?_
    refine WC.reg [0, 1, 2, 3, 4, 5, 6] kr kr ?_
    refine WR.runk [0, 1, 2] [3, 4, 5, 6] [0, 7, 23] (L' := [(0, .pointer (some ⟨b0, 0, none⟩)), (7, .int .i64 r2), (23, .pointer (some ⟨b0, 1, none⟩))]) (w' := w9) kr ?_
    obtain ⟨pv12, A13, c14, hS⟩ := O66.open hS
    have hS : Sat w9 B [pts b0 (.cells #[pv12, .slice A13 p0.2.1.length c14, .int .i64 p0.2.2.1, .int .i64 p0.2.2.2.1, .int .i64 p0.2.2.2.2] 66 (0, 0)), optP O80 pv12 p0.1, orw 63 F63 4 A13 c14 p0.2.1] := hS
    refine WR.st (St.ofR (RSt.loadObj (t := 64) (k := 1) (v := .slice A13 p0.2.1.length c14) (.tmp 23) kr kr kr 0 hS rfl kr rfl ?_))
    refine WR.runk [4] [5, 6] [0, 24, 25] (L' := [(0, .pointer (some ⟨b0, 0, none⟩)), (24, .slice A13 p0.2.1.length c14), (25, .int .i64 r2)]) (w' := w9) kr ?_
    have hS : Sat w9 B [orw 63 F63 4 A13 c14 p0.2.1, pts b0 (.cells #[pv12, .slice A13 p0.2.1.length c14, .int .i64 p0.2.2.1, .int .i64 p0.2.2.2.1, .int .i64 p0.2.2.2.2] 66 (0, 0)), optP O80 pv12 p0.1] := hS.sel [2, 0, 1] kr
    obtain ⟨K15, hK16, hS⟩ := Sat.gho hS
    have hS : Sat w9 B [gh K15, pts b0 (.cells #[pv12, .slice A13 p0.2.1.length c14, .int .i64 p0.2.2.1, .int .i64 p0.2.2.2.1, .int .i64 p0.2.2.2.2] 66 (0, 0)), optP O80 pv12 p0.1] := hS
    have R17 : rdS (rd K15 (.pair (.int .i64) (.pair (.slice 5 (.int .u8)) (.pair .bool (.int .i64))))) 4 K15 A13 c14 p0.2.1 := orw.rdS (κ := (.pair (.int .i64) (.pair (.slice 5 (.int .u8)) (.pair .bool (.int .i64))))) F63.rd hK16
    obtain ⟨v18, e19, H⟩ := bind_ex H
    refine WR.st (St.ofP (PSt.idx (k := .i64) (.tmp 24) (.tmp 25) kr kr E64 kr kr (rdS.upd R17 (Sat.ghAt 0 hS rfl)) e19 ?_))
    refine WR.runk [6] [] [0, 8] (L' := [(0, .pointer (some ⟨b0, 0, none⟩)), (8, .pointer (some (adr A13 r2.toNat 4)))]) (w' := w9) kr ?_
    refine WR.nil ?_
    refine At.go ?_
    refine WC.seq kr ?_
    refine WC.reg [0, 1, 2, 3, 4, 5, 6, 7] kr kr ?_
    refine WR.runk [0, 1, 2] [3, 4, 5, 6, 7] [0, 8, 27, 29] (L' := [(0, .pointer (some ⟨b0, 0, none⟩)), (8, .pointer (some (adr A13 r2.toNat 4))), (27, .pointer (some (adr A13 r2.toNat 4))), (29, .pointer (some ((adr A13 r2.toNat 4).add 3)))]) (w' := w9) kr ?_
    refine WR.st (St.ofR (RSt.loadPartV (t := 3) (κ := (.pair (.int .i64) (.pair (.slice 5 (.int .u8)) (.pair .bool (.int .i64))))) (.tmp 29) 3 kr kr kr kr R17 e19 (Sat.ghAt 0 hS rfl) (u := .int .i64 v18.2.2.2) (fun cv hcv => by obtain ⟨_, _, rfl, _⟩ := F63.un hcv; rfl) ?_))
    refine WR.runk [4, 5, 6] [7] [0, 8, 31, 33] (L' := [(0, .pointer (some ⟨b0, 0, none⟩)), (8, .pointer (some (adr A13 r2.toNat 4))), (31, .int .i64 (wi (v18.2.2.2 + 1))), (33, .pointer (some ((adr A13 r2.toNat 4).add 3)))]) (w' := w9) kr ?_
    have hS : Sat w9 B [orw 63 F63 4 A13 c14 p0.2.1, pts b0 (.cells #[pv12, .slice A13 p0.2.1.length c14, .int .i64 p0.2.2.1, .int .i64 p0.2.2.2.1, .int .i64 p0.2.2.2.2] 66 (0, 0)), optP O80 pv12 p0.1] := Sat.ungh hK16 hS
    refine WR.st (St.storePartRow (t := 3) (v' := (v18.1, v18.2.1, v18.2.2.1, wi (v18.2.2.2 + 1))) (.tmp 33) (.tmp 31) 3 kr kr kr hS kr kr kr kr e19 (fun cv H h => by obtain ⟨a, rfl, h⟩ := h; exact ⟨a, rfl, h⟩) (fun w20 hS => ?_))
    have hS : Sat w20 B [orw 63 F63 4 A13 c14 (List.set p0.2.1 r2.toNat (v18.1, v18.2.1, v18.2.2.1, wi (v18.2.2.2 + 1))), pts b0 (.cells #[pv12, .slice A13 p0.2.1.length c14, .int .i64 p0.2.2.1, .int .i64 p0.2.2.2.1, .int .i64 p0.2.2.2.2] 66 (0, 0)), optP O80 pv12 p0.1] := hS
    have hl21 : List.length (List.set p0.2.1 r2.toNat (v18.1, v18.2.1, v18.2.2.1, wi (v18.2.2.2 + 1))) = List.length p0.2.1 := List.length_set
    have e22 : at? (List.set p0.2.1 r2.toNat (v18.1, v18.2.1, v18.2.2.1, wi (v18.2.2.2 + 1))) r2 = some (v18.1, v18.2.1, v18.2.2.1, wi (v18.2.2.2 + 1)) := at?_set e19
    have hS : Sat w20 B [orw 63 F63 4 A13 c14 (List.set p0.2.1 r2.toNat (v18.1, v18.2.1, v18.2.2.1, wi (v18.2.2.2 + 1))), pts b0 (.cells #[pv12, .slice A13 (List.set p0.2.1 r2.toNat (v18.1, v18.2.1, v18.2.2.1, wi (v18.2.2.2 + 1))).length c14, .int .i64 p0.2.2.1, .int .i64 p0.2.2.2.1, .int .i64 p0.2.2.2.2] 66 (0, 0)), optP O80 pv12 p0.1] := by simpa only [hl21] using hS
    refine WR.runk [] [] [0, 8] (L' := [(0, .pointer (some ⟨b0, 0, none⟩)), (8, .pointer (some (adr A13 r2.toNat 4)))]) (w' := w20) kr ?_
    refine WR.nil ?_
    refine At.go ?_
    refine WC.seq kr ?_
    refine WC.reg [0, 1, 2, 3] kr kr ?_
    refine WR.runk [0, 1, 2] [3] [0, 8, 36] (L' := [(0, .pointer (some ⟨b0, 0, none⟩)), (8, .pointer (some (adr A13 r2.toNat 4))), (36, .pointer (some ((adr A13 r2.toNat 4).add 2)))]) (w' := w20) kr ?_
    refine WR.st (St.storePartRow (t := 4) (v' := ((v18.1, v18.2.1, v18.2.2.1, wi (v18.2.2.2 + 1)).1, (v18.1, v18.2.1, v18.2.2.1, wi (v18.2.2.2 + 1)).2.1, true, (v18.1, v18.2.1, v18.2.2.1, wi (v18.2.2.2 + 1)).2.2.2)) (.tmp 36) (.const (.bool true)) 2 kr kr kr hS kr kr kr kr e22 (fun cv H h => by obtain ⟨a, rfl, h⟩ := h; exact ⟨a, rfl, h⟩) (fun w23 hS => ?_))
    have hS : Sat w23 B [orw 63 F63 4 A13 c14 (List.set (List.set p0.2.1 r2.toNat (v18.1, v18.2.1, v18.2.2.1, wi (v18.2.2.2 + 1))) r2.toNat ((v18.1, v18.2.1, v18.2.2.1, wi (v18.2.2.2 + 1)).1, (v18.1, v18.2.1, v18.2.2.1, wi (v18.2.2.2 + 1)).2.1, true, (v18.1, v18.2.1, v18.2.2.1, wi (v18.2.2.2 + 1)).2.2.2)), pts b0 (.cells #[pv12, .slice A13 (List.set p0.2.1 r2.toNat (v18.1, v18.2.1, v18.2.2.1, wi (v18.2.2.2 + 1))).length c14, .int .i64 p0.2.2.1, .int .i64 p0.2.2.2.1, .int .i64 p0.2.2.2.2] 66 (0, 0)), optP O80 pv12 p0.1] := hS
    have hl24 : List.length (List.set (List.set p0.2.1 r2.toNat (v18.1, v18.2.1, v18.2.2.1, wi (v18.2.2.2 + 1))) r2.toNat ((v18.1, v18.2.1, v18.2.2.1, wi (v18.2.2.2 + 1)).1, (v18.1, v18.2.1, v18.2.2.1, wi (v18.2.2.2 + 1)).2.1, true, (v18.1, v18.2.1, v18.2.2.1, wi (v18.2.2.2 + 1)).2.2.2)) = List.length (List.set p0.2.1 r2.toNat (v18.1, v18.2.1, v18.2.2.1, wi (v18.2.2.2 + 1))) := List.length_set
    have e25 : at? (List.set (List.set p0.2.1 r2.toNat (v18.1, v18.2.1, v18.2.2.1, wi (v18.2.2.2 + 1))) r2.toNat ((v18.1, v18.2.1, v18.2.2.1, wi (v18.2.2.2 + 1)).1, (v18.1, v18.2.1, v18.2.2.1, wi (v18.2.2.2 + 1)).2.1, true, (v18.1, v18.2.1, v18.2.2.1, wi (v18.2.2.2 + 1)).2.2.2)) r2 = some ((v18.1, v18.2.1, v18.2.2.1, wi (v18.2.2.2 + 1)).1, (v18.1, v18.2.1, v18.2.2.1, wi (v18.2.2.2 + 1)).2.1, true, (v18.1, v18.2.1, v18.2.2.1, wi (v18.2.2.2 + 1)).2.2.2) := at?_set e22
    have hS : Sat w23 B [orw 63 F63 4 A13 c14 (List.set (List.set p0.2.1 r2.toNat (v18.1, v18.2.1, v18.2.2.1, wi (v18.2.2.2 + 1))) r2.toNat ((v18.1, v18.2.1, v18.2.2.1, wi (v18.2.2.2 + 1)).1, (v18.1, v18.2.1, v18.2.2.1, wi (v18.2.2.2 + 1)).2.1, true, (v18.1, v18.2.1, v18.2.2.1, wi (v18.2.2.2 + 1)).2.2.2)), pts b0 (.cells #[pv12, .slice A13 (List.set (List.set p0.2.1 r2.toNat (v18.1, v18.2.1, v18.2.2.1, wi (v18.2.2.2 + 1))) r2.toNat ((v18.1, v18.2.1, v18.2.2.1, wi (v18.2.2.2 + 1)).1, (v18.1, v18.2.1, v18.2.2.1, wi (v18.2.2.2 + 1)).2.1, true, (v18.1, v18.2.1, v18.2.2.1, wi (v18.2.2.2 + 1)).2.2.2)).length c14, .int .i64 p0.2.2.1, .int .i64 p0.2.2.2.1, .int .i64 p0.2.2.2.2] 66 (0, 0)), optP O80 pv12 p0.1] := by simpa only [hl24] using hS
    refine WR.runk [] [] [0, 8] (L' := [(0, .pointer (some ⟨b0, 0, none⟩)), (8, .pointer (some (adr A13 r2.toNat 4)))]) (w' := w23) kr ?_
    refine WR.nil ?_
    refine At.go ?_
    refine WC.seq kr ?_
    refine WC.reg [0, 1, 2, 3, 4, 5, 6, 7] kr kr ?_
    refine WR.runk [0, 1, 2] [3, 4, 5, 6, 7] [8, 37, 39] (L' := [(8, .pointer (some (adr A13 r2.toNat 4))), (37, .pointer (some ⟨b0, 0, none⟩)), (39, .pointer (some ⟨b0, 3, none⟩))]) (w' := w23) kr ?_
    refine WR.st (St.ofR (RSt.loadObj (t := 3) (k := 3) (v := .int .i64 p0.2.2.2.1) (.tmp 39) kr kr kr 1 hS rfl kr rfl ?_))
    refine WR.runk [4, 5, 6] [7] [8, 41, 43] (L' := [(8, .pointer (some (adr A13 r2.toNat 4))), (41, .int .i64 (wi (p0.2.2.2.1 + 1))), (43, .pointer (some ⟨b0, 3, none⟩))]) (w' := w23) kr ?_
    have hS : Sat w23 B [pts b0 (.cells #[pv12, .slice A13 (List.set (List.set p0.2.1 r2.toNat (v18.1, v18.2.1, v18.2.2.1, wi (v18.2.2.2 + 1))) r2.toNat ((v18.1, v18.2.1, v18.2.2.1, wi (v18.2.2.2 + 1)).1, (v18.1, v18.2.1, v18.2.2.1, wi (v18.2.2.2 + 1)).2.1, true, (v18.1, v18.2.1, v18.2.2.1, wi (v18.2.2.2 + 1)).2.2.2)).length c14, .int .i64 p0.2.2.1, .int .i64 p0.2.2.2.1, .int .i64 p0.2.2.2.2] 66 (0, 0)), orw 63 F63 4 A13 c14 (List.set (List.set p0.2.1 r2.toNat (v18.1, v18.2.1, v18.2.2.1, wi (v18.2.2.2 + 1))) r2.toNat ((v18.1, v18.2.1, v18.2.2.1, wi (v18.2.2.2 + 1)).1, (v18.1, v18.2.1, v18.2.2.1, wi (v18.2.2.2 + 1)).2.1, true, (v18.1, v18.2.1, v18.2.2.1, wi (v18.2.2.2 + 1)).2.2.2)), optP O80 pv12 p0.1] := hS.sel [1, 0, 2] kr
    refine WR.st (St.storeObj (t := 3) (k := 3) (cur' := #[pv12, .slice A13 (List.set (List.set p0.2.1 r2.toNat (v18.1, v18.2.1, v18.2.2.1, wi (v18.2.2.2 + 1))) r2.toNat ((v18.1, v18.2.1, v18.2.2.1, wi (v18.2.2.2 + 1)).1, (v18.1, v18.2.1, v18.2.2.1, wi (v18.2.2.2 + 1)).2.1, true, (v18.1, v18.2.1, v18.2.2.1, wi (v18.2.2.2 + 1)).2.2.2)).length c14, .int .i64 p0.2.2.1, .int .i64 (wi (p0.2.2.2.1 + 1)), .int .i64 p0.2.2.2.2]) (.tmp 43) (.tmp 41) kr kr kr hS kr kr kr rfl rfl (fun w26 hS => ?_))
    refine WR.runk [] [] [8] (L' := [(8, .pointer (some (adr A13 r2.toNat 4)))]) (w' := w26) kr ?_
    refine WR.nil ?_
    refine At.go ?_
    refine WC.seq kr ?_
    refine WC.reg [0, 1, 2, 3, 4, 5, 6, 7] kr kr ?_
    refine WR.runk [0, 1, 2] [3, 4, 5, 6, 7] [46] (L' := [(46, .pointer (some ((adr A13 r2.toNat 4).add 1)))]) (w' := w26) kr ?_
    have hS : Sat w26 B [orw 63 F63 4 A13 c14 (List.set (List.set p0.2.1 r2.toNat (v18.1, v18.2.1, v18.2.2.1, wi (v18.2.2.2 + 1))) r2.toNat ((v18.1, v18.2.1, v18.2.2.1, wi (v18.2.2.2 + 1)).1, (v18.1, v18.2.1, v18.2.2.1, wi (v18.2.2.2 + 1)).2.1, true, (v18.1, v18.2.1, v18.2.2.1, wi (v18.2.2.2 + 1)).2.2.2)), pts b0 (.cells #[pv12, .slice A13 (List.set (List.set p0.2.1 r2.toNat (v18.1, v18.2.1, v18.2.2.1, wi (v18.2.2.2 + 1))) r2.toNat ((v18.1, v18.2.1, v18.2.2.1, wi (v18.2.2.2 + 1)).1, (v18.1, v18.2.1, v18.2.2.1, wi (v18.2.2.2 + 1)).2.1, true, (v18.1, v18.2.1, v18.2.2.1, wi (v18.2.2.2 + 1)).2.2.2)).length c14, .int .i64 p0.2.2.1, .int .i64 (wi (p0.2.2.2.1 + 1)), .int .i64 p0.2.2.2.2] 66 (0, 0)), optP O80 pv12 p0.1] := hS.sel [1, 0, 2] kr
    obtain ⟨K27, hK28, hS⟩ := Sat.gho hS
    have hS : Sat w26 B [gh K27, pts b0 (.cells #[pv12, .slice A13 (List.set (List.set p0.2.1 r2.toNat (v18.1, v18.2.1, v18.2.2.1, wi (v18.2.2.2 + 1))) r2.toNat ((v18.1, v18.2.1, v18.2.2.1, wi (v18.2.2.2 + 1)).1, (v18.1, v18.2.1, v18.2.2.1, wi (v18.2.2.2 + 1)).2.1, true, (v18.1, v18.2.1, v18.2.2.1, wi (v18.2.2.2 + 1)).2.2.2)).length c14, .int .i64 p0.2.2.1, .int .i64 (wi (p0.2.2.2.1 + 1)), .int .i64 p0.2.2.2.2] 66 (0, 0)), optP O80 pv12 p0.1] := hS
    have R29 : rdS (rd K27 (.pair (.int .i64) (.pair (.slice 5 (.int .u8)) (.pair .bool (.int .i64))))) 4 K27 A13 c14 (List.set (List.set p0.2.1 r2.toNat (v18.1, v18.2.1, v18.2.2.1, wi (v18.2.2.2 + 1))) r2.toNat ((v18.1, v18.2.1, v18.2.2.1, wi (v18.2.2.2 + 1)).1, (v18.1, v18.2.1, v18.2.2.1, wi (v18.2.2.2 + 1)).2.1, true, (v18.1, v18.2.1, v18.2.2.1, wi (v18.2.2.2 + 1)).2.2.2)) := orw.rdS (κ := (.pair (.int .i64) (.pair (.slice 5 (.int .u8)) (.pair .bool (.int .i64))))) F63.rd hK28
    refine WR.st (St.ofR (RSt.loadPartR (t := 31) (κ := (.pair (.int .i64) (.pair (.slice 5 (.int .u8)) (.pair .bool (.int .i64))))) (.tmp 46) 1 kr kr kr kr R29 e25 (Sat.ghAt 0 hS rfl) (fun cv hcv => ?_)))
    obtain ⟨A30, c31, rfl, R32⟩ := F63.un hcv
    replace R32 : rdS (r0 (.int .u8)) 1 K27 A30 c31 (((v18.1, v18.2.1, v18.2.2.1, wi (v18.2.2.2 + 1)).1, (v18.1, v18.2.1, v18.2.2.1, wi (v18.2.2.2 + 1)).2.1, true, (v18.1, v18.2.1, v18.2.2.1, wi (v18.2.2.2 + 1)).2.2.2).2.1) := R32
    clear hcv
    refine ⟨_, rfl, ?_⟩
    refine WR.runk [] [4, 5, 6, 7] [47] (L' := [(47, .slice A30 (((v18.1, v18.2.1, v18.2.2.1, wi (v18.2.2.2 + 1)).1, (v18.1, v18.2.1, v18.2.2.1, wi (v18.2.2.2 + 1)).2.1, true, (v18.1, v18.2.1, v18.2.2.1, wi (v18.2.2.2 + 1)).2.2.2).2.1).length c31)]) (w' := w26) kr ?_
    obtain ⟨r33, e34, H⟩ := bind_ex H
    refine WR.st (St.call kr (f := 21) (args := #[.slice A30 (((v18.1, v18.2.1, v18.2.2.1, wi (v18.2.2.2 + 1)).1, (v18.1, v18.2.1, v18.2.2.1, wi (v18.2.2.2 + 1)).2.1, true, (v18.1, v18.2.1, v18.2.2.1, wi (v18.2.2.2 + 1)).2.2.2).2.1).length c31]) kr (slices_Clone.calls w26 A30 c31 (((v18.1, v18.2.1, v18.2.2.1, wi (v18.2.2.2 + 1)).1, (v18.1, v18.2.1, v18.2.2.1, wi (v18.2.2.2 + 1)).2.1, true, (v18.1, v18.2.1, v18.2.2.1, wi (v18.2.2.2 + 1)).2.2.2).2.1) (rdS.up R32 (Sat.ghAt 0 hS rfl)) r33 e34) ?_)
    rintro _ w40 ⟨A42, c43, rfl, hS41⟩
    have hS : Sat w40 B [osl 5 (r0 (.int .u8)) 1 A42 c43 r33, gh K27, pts b0 (.cells #[pv12, .slice A13 (List.set (List.set p0.2.1 r2.toNat (v18.1, v18.2.1, v18.2.2.1, wi (v18.2.2.2 + 1))) r2.toNat ((v18.1, v18.2.1, v18.2.2.1, wi (v18.2.2.2 + 1)).1, (v18.1, v18.2.1, v18.2.2.1, wi (v18.2.2.2 + 1)).2.1, true, (v18.1, v18.2.1, v18.2.2.1, wi (v18.2.2.2 + 1)).2.2.2)).length c14, .int .i64 p0.2.2.1, .int .i64 (wi (p0.2.2.2.1 + 1)), .int .i64 p0.2.2.2.2] 66 (0, 0)), optP O80 pv12 p0.1] := hS.ext hS41
    refine WR.runk [5, 6, 7] [] [4, 5, 6] (L' := [(4, .slice A42 r33.length c43), (5, .bool true), (6, .int .i64 0)]) (w' := w40) kr ?_
    refine WR.nil ?_
    refine At.go ?_
    refine WC.ret kr ?_
    refine At.thenRet ?_
    obtain rfl := Option.some.inj H
    have hS : Sat w40 B [gh K27, osl 5 (r0 (.int .u8)) 1 A42 c43 r33, pts b0 (.cells #[pv12, .slice A13 (List.set (List.set p0.2.1 r2.toNat (v18.1, v18.2.1, v18.2.2.1, wi (v18.2.2.2 + 1))) r2.toNat ((v18.1, v18.2.1, v18.2.2.1, wi (v18.2.2.2 + 1)).1, (v18.1, v18.2.1, v18.2.2.1, wi (v18.2.2.2 + 1)).2.1, true, (v18.1, v18.2.1, v18.2.2.1, wi (v18.2.2.2 + 1)).2.2.2)).length c14, .int .i64 p0.2.2.1, .int .i64 (wi (p0.2.2.2.1 + 1)), .int .i64 p0.2.2.2.2] 66 (0, 0)), optP O80 pv12 p0.1] := hS.sel [1, 0, 2, 3] kr
    have hS : Sat w40 B [orw 63 F63 4 A13 c14 (List.set (List.set p0.2.1 r2.toNat (v18.1, v18.2.1, v18.2.2.1, wi (v18.2.2.2 + 1))) r2.toNat ((v18.1, v18.2.1, v18.2.2.1, wi (v18.2.2.2 + 1)).1, (v18.1, v18.2.1, v18.2.2.1, wi (v18.2.2.2 + 1)).2.1, true, (v18.1, v18.2.1, v18.2.2.1, wi (v18.2.2.2 + 1)).2.2.2)), osl 5 (r0 (.int .u8)) 1 A42 c43 r33, pts b0 (.cells #[pv12, .slice A13 (List.set (List.set p0.2.1 r2.toNat (v18.1, v18.2.1, v18.2.2.1, wi (v18.2.2.2 + 1))) r2.toNat ((v18.1, v18.2.1, v18.2.2.1, wi (v18.2.2.2 + 1)).1, (v18.1, v18.2.1, v18.2.2.1, wi (v18.2.2.2 + 1)).2.1, true, (v18.1, v18.2.1, v18.2.2.1, wi (v18.2.2.2 + 1)).2.2.2)).length c14, .int .i64 p0.2.2.1, .int .i64 (wi (p0.2.2.2.1 + 1)), .int .i64 p0.2.2.2.2] 66 (0, 0)), optP O80 pv12 p0.1] := Sat.ungh hK28 hS
    have hS : Sat w40 B [pts b0 (.cells #[pv12, .slice A13 (List.set (List.set p0.2.1 r2.toNat (v18.1, v18.2.1, v18.2.2.1, wi (v18.2.2.2 + 1))) r2.toNat ((v18.1, v18.2.1, v18.2.2.1, wi (v18.2.2.2 + 1)).1, (v18.1, v18.2.1, v18.2.2.1, wi (v18.2.2.2 + 1)).2.1, true, (v18.1, v18.2.1, v18.2.2.1, wi (v18.2.2.2 + 1)).2.2.2)).length c14, .int .i64 p0.2.2.1, .int .i64 (wi (p0.2.2.2.1 + 1)), .int .i64 p0.2.2.2.2] 66 (0, 0)), optP O80 pv12 p0.1, orw 63 F63 4 A13 c14 (List.set (List.set p0.2.1 r2.toNat (v18.1, v18.2.1, v18.2.2.1, wi (v18.2.2.2 + 1))) r2.toNat ((v18.1, v18.2.1, v18.2.2.1, wi (v18.2.2.2 + 1)).1, (v18.1, v18.2.1, v18.2.2.1, wi (v18.2.2.2 + 1)).2.1, true, (v18.1, v18.2.1, v18.2.2.1, wi (v18.2.2.2 + 1)).2.2.2)), osl 5 (r0 (.int .u8)) 1 A42 c43 r33] := hS.sel [2, 3, 0, 1] kr
    have hS : Sat w40 B [O66 b0 (p0.1, (List.set (List.set p0.2.1 r2.toNat (v18.1, v18.2.1, v18.2.2.1, wi (v18.2.2.2 + 1))) r2.toNat ((v18.1, v18.2.1, v18.2.2.1, wi (v18.2.2.2 + 1)).1, (v18.1, v18.2.1, v18.2.2.1, wi (v18.2.2.2 + 1)).2.1, true, (v18.1, v18.2.1, v18.2.2.1, wi (v18.2.2.2 + 1)).2.2.2)), p0.2.2.1, wi (p0.2.2.2.1 + 1), p0.2.2.2.2), osl 5 (r0 (.int .u8)) 1 A42 c43 r33] := O66.close (p0.1, (List.set (List.set p0.2.1 r2.toNat (v18.1, v18.2.1, v18.2.2.1, wi (v18.2.2.2 + 1))) r2.toNat ((v18.1, v18.2.1, v18.2.2.1, wi (v18.2.2.2 + 1)).1, (v18.1, v18.2.1, v18.2.2.1, wi (v18.2.2.2 + 1)).2.1, true, (v18.1, v18.2.1, v18.2.2.1, wi (v18.2.2.2 + 1)).2.2.2)), p0.2.2.1, wi (p0.2.2.2.1 + 1), p0.2.2.2.2) pv12 A13 c14 hS
    have hS : Sat w40 B [O66 b0 (p0.1, (List.set (List.set p0.2.1 r2.toNat (v18.1, v18.2.1, v18.2.2.1, wi (v18.2.2.2 + 1))) r2.toNat ((v18.1, v18.2.1, v18.2.2.1, wi (v18.2.2.2 + 1)).1, (v18.1, v18.2.1, v18.2.2.1, wi (v18.2.2.2 + 1)).2.1, true, (v18.1, v18.2.1, v18.2.2.1, wi (v18.2.2.2 + 1)).2.2.2)), p0.2.2.1, wi (p0.2.2.2.1 + 1), p0.2.2.2.2), osl 5 (r0 (.int .u8)) 1 A42 c43 r33] := hS.sel [0, 1] kr
    exact At.body [.slice A42 r33.length c43, .bool true, .int .i64 0] kr ⟨_, rfl, _, _, rfl, hS⟩
   ·replace H := ite_f H hb11
    refine WC.skip kr ?_
    refine At.go ?_
    refine WC.seq kr ?_
    refine WC.reg [0, 1, 2, 3, 4, 5, 6, 7, 8, 9, 10] kr kr ?_
    refine WR.runk [0, 1, 2] [3, 4, 5, 6, 7, 8, 9, 10] [0, 1, 52] (L' := [(0, .pointer (some ⟨b0, 0, none⟩)), (1, .int .i64 a1), (52, .pointer (some ⟨b0, 0, none⟩))]) (w' := w9) kr ?_
    obtain ⟨pv44, A45, c46, hS⟩ := O66.open hS
    have hS : Sat w9 B [pts b0 (.cells #[pv44, .slice A45 p0.2.1.length c46, .int .i64 p0.2.2.1, .int .i64 p0.2.2.2.1, .int .i64 p0.2.2.2.2] 66 (0, 0)), optP O80 pv44 p0.1, orw 63 F63 4 A45 c46 p0.2.1] := hS
    refine WR.st (St.ofR (RSt.loadObj (t := 57) (k := 0) (v := pv44) (.tmp 52) kr kr kr 0 hS rfl kr rfl ?_))
    refine WR.runk [4] [5, 6, 7, 8, 9, 10] [0, 1, 53, 54] (L' := [(0, .pointer (some ⟨b0, 0, none⟩)), (1, .int .i64 a1), (53, pv44), (54, .int .i64 a1)]) (w' := w9) kr ?_
    obtain ⟨r47, e48, H⟩ := bind_ex H
    refine WR.st (St.call kr (f := 22) (args := #[pv44, .int .i64 a1]) kr (image_Image_Page.calls w9 (pv44) p0.1 (Sat.rdAny 1 hS rfl (fun _ h => optP.rdd (t := 80) (κ := (.pair (.slice 31 (.slice 5 (.int .u8))) (.pair (.slice 3 (.int .i64)) (.slice 3 (.int .i64))))) (O := O80) O80.rd h)) a1 r47 e48) ?_)
    rintro _ w54 ⟨A56, c57, rfl, hS55⟩
    have hS : Sat w54 B [osl 5 (r0 (.int .u8)) 1 A56 c57 r47.1, pts b0 (.cells #[pv44, .slice A45 p0.2.1.length c46, .int .i64 p0.2.2.1, .int .i64 p0.2.2.2.1, .int .i64 p0.2.2.2.2] 66 (0, 0)), optP O80 pv44 p0.1, orw 63 F63 4 A45 c46 p0.2.1] := hS.ext hS55
    refine WR.runk [6, 7, 8, 9, 10] [] [0, 1, 9, 10] (L' := [(0, .pointer (some ⟨b0, 0, none⟩)), (1, .int .i64 a1), (9, .slice A56 r47.1.length c57), (10, .int .i64 r47.2)]) (w' := w54) kr ?_
    refine WR.nil ?_
    refine At.go ?_
    refine WC.seq kr ?_
    refine WC.seq kr ?_
    refine WC.reg [0, 1] kr kr ?_
    refine WR.runk [0, 1] [] [0, 1, 9, 10, 59] (L' := [(0, .pointer (some ⟨b0, 0, none⟩)), (1, .int .i64 a1), (9, .slice A56 r47.1.length c57), (10, .int .i64 r47.2), (59, .bool (r47.2 != 0))]) (w' := w54) kr ?_
    refine WR.nil ?_
    refine At.go ?_
    refine WC.cond kr (r47.2 != 0) kr kr (fun hb58 => ?_) (fun hb58 => ?_)
    ·replace H := ite_t H hb58
     refine WC.seq kr ?_
     refine WC.reg [0, 1, 2, 3] kr kr ?_
     refine WR.runk [0, 1, 2, 3] [] [4, 5, 6] (L' := [(4, .slice none 0 0), (5, .bool false), (6, .int .i64 r47.2)]) (w' := w54) kr ?_
     refine WR.nil ?_
     refine At.go ?_
     refine WC.ret kr ?_
     refine At.thenRet ?_
     obtain rfl := Option.some.inj H
     have hS : Sat w54 B [pts b0 (.cells #[pv44, .slice A45 p0.2.1.length c46, .int .i64 p0.2.2.1, .int .i64 p0.2.2.2.1, .int .i64 p0.2.2.2.2] 66 (0, 0)), optP O80 pv44 p0.1, orw 63 F63 4 A45 c46 p0.2.1, osl 5 (r0 (.int .u8)) 1 A56 c57 r47.1] := hS.sel [1, 2, 3, 0] kr
     have hS : Sat w54 B [O66 b0 p0, osl 5 (r0 (.int .u8)) 1 A56 c57 r47.1] := O66.close p0 pv44 A45 c46 hS
     have hS := hS.addNil (α := Int) 5 (r0 (.int .u8)) 1
     have hS : Sat w54 B [O66 b0 p0, osl 5 (r0 (.int .u8)) 1 none 0 ([] : List Int)] := hS.sel [1, 0] kr
     exact At.body [.slice none 0 0, .bool false, .int .i64 r47.2] kr ⟨_, rfl, _, _, rfl, hS⟩
    ·replace H := ite_f H hb58
     refine WC.skip kr ?_
     refine At.go ?_
     refine WC.seq kr ?_
     refine WC.reg [0, 1, 2] kr kr ?_
     refine WR.runk [0] [1, 2] [0, 1, 9, 61] (L' := [(0, .pointer (some ⟨b0, 0, none⟩)), (1, .int .i64 a1), (9, .slice A56 r47.1.length c57), (61, .pointer (some ⟨b0, 0, none⟩))]) (w' := w54) kr ?_
     have hS : Sat w54 B [pts b0 (.cells #[pv44, .slice A45 p0.2.1.length c46, .int .i64 p0.2.2.1, .int .i64 p0.2.2.2.1, .int .i64 p0.2.2.2.2] 66 (0, 0)), optP O80 pv44 p0.1, orw 63 F63 4 A45 c46 p0.2.1, osl 5 (r0 (.int .u8)) 1 A56 c57 r47.1] := hS.sel [1, 2, 3, 0] kr
     have hS : Sat w54 B [O66 b0 p0, osl 5 (r0 (.int .u8)) 1 A56 c57 r47.1] := O66.close p0 pv44 A45 c46 hS
     obtain ⟨r59, e60, H⟩ := bind_ex H
     obtain ⟨B65, hso64, hsub62, hcs63, hb61⟩ := Sat.lend [O66 b0 p0] (cs := [osl 5 (r0 (.int .u8)) 1 A56 c57 r47.1]) hS
     refine WR.st (St.call kr (f := 23) (args := #[.pointer (some ⟨b0, 0, none⟩)]) kr (cache_Cache_free.calls B65 w54 b0 p0 hso64  r59 e60) ?_)
     rintro _ w66 ⟨rfl, hS67⟩
     have hS : Sat w66 B [O66 b0 r59.2, osl 5 (r0 (.int .u8)) 1 A56 c57 r47.1] := hb61 _ _ hS67
     refine WR.runk [2] [] [0, 1, 9, 11] (L' := [(0, .pointer (some ⟨b0, 0, none⟩)), (1, .int .i64 a1), (9, .slice A56 r47.1.length c57), (11, .int .i64 r59.1)]) (w' := w66) kr ?_
     refine WR.nil ?_
     refine At.go ?_
     refine WC.seq kr ?_
     refine WC.seq kr ?_
     refine WC.reg [0, 1] kr kr ?_
     refine WR.runk [0, 1] [] [0, 1, 9, 11, 64] (L' := [(0, .pointer (some ⟨b0, 0, none⟩)), (1, .int .i64 a1), (9, .slice A56 r47.1.length c57), (11, .int .i64 r59.1), (64, .bool (decide (r59.1 < 0)))]) (w' := w66) kr ?_
     refine WR.nil ?_
     refine At.go ?_
     refine WC.cond kr (decide (r59.1 < 0)) kr kr (fun hb68 => ?_) (fun hb68 => ?_)
     ·replace H := ite_t H hb68
      refine WC.seq kr ?_
      refine WC.reg [0, 1, 2] kr kr ?_
      refine WR.runk [0, 1, 2] [] [4, 5, 6] (L' := [(4, .slice none 0 0), (5, .bool false), (6, .int .i64 70)]) (w' := w66) kr ?_
      refine WR.nil ?_
      refine At.go ?_
      refine WC.ret kr ?_
      refine At.thenRet ?_
      obtain rfl := Option.some.inj H
      have hS := hS.addNil (α := Int) 5 (r0 (.int .u8)) 1
      have hS : Sat w66 B [O66 b0 r59.2, osl 5 (r0 (.int .u8)) 1 none 0 ([] : List Int)] := hS.sel [1, 0] kr
      exact At.body [.slice none 0 0, .bool false, .int .i64 70] kr ⟨_, rfl, _, _, rfl, hS⟩
     ·replace H := ite_f H hb68
      refine WC.skip kr ?_
      refine At.go ?_
      refine WC.seq kr ?_
      refine WC.reg [0, 1, 2, 3, 4, 5, 6, 7] kr kr ?_
      refine WR.runk [0, 1, 2] [3, 4, 5, 6, 7] [0, 1, 9, 11, 65, 67] (L' := [(0, .pointer (some ⟨b0, 0, none⟩)), (1, .int .i64 a1), (9, .slice A56 r47.1.length c57), (11, .int .i64 r59.1), (65, .pointer (some ⟨b0, 0, none⟩)), (67, .pointer (some ⟨b0, 4, none⟩))]) (w' := w66) kr ?_
      obtain ⟨pv69, A70, c71, hS⟩ := O66.open hS
      have hS : Sat w66 B [pts b0 (.cells #[pv69, .slice A70 r59.2.2.1.length c71, .int .i64 r59.2.2.2.1, .int .i64 r59.2.2.2.2.1, .int .i64 r59.2.2.2.2.2] 66 (0, 0)), optP O80 pv69 r59.2.1, orw 63 F63 4 A70 c71 r59.2.2.1, osl 5 (r0 (.int .u8)) 1 A56 c57 r47.1] := hS
      refine WR.st (St.ofR (RSt.loadObj (t := 3) (k := 4) (v := .int .i64 r59.2.2.2.2.2) (.tmp 67) kr kr kr 0 hS rfl kr rfl ?_))
      refine WR.runk [4, 5, 6] [7] [0, 1, 9, 11, 69, 71] (L' := [(0, .pointer (some ⟨b0, 0, none⟩)), (1, .int .i64 a1), (9, .slice A56 r47.1.length c57), (11, .int .i64 r59.1), (69, .int .i64 (wi (r59.2.2.2.2.2 + 1))), (71, .pointer (some ⟨b0, 4, none⟩))]) (w' := w66) kr ?_
      refine WR.st (St.storeObj (t := 3) (k := 4) (cur' := #[pv69, .slice A70 r59.2.2.1.length c71, .int .i64 r59.2.2.2.1, .int .i64 r59.2.2.2.2.1, .int .i64 (wi (r59.2.2.2.2.2 + 1))]) (.tmp 71) (.tmp 69) kr kr kr hS kr kr kr rfl rfl (fun w72 hS => ?_))
      refine WR.runk [] [] [0, 1, 9, 11] (L' := [(0, .pointer (some ⟨b0, 0, none⟩)), (1, .int .i64 a1), (9, .slice A56 r47.1.length c57), (11, .int .i64 r59.1)]) (w' := w72) kr ?_
      refine WR.nil ?_
      refine At.go ?_
      refine WC.seq kr ?_
      refine WC.reg [0, 1, 2, 3, 4, 5, 6, 7, 8, 9] kr kr ?_
      refine WR.runk [0, 1, 2] [3, 4, 5, 6, 7, 8, 9] [1, 9, 11, 74] (L' := [(1, .int .i64 a1), (9, .slice A56 r47.1.length c57), (11, .int .i64 r59.1), (74, .pointer (some ⟨b0, 1, none⟩))]) (w' := w72) kr ?_
      refine WR.st (St.ofR (RSt.loadObj (t := 64) (k := 1) (v := .slice A70 r59.2.2.1.length c71) (.tmp 74) kr kr kr 0 hS rfl kr rfl ?_))
      refine WR.runk [4, 5, 6, 7] [8, 9] [9, 75, 76, 79] (L' := [(9, .slice A56 r47.1.length c57), (75, .slice A70 r59.2.2.1.length c71), (76, .int .i64 r59.1), (79, .agg #[.int .i64 a1, .slice A56 r47.1.length c57, .bool true, .int .i64 1])]) (w' := w72) kr ?_
      have hS : Sat w72 B [orw 63 F63 4 A70 c71 r59.2.2.1, pts b0 (.cells #[pv69, .slice A70 r59.2.2.1.length c71, .int .i64 r59.2.2.2.1, .int .i64 r59.2.2.2.2.1, .int .i64 (wi (r59.2.2.2.2.2 + 1))] 66 (0, 0)), optP O80 pv69 r59.2.1, osl 5 (r0 (.int .u8)) 1 A56 c57 r47.1] := hS.sel [2, 0, 1, 3] kr
      obtain ⟨K73, hK74, hS⟩ := Sat.gho hS
      have hS : Sat w72 B [gh K73, pts b0 (.cells #[pv69, .slice A70 r59.2.2.1.length c71, .int .i64 r59.2.2.2.1, .int .i64 r59.2.2.2.2.1, .int .i64 (wi (r59.2.2.2.2.2 + 1))] 66 (0, 0)), optP O80 pv69 r59.2.1, osl 5 (r0 (.int .u8)) 1 A56 c57 r47.1] := hS
      have R75 : rdS (rd K73 (.pair (.int .i64) (.pair (.slice 5 (.int .u8)) (.pair .bool (.int .i64))))) 4 K73 A70 c71 r59.2.2.1 := orw.rdS (κ := (.pair (.int .i64) (.pair (.slice 5 (.int .u8)) (.pair .bool (.int .i64))))) F63.rd hK74
      obtain ⟨v76, e77, H⟩ := bind_ex H
      refine WR.st (St.ofP (PSt.idx (k := .i64) (.tmp 75) (.tmp 76) kr kr E64 kr kr (rdS.upd R75 (Sat.ghAt 0 hS rfl)) e77 ?_))
      refine WR.runk [] [9] [9, 79, 80] (L' := [(9, .slice A56 r47.1.length c57), (79, .agg #[.int .i64 a1, .slice A56 r47.1.length c57, .bool true, .int .i64 1]), (80, .pointer (some (adr A70 (r59.1).toNat 4)))]) (w' := w72) kr ?_
      have hS : Sat w72 B [orw 63 F63 4 A70 c71 r59.2.2.1, pts b0 (.cells #[pv69, .slice A70 r59.2.2.1.length c71, .int .i64 r59.2.2.2.1, .int .i64 r59.2.2.2.2.1, .int .i64 (wi (r59.2.2.2.2.2 + 1))] 66 (0, 0)), optP O80 pv69 r59.2.1, osl 5 (r0 (.int .u8)) 1 A56 c57 r47.1] := Sat.ungh hK74 hS
      have hS : Sat w72 B [osl 5 (r0 (.int .u8)) 1 A56 c57 r47.1, orw 63 F63 4 A70 c71 r59.2.2.1, pts b0 (.cells #[pv69, .slice A70 r59.2.2.1.length c71, .int .i64 r59.2.2.2.1, .int .i64 r59.2.2.2.2.1, .int .i64 (wi (r59.2.2.2.2.2 + 1))] 66 (0, 0)), optP O80 pv69 r59.2.1] := hS.sel [3, 0, 1, 2] kr
      have hS : Sat w72 B [orw 63 F63 4 A70 c71 r59.2.2.1, osl 5 (r0 (.int .u8)) 1 A56 c57 r47.1, pts b0 (.cells #[pv69, .slice A70 r59.2.2.1.length c71, .int .i64 r59.2.2.2.1, .int .i64 r59.2.2.2.2.1, .int .i64 (wi (r59.2.2.2.2.2 + 1))] 66 (0, 0)), optP O80 pv69 r59.2.1] := hS.sel [1, 0, 2, 3] kr
      refine WR.st (St.storeRowElem (t := 63) (vs := [.int .i64 a1, .slice A56 r47.1.length c57, .bool true, .int .i64 1]) (y := (a1, r47.1, true, 1)) (.tmp 80) (.tmp 79) kr kr kr (fun H h => ⟨(A56, c57), rfl, h⟩) hS kr kr kr rfl e77 (fun w78 K81 hS hK82 hM83 => ?_))
      have hS : Sat w78 B [gh K81, pts b0 (.cells #[pv69, .slice A70 r59.2.2.1.length c71, .int .i64 r59.2.2.2.1, .int .i64 r59.2.2.2.2.1, .int .i64 (wi (r59.2.2.2.2.2 + 1))] 66 (0, 0)), optP O80 pv69 r59.2.1] := hS
      replace hK82 : orw 63 F63 4 A70 c71 (List.set r59.2.2.1 (r59.1).toNat (a1, r47.1, true, 1)) K81 := hK82
      have R84 : rdS (rd K81 (.pair (.int .i64) (.pair (.slice 5 (.int .u8)) (.pair .bool (.int .i64))))) 4 K81 A70 c71 (List.set r59.2.2.1 (r59.1).toNat (a1, r47.1, true, 1)) := orw.rdS (κ := (.pair (.int .i64) (.pair (.slice 5 (.int .u8)) (.pair .bool (.int .i64))))) F63.rd hK82
      have R85 : rdS (r0 (.int .u8)) 1 K81 A56 c57 r47.1 := by obtain ⟨M, hM, hm⟩ := hM83; exact (osl.read hm).mono hM (fun _ _ h => h)
      clear hM83
      have hl79 : List.length (List.set r59.2.2.1 (r59.1).toNat (a1, r47.1, true, 1)) = List.length r59.2.2.1 := List.length_set
      have e80 : at? (List.set r59.2.2.1 (r59.1).toNat (a1, r47.1, true, 1)) r59.1 = some (a1, r47.1, true, 1) := at?_set e77
      have hS : Sat w78 B [gh K81, pts b0 (.cells #[pv69, .slice A70 (List.set r59.2.2.1 (r59.1).toNat (a1, r47.1, true, 1)).length c71, .int .i64 r59.2.2.2.1, .int .i64 r59.2.2.2.2.1, .int .i64 (wi (r59.2.2.2.2.2 + 1))] 66 (0, 0)), optP O80 pv69 r59.2.1] := by simpa only [hl79] using hS
      refine WR.runk [] [] [9] (L' := [(9, .slice A56 r47.1.length c57)]) (w' := w78) kr ?_
      refine WR.nil ?_
      refine At.go ?_
      refine WC.seq kr ?_
      refine WC.reg [0, 1, 2, 3, 4] kr kr ?_
      refine WR.runk [0] [1, 2, 3, 4] [81] (L' := [(81, .slice A56 r47.1.length c57)]) (w' := w78) kr ?_
      obtain ⟨r86, e87, H⟩ := bind_ex H
      refine WR.st (St.call kr (f := 21) (args := #[.slice A56 r47.1.length c57]) kr (slices_Clone.calls w78 A56 c57 r47.1 (rdS.up R85 (Sat.ghAt 0 hS rfl)) r86 e87) ?_)
      rintro _ w93 ⟨A95, c96, rfl, hS94⟩
      have hS : Sat w93 B [osl 5 (r0 (.int .u8)) 1 A95 c96 r86, gh K81, pts b0 (.cells #[pv69, .slice A70 (List.set r59.2.2.1 (r59.1).toNat (a1, r47.1, true, 1)).length c71, .int .i64 r59.2.2.2.1, .int .i64 r59.2.2.2.2.1, .int .i64 (wi (r59.2.2.2.2.2 + 1))] 66 (0, 0)), optP O80 pv69 r59.2.1] := hS.ext hS94
      refine WR.runk [2, 3, 4] [] [4, 5, 6] (L' := [(4, .slice A95 r86.length c96), (5, .bool false), (6, .int .i64 0)]) (w' := w93) kr ?_
      refine WR.nil ?_
      refine At.go ?_
      refine WC.ret kr ?_
      obtain rfl := Option.some.inj H
      have hS : Sat w93 B [gh K81, osl 5 (r0 (.int .u8)) 1 A95 c96 r86, pts b0 (.cells #[pv69, .slice A70 (List.set r59.2.2.1 (r59.1).toNat (a1, r47.1, true, 1)).length c71, .int .i64 r59.2.2.2.1, .int .i64 r59.2.2.2.2.1, .int .i64 (wi (r59.2.2.2.2.2 + 1))] 66 (0, 0)), optP O80 pv69 r59.2.1] := hS.sel [1, 0, 2, 3] kr
      have hS : Sat w93 B [orw 63 F63 4 A70 c71 (List.set r59.2.2.1 (r59.1).toNat (a1, r47.1, true, 1)), osl 5 (r0 (.int .u8)) 1 A95 c96 r86, pts b0 (.cells #[pv69, .slice A70 (List.set r59.2.2.1 (r59.1).toNat (a1, r47.1, true, 1)).length c71, .int .i64 r59.2.2.2.1, .int .i64 r59.2.2.2.2.1, .int .i64 (wi (r59.2.2.2.2.2 + 1))] 66 (0, 0)), optP O80 pv69 r59.2.1] := Sat.ungh hK82 hS
      have hS : Sat w93 B [pts b0 (.cells #[pv69, .slice A70 (List.set r59.2.2.1 (r59.1).toNat (a1, r47.1, true, 1)).length c71, .int .i64 r59.2.2.2.1, .int .i64 r59.2.2.2.2.1, .int .i64 (wi (r59.2.2.2.2.2 + 1))] 66 (0, 0)), optP O80 pv69 r59.2.1, orw 63 F63 4 A70 c71 (List.set r59.2.2.1 (r59.1).toNat (a1, r47.1, true, 1)), osl 5 (r0 (.int .u8)) 1 A95 c96 r86] := hS.sel [2, 3, 0, 1] kr
      have hS : Sat w93 B [O66 b0 (r59.2.1, (List.set r59.2.2.1 (r59.1).toNat (a1, r47.1, true, 1)), r59.2.2.2.1, r59.2.2.2.2.1, wi (r59.2.2.2.2.2 + 1)), osl 5 (r0 (.int .u8)) 1 A95 c96 r86] := O66.close (r59.2.1, (List.set r59.2.2.1 (r59.1).toNat (a1, r47.1, true, 1)), r59.2.2.2.1, r59.2.2.2.2.1, wi (r59.2.2.2.2.2 + 1)) pv69 A70 c71 hS
      have hS : Sat w93 B [O66 b0 (r59.2.1, (List.set r59.2.2.1 (r59.1).toNat (a1, r47.1, true, 1)), r59.2.2.2.1, r59.2.2.2.2.1, wi (r59.2.2.2.2.2 + 1)), osl 5 (r0 (.int .u8)) 1 A95 c96 r86] := hS.sel [0, 1] kr
      exact At.body [.slice A95 r86.length c96, .bool false, .int .i64 0] kr ⟨_, rfl, _, _, rfl, hS⟩
  ·replace H := ite_f H hb1
   refine WC.skip kr ?_
   refine At.go ?_
   refine WC.seq kr ?_
   refine WC.reg [0, 1, 2, 3, 4, 5, 6, 7, 8, 9, 10] kr kr ?_
   refine WR.runk [0, 1, 2] [3, 4, 5, 6, 7, 8, 9, 10] [0, 1, 52] (L' := [(0, .pointer (some ⟨b0, 0, none⟩)), (1, .int .i64 a1), (52, .pointer (some ⟨b0, 0, none⟩))]) (w' := w0) kr ?_
   obtain ⟨pv97, A98, c99, hS⟩ := O66.open hS
   have hS : Sat w0 B [pts b0 (.cells #[pv97, .slice A98 p0.2.1.length c99, .int .i64 p0.2.2.1, .int .i64 p0.2.2.2.1, .int .i64 p0.2.2.2.2] 66 (0, 0)), optP O80 pv97 p0.1, orw 63 F63 4 A98 c99 p0.2.1] := hS
   refine WR.st (St.ofR (RSt.loadObj (t := 57) (k := 0) (v := pv97) (.tmp 52) kr kr kr 0 hS rfl kr rfl ?_))
   refine WR.runk [4] [5, 6, 7, 8, 9, 10] [0, 1, 53, 54] (L' := [(0, .pointer (some ⟨b0, 0, none⟩)), (1, .int .i64 a1), (53, pv97), (54, .int .i64 a1)]) (w' := w0) kr ?_
   obtain ⟨r100, e101, H⟩ := bind_ex H
   refine WR.st (St.call kr (f := 22) (args := #[pv97, .int .i64 a1]) kr (image_Image_Page.calls w0 (pv97) p0.1 (Sat.rdAny 1 hS rfl (fun _ h => optP.rdd (t := 80) (κ := (.pair (.slice 31 (.slice 5 (.int .u8))) (.pair (.slice 3 (.int .i64)) (.slice 3 (.int .i64))))) (O := O80) O80.rd h)) a1 r100 e101) ?_)
   rintro _ w107 ⟨A109, c110, rfl, hS108⟩
   have hS : Sat w107 B [osl 5 (r0 (.int .u8)) 1 A109 c110 r100.1, pts b0 (.cells #[pv97, .slice A98 p0.2.1.length c99, .int .i64 p0.2.2.1, .int .i64 p0.2.2.2.1, .int .i64 p0.2.2.2.2] 66 (0, 0)), optP O80 pv97 p0.1, orw 63 F63 4 A98 c99 p0.2.1] := hS.ext hS108
   refine WR.runk [6, 7, 8, 9, 10] [] [0, 1, 9, 10] (L' := [(0, .pointer (some ⟨b0, 0, none⟩)), (1, .int .i64 a1), (9, .slice A109 r100.1.length c110), (10, .int .i64 r100.2)]) (w' := w107) kr ?_
   refine WR.nil ?_
   refine At.go ?_
   refine WC.seq kr ?_
   refine WC.seq kr ?_
   refine WC.reg [0, 1] kr kr ?_
   refine WR.runk [0, 1] [] [0, 1, 9, 10, 59] (L' := [(0, .pointer (some ⟨b0, 0, none⟩)), (1, .int .i64 a1), (9, .slice A109 r100.1.length c110), (10, .int .i64 r100.2), (59, .bool (r100.2 != 0))]) (w' := w107) kr ?_
   refine WR.nil ?_
   refine At.go ?_
   refine WC.cond kr (r100.2 != 0) kr kr (fun hb111 => ?_) (fun hb111 => ?_)
   ·replace H := ite_t H hb111
    refine WC.seq kr ?_
    refine WC.reg [0, 1, 2, 3] kr kr ?_
    refine WR.runk [0, 1, 2, 3] [] [4, 5, 6] (L' := [(4, .slice none 0 0), (5, .bool false), (6, .int .i64 r100.2)]) (w' := w107) kr ?_
    refine WR.nil ?_
    refine At.go ?_
    refine WC.ret kr ?_
    refine At.thenRet ?_
    obtain rfl := Option.some.inj H
    have hS : Sat w107 B [pts b0 (.cells #[pv97, .slice A98 p0.2.1.length c99, .int .i64 p0.2.2.1, .int .i64 p0.2.2.2.1, .int .i64 p0.2.2.2.2] 66 (0, 0)), optP O80 pv97 p0.1, orw 63 F63 4 A98 c99 p0.2.1, osl 5 (r0 (.int .u8)) 1 A109 c110 r100.1] := hS.sel [1, 2, 3, 0] kr
    have hS : Sat w107 B [O66 b0 p0, osl 5 (r0 (.int .u8)) 1 A109 c110 r100.1] := O66.close p0 pv97 A98 c99 hS
    have hS := hS.addNil (α := Int) 5 (r0 (.int .u8)) 1
    have hS : Sat w107 B [O66 b0 p0, osl 5 (r0 (.int .u8)) 1 none 0 ([] : List Int)] := hS.sel [1, 0] kr
    exact At.body [.slice none 0 0, .bool false, .int .i64 r100.2] kr ⟨_, rfl, _, _, rfl, hS⟩
   ·replace H := ite_f H hb111
    refine WC.skip kr ?_
    refine At.go ?_
    refine WC.seq kr ?_
    refine WC.reg [0, 1, 2] kr kr ?_
    refine WR.runk [0] [1, 2] [0, 1, 9, 61] (L' := [(0, .pointer (some ⟨b0, 0, none⟩)), (1, .int .i64 a1), (9, .slice A109 r100.1.length c110), (61, .pointer (some ⟨b0, 0, none⟩))]) (w' := w107) kr ?_
    have hS : Sat w107 B [pts b0 (.cells #[pv97, .slice A98 p0.2.1.length c99, .int .i64 p0.2.2.1, .int .i64 p0.2.2.2.1, .int .i64 p0.2.2.2.2] 66 (0, 0)), optP O80 pv97 p0.1, orw 63 F63 4 A98 c99 p0.2.1, osl 5 (r0 (.int .u8)) 1 A109 c110 r100.1] := hS.sel [1, 2, 3, 0] kr
    have hS : Sat w107 B [O66 b0 p0, osl 5 (r0 (.int .u8)) 1 A109 c110 r100.1] := O66.close p0 pv97 A98 c99 hS
    obtain ⟨r112, e113, H⟩ := bind_ex H
    obtain ⟨B118, hso117, hsub115, hcs116, hb114⟩ := Sat.lend [O66 b0 p0] (cs := [osl 5 (r0 (.int .u8)) 1 A109 c110 r100.1]) hS
    refine WR.st (St.call kr (f := 23) (args := #[.pointer (some ⟨b0, 0, none⟩)]) kr (cache_Cache_free.calls B118 w107 b0 p0 hso117  r112 e113) ?_)
    rintro _ w119 ⟨rfl, hS120⟩
    have hS : Sat w119 B [O66 b0 r112.2, osl 5 (r0 (.int .u8)) 1 A109 c110 r100.1] := hb114 _ _ hS120
    refine WR.runk [2] [] [0, 1, 9, 11] (L' := [(0, .pointer (some ⟨b0, 0, none⟩)), (1, .int .i64 a1), (9, .slice A109 r100.1.length c110), (11, .int .i64 r112.1)]) (w' := w119) kr ?_
    refine WR.nil ?_
    refine At.go ?_
    refine WC.seq kr ?_
    refine WC.seq kr ?_
    refine WC.reg [0, 1] kr kr ?_
    refine WR.runk [0, 1] [] [0, 1, 9, 11, 64] (L' := [(0, .pointer (some ⟨b0, 0, none⟩)), (1, .int .i64 a1), (9, .slice A109 r100.1.length c110), (11, .int .i64 r112.1), (64, .bool (decide (r112.1 < 0)))]) (w' := w119) kr ?_
    refine WR.nil ?_
    refine At.go ?_
    refine WC.cond kr (decide (r112.1 < 0)) kr kr (fun hb121 => ?_) (fun hb121 => ?_)
    ·replace H := ite_t H hb121
     refine WC.seq kr ?_
     refine WC.reg [0, 1, 2] kr kr ?_
     refine WR.runk [0, 1, 2] [] [4, 5, 6] (L' := [(4, .slice none 0 0), (5, .bool false), (6, .int .i64 70)]) (w' := w119) kr ?_
     refine WR.nil ?_
     refine At.go ?_
     refine WC.ret kr ?_
     refine At.thenRet ?_
     obtain rfl := Option.some.inj H
     have hS := hS.addNil (α := Int) 5 (r0 (.int .u8)) 1
     have hS : Sat w119 B [O66 b0 r112.2, osl 5 (r0 (.int .u8)) 1 none 0 ([] : List Int)] := hS.sel [1, 0] kr
     exact At.body [.slice none 0 0, .bool false, .int .i64 70] kr ⟨_, rfl, _, _, rfl, hS⟩
    ·replace H := ite_f H hb121
     refine WC.skip kr ?_
     refine At.go ?_
     refine WC.seq kr ?_
     refine WC.reg [0, 1, 2, 3, 4, 5, 6, 7] kr kr ?_
     refine WR.runk [0, 1, 2] [3, 4, 5, 6, 7] [0, 1, 9, 11, 65, 67] (L' := [(0, .pointer (some ⟨b0, 0, none⟩)), (1, .int .i64 a1), (9, .slice A109 r100.1.length c110), (11, .int .i64 r112.1), (65, .pointer (some ⟨b0, 0, none⟩)), (67, .pointer (some ⟨b0, 4, none⟩))]) (w' := w119) kr ?_
     obtain ⟨pv122, A123, c124, hS⟩ := O66.open hS
     have hS : Sat w119 B [pts b0 (.cells #[pv122, .slice A123 r112.2.2.1.length c124, .int .i64 r112.2.2.2.1, .int .i64 r112.2.2.2.2.1, .int .i64 r112.2.2.2.2.2] 66 (0, 0)), optP O80 pv122 r112.2.1, orw 63 F63 4 A123 c124 r112.2.2.1, osl 5 (r0 (.int .u8)) 1 A109 c110 r100.1] := hS
     refine WR.st (St.ofR (RSt.loadObj (t := 3) (k := 4) (v := .int .i64 r112.2.2.2.2.2) (.tmp 67) kr kr kr 0 hS rfl kr rfl ?_))
     refine WR.runk [4, 5, 6] [7] [0, 1, 9, 11, 69, 71] (L' := [(0, .pointer (some ⟨b0, 0, none⟩)), (1, .int .i64 a1), (9, .slice A109 r100.1.length c110), (11, .int .i64 r112.1), (69, .int .i64 (wi (r112.2.2.2.2.2 + 1))), (71, .pointer (some ⟨b0, 4, none⟩))]) (w' := w119) kr ?_
     refine WR.st (St.storeObj (t := 3) (k := 4) (cur' := #[pv122, .slice A123 r112.2.2.1.length c124, .int .i64 r112.2.2.2.1, .int .i64 r112.2.2.2.2.1, .int .i64 (wi (r112.2.2.2.2.2 + 1))]) (.tmp 71) (.tmp 69) kr kr kr hS kr kr kr rfl rfl (fun w125 hS => ?_))
     refine WR.runk [] [] [0, 1, 9, 11] (L' := [(0, .pointer (some ⟨b0, 0, none⟩)), (1, .int .i64 a1), (9, .slice A109 r100.1.length c110), (11, .int .i64 r112.1)]) (w' := w125) kr ?_
     refine WR.nil ?_
     refine At.go ?_
     refine WC.seq kr ?_
     refine WC.reg [0, 1, 2, 3, 4, 5, 6, 7, 8, 9] kr kr ?_
     refine WR.runk [0, 1, 2] [3, 4, 5, 6, 7, 8, 9] [1, 9, 11, 74] (L' := [(1, .int .i64 a1), (9, .slice A109 r100.1.length c110), (11, .int .i64 r112.1), (74, .pointer (some ⟨b0, 1, none⟩))]) (w' := w125) kr ?_
     refine WR.st (St.ofR (RSt.loadObj (t := 64) (k := 1) (v := .slice A123 r112.2.2.1.length c124) (.tmp 74) kr kr kr 0 hS rfl kr rfl ?_))
     refine WR.runk [4, 5, 6, 7] [8, 9] [9, 75, 76, 79] (L' := [(9, .slice A109 r100.1.length c110), (75, .slice A123 r112.2.2.1.length c124), (76, .int .i64 r112.1), (79, .agg #[.int .i64 a1, .slice A109 r100.1.length c110, .bool true, .int .i64 1])]) (w' := w125) kr ?_
     have hS : Sat w125 B [orw 63 F63 4 A123 c124 r112.2.2.1, pts b0 (.cells #[pv122, .slice A123 r112.2.2.1.length c124, .int .i64 r112.2.2.2.1, .int .i64 r112.2.2.2.2.1, .int .i64 (wi (r112.2.2.2.2.2 + 1))] 66 (0, 0)), optP O80 pv122 r112.2.1, osl 5 (r0 (.int .u8)) 1 A109 c110 r100.1] := hS.sel [2, 0, 1, 3] kr
     obtain ⟨K126, hK127, hS⟩ := Sat.gho hS
     have hS : Sat w125 B [gh K126, pts b0 (.cells #[pv122, .slice A123 r112.2.2.1.length c124, .int .i64 r112.2.2.2.1, .int .i64 r112.2.2.2.2.1, .int .i64 (wi (r112.2.2.2.2.2 + 1))] 66 (0, 0)), optP O80 pv122 r112.2.1, osl 5 (r0 (.int .u8)) 1 A109 c110 r100.1] := hS
     have R128 : rdS (rd K126 (.pair (.int .i64) (.pair (.slice 5 (.int .u8)) (.pair .bool (.int .i64))))) 4 K126 A123 c124 r112.2.2.1 := orw.rdS (κ := (.pair (.int .i64) (.pair (.slice 5 (.int .u8)) (.pair .bool (.int .i64))))) F63.rd hK127
     obtain ⟨v129, e130, H⟩ := bind_ex H
     refine WR.st (St.ofP (PSt.idx (k := .i64) (.tmp 75) (.tmp 76) kr kr E64 kr kr (rdS.upd R128 (Sat.ghAt 0 hS rfl)) e130 ?_))
     refine WR.runk [] [9] [9, 79, 80] (L' := [(9, .slice A109 r100.1.length c110), (79, .agg #[.int .i64 a1, .slice A109 r100.1.length c110, .bool true, .int .i64 1]), (80, .pointer (some (adr A123 (r112.1).toNat 4)))]) (w' := w125) kr ?_
     have hS : Sat w125 B [orw 63 F63 4 A123 c124 r112.2.2.1, pts b0 (.cells #[pv122, .slice A123 r112.2.2.1.length c124, .int .i64 r112.2.2.2.1, .int .i64 r112.2.2.2.2.1, .int .i64 (wi (r112.2.2.2.2.2 + 1))] 66 (0, 0)), optP O80 pv122 r112.2.1, osl 5 (r0 (.int .u8)) 1 A109 c110 r100.1] := Sat.ungh hK127 hS
     have hS : Sat w125 B [osl 5 (r0 (.int .u8)) 1 A109 c110 r100.1, orw 63 F63 4 A123 c124 r112.2.2.1, pts b0 (.cells #[pv122, .slice A123 r112.2.2.1.length c124, .int .i64 r112.2.2.2.1, .int .i64 r112.2.2.2.2.1, .int .i64 (wi (r112.2.2.2.2.2 + 1))] 66 (0, 0)), optP O80 pv122 r112.2.1] := hS.sel [3, 0, 1, 2] kr
     have hS : Sat w125 B [orw 63 F63 4 A123 c124 r112.2.2.1, osl 5 (r0 (.int .u8)) 1 A109 c110 r100.1, pts b0 (.cells #[pv122, .slice A123 r112.2.2.1.length c124, .int .i64 r112.2.2.2.1, .int .i64 r112.2.2.2.2.1, .int .i64 (wi (r112.2.2.2.2.2 + 1))] 66 (0, 0)), optP O80 pv122 r112.2.1] := hS.sel [1, 0, 2, 3] kr
     refine WR.st (St.storeRowElem (t := 63) (vs := [.int .i64 a1, .slice A109 r100.1.length c110, .bool true, .int .i64 1]) (y := (a1, r100.1, true, 1)) (.tmp 80) (.tmp 79) kr kr kr (fun H h => ⟨(A109, c110), rfl, h⟩) hS kr kr kr rfl e130 (fun w131 K134 hS hK135 hM136 => ?_))
     have hS : Sat w131 B [gh K134, pts b0 (.cells #[pv122, .slice A123 r112.2.2.1.length c124, .int .i64 r112.2.2.2.1, .int .i64 r112.2.2.2.2.1, .int .i64 (wi (r112.2.2.2.2.2 + 1))] 66 (0, 0)), optP O80 pv122 r112.2.1] := hS
     replace hK135 : orw 63 F63 4 A123 c124 (List.set r112.2.2.1 (r112.1).toNat (a1, r100.1, true, 1)) K134 := hK135
     have R137 : rdS (rd K134 (.pair (.int .i64) (.pair (.slice 5 (.int .u8)) (.pair .bool (.int .i64))))) 4 K134 A123 c124 (List.set r112.2.2.1 (r112.1).toNat (a1, r100.1, true, 1)) := orw.rdS (κ := (.pair (.int .i64) (.pair (.slice 5 (.int .u8)) (.pair .bool (.int .i64))))) F63.rd hK135
     have R138 : rdS (r0 (.int .u8)) 1 K134 A109 c110 r100.1 := by obtain ⟨M, hM, hm⟩ := hM136; exact (osl.read hm).mono hM (fun _ _ h => h)
     clear hM136
     have hl132 : List.length (List.set r112.2.2.1 (r112.1).toNat (a1, r100.1, true, 1)) = List.length r112.2.2.1 := List.length_set
     have e133 : at? (List.set r112.2.2.1 (r112.1).toNat (a1, r100.1, true, 1)) r112.1 = some (a1, r100.1, true, 1) := at?_set e130
     have hS : Sat w131 B [gh K134, pts b0 (.cells #[pv122, .slice A123 (List.set r112.2.2.1 (r112.1).toNat (a1, r100.1, true, 1)).length c124, .int .i64 r112.2.2.2.1, .int .i64 r112.2.2.2.2.1, .int .i64 (wi (r112.2.2.2.2.2 + 1))] 66 (0, 0)), optP O80 pv122 r112.2.1] := by simpa only [hl132] using hS
     refine WR.runk [] [] [9] (L' := [(9, .slice A109 r100.1.length c110)]) (w' := w131) kr ?_
     refine WR.nil ?_
     refine At.go ?_
     refine WC.seq kr ?_
     refine WC.reg [0, 1, 2, 3, 4] kr kr ?_
     refine WR.runk [0] [1, 2, 3, 4] [81] (L' := [(81, .slice A109 r100.1.length c110)]) (w' := w131) kr ?_
     obtain ⟨r139, e140, H⟩ := bind_ex H
     refine WR.st (St.call kr (f := 21) (args := #[.slice A109 r100.1.length c110]) kr (slices_Clone.calls w131 A109 c110 r100.1 (rdS.up R138 (Sat.ghAt 0 hS rfl)) r139 e140) ?_)
     rintro _ w146 ⟨A148, c149, rfl, hS147⟩
     have hS : Sat w146 B [osl 5 (r0 (.int .u8)) 1 A148 c149 r139, gh K134, pts b0 (.cells #[pv122, .slice A123 (List.set r112.2.2.1 (r112.1).toNat (a1, r100.1, true, 1)).length c124, .int .i64 r112.2.2.2.1, .int .i64 r112.2.2.2.2.1, .int .i64 (wi (r112.2.2.2.2.2 + 1))] 66 (0, 0)), optP O80 pv122 r112.2.1] := hS.ext hS147
     refine WR.runk [2, 3, 4] [] [4, 5, 6] (L' := [(4, .slice A148 r139.length c149), (5, .bool false), (6, .int .i64 0)]) (w' := w146) kr ?_
     refine WR.nil ?_
     refine At.go ?_
     refine WC.ret kr ?_
     obtain rfl := Option.some.inj H
     have hS : Sat w146 B [gh K134, osl 5 (r0 (.int .u8)) 1 A148 c149 r139, pts b0 (.cells #[pv122, .slice A123 (List.set r112.2.2.1 (r112.1).toNat (a1, r100.1, true, 1)).length c124, .int .i64 r112.2.2.2.1, .int .i64 r112.2.2.2.2.1, .int .i64 (wi (r112.2.2.2.2.2 + 1))] 66 (0, 0)), optP O80 pv122 r112.2.1] := hS.sel [1, 0, 2, 3] kr
     have hS : Sat w146 B [orw 63 F63 4 A123 c124 (List.set r112.2.2.1 (r112.1).toNat (a1, r100.1, true, 1)), osl 5 (r0 (.int .u8)) 1 A148 c149 r139, pts b0 (.cells #[pv122, .slice A123 (List.set r112.2.2.1 (r112.1).toNat (a1, r100.1, true, 1)).length c124, .int .i64 r112.2.2.2.1, .int .i64 r112.2.2.2.2.1, .int .i64 (wi (r112.2.2.2.2.2 + 1))] 66 (0, 0)), optP O80 pv122 r112.2.1] := Sat.ungh hK135 hS
     have hS : Sat w146 B [pts b0 (.cells #[pv122, .slice A123 (List.set r112.2.2.1 (r112.1).toNat (a1, r100.1, true, 1)).length c124, .int .i64 r112.2.2.2.1, .int .i64 r112.2.2.2.2.1, .int .i64 (wi (r112.2.2.2.2.2 + 1))] 66 (0, 0)), optP O80 pv122 r112.2.1, orw 63 F63 4 A123 c124 (List.set r112.2.2.1 (r112.1).toNat (a1, r100.1, true, 1)), osl 5 (r0 (.int .u8)) 1 A148 c149 r139] := hS.sel [2, 3, 0, 1] kr
     have hS : Sat w146 B [O66 b0 (r112.2.1, (List.set r112.2.2.1 (r112.1).toNat (a1, r100.1, true, 1)), r112.2.2.2.1, r112.2.2.2.2.1, wi (r112.2.2.2.2.2 + 1)), osl 5 (r0 (.int .u8)) 1 A148 c149 r139] := O66.close (r112.2.1, (List.set r112.2.2.1 (r112.1).toNat (a1, r100.1, true, 1)), r112.2.2.2.1, r112.2.2.2.2.1, wi (r112.2.2.2.2.2 + 1)) pv122 A123 c124 hS
     have hS : Sat w146 B [O66 b0 (r112.2.1, (List.set r112.2.2.1 (r112.1).toNat (a1, r100.1, true, 1)), r112.2.2.2.1, r112.2.2.2.2.1, wi (r112.2.2.2.2.2 + 1)), osl 5 (r0 (.int .u8)) 1 A148 c149 r139] := hS.sel [0, 1] kr
     exact At.body [.slice A148 r139.length c149, .bool false, .int .i64 0] kr ⟨_, rfl, _, _, rfl, hS⟩
/-! ### 12 (*colophon/cache.Cache).Drop -/
def cache_Cache_Drop.f (p0 : (Option ((List (List Int)) × (List Int) × (List Int))) × (List (Int × (List Int) × Bool × Int)) × Int × Int × Int) (a1 : Int) : Option (Bool × ((Option ((List (List Int)) × (List Int) × (List Int))) × (List (Int × (List Int) × Bool × Int)) × Int × Int × Int)) := (if decide (a1 < 0) then some (false, p0) else ((cache_Cache_at.f (some p0) a1).bind fun r2 => (if decide (r2 < 0) then some (false, p0) else ((at? p0.2.1 r2).bind fun v18 => (if (v18.2.2.2 == 0) then some (false, p0) else some (true, (p0.1, (List.set p0.2.1 r2.toNat (v18.1, v18.2.1, v18.2.2.1, wi (v18.2.2.2 - 1))), p0.2.2.1, p0.2.2.2.1, p0.2.2.2.2)))))))
def cache_Cache_Drop.post (B : Rf) (b0 : Nat) (p0 : (Option ((List (List Int)) × (List Int) × (List Int))) × (List (Int × (List Int) × Bool × Int)) × Int × Int × Int) (w : World) (r : Bool × ((Option ((List (List Int)) × (List Int) × (List Int))) × (List (Int × (List Int) × Bool × Int)) × Int × Int × Int)) (v : Value) (w' : World) : Prop := v = (.bool r.1 : Value) ∧ Sat w' B [O66 b0 r.2]
theorem cache_Cache_Drop.calls (B : Rf) (w0 : World) (b0 : Nat) (p0 : (Option ((List (List Int)) × (List Int) × (List Int))) × (List (Int × (List Int) × Bool × Int)) × Int × Int × Int) (hS : Sat w0 B [O66 b0 p0]) (a1 : Int) (r : Bool × ((Option ((List (List Int)) × (List Int) × (List Int))) × (List (Int × (List Int) × Bool × Int)) × Int × Int × Int)) (H : cache_Cache_Drop.f p0 a1 = some r) :
    Calls Try.prog 12 #[.pointer (some ⟨b0, 0, none⟩), .int .i64 a1] w0 (fun e w' => ∃ v, e = .returned v ∧ cache_Cache_Drop.post B b0 p0 w0 r v w') := by
  unfold cache_Cache_Drop.f at H
  refine calls_of_WC (vs := [.pointer (some ⟨b0, 0, none⟩), .int .i64 a1]) Try.func12 (c := C12) (n := 39) kr kr kr ?_
  refine WC.seq kr ?_
  refine WC.reg [0] kr kr ?_
  refine WR.runk [0] [] [0, 1] (L' := [(0, .pointer (some ⟨b0, 0, none⟩)), (1, .int .i64 a1)]) (w' := w0) kr ?_
  refine WR.nil ?_
  refine At.go ?_
  refine WC.seq kr ?_
  refine WC.seq kr ?_
  refine WC.reg [0, 1, 2, 3, 4, 5] kr kr ?_
  refine WR.runk [0, 1, 2, 3, 4, 5] [] [0, 1, 11] (L' := [(0, .pointer (some ⟨b0, 0, none⟩)), (1, .int .i64 a1), (11, .bool (decide (a1 < 0)))]) (w' := w0) kr ?_
  refine WR.nil ?_
  refine At.go ?_
  refine WC.cond kr (decide (a1 < 0)) kr kr (fun hb1 => ?_) (fun hb1 => ?_)
  ·replace H := ite_t H hb1
   refine WC.seq kr ?_
   refine WC.reg [0] kr kr ?_
   refine WR.runk [0] [] [4] (L' := [(4, .bool false)]) (w' := w0) kr ?_
   refine WR.nil ?_
   refine At.go ?_
   refine WC.ret kr ?_
   refine At.thenRet ?_
   obtain rfl := Option.some.inj H
   have hS : Sat w0 B [O66 b0 p0] := hS.sel [0] kr
   exact At.body [.bool false] kr ⟨_, rfl, rfl, hS⟩
  ·replace H := ite_f H hb1
   refine WC.skip kr ?_
   refine At.go ?_
   refine WC.seq kr ?_
   refine WC.reg [0, 1, 2, 3] kr kr ?_
   refine WR.runk [0, 1] [2, 3] [0, 12, 13] (L' := [(0, .pointer (some ⟨b0, 0, none⟩)), (12, .pointer (some ⟨b0, 0, none⟩)), (13, .int .i64 a1)]) (w' := w0) kr ?_
   obtain ⟨r2, e3, H⟩ := bind_ex H
   refine WR.st (St.call kr (f := 20) (args := #[.pointer (some ⟨b0, 0, none⟩), .int .i64 a1]) kr (cache_Cache_at.calls w0 (.pointer (some ⟨b0, 0, none⟩)) (some p0) (Sat.rdAny 0 hS rfl (fun _ h => O66.rd _ _ _ h)) a1 r2 e3) ?_)
   rintro _ w9 ⟨rfl, hS10⟩
   have hS : Sat w9 B [O66 b0 p0] := hS.ext hS10
   refine WR.runk [3] [] [0, 5] (L' := [(0, .pointer (some ⟨b0, 0, none⟩)), (5, .int .i64 r2)]) (w' := w9) kr ?_
   refine WR.nil ?_
   refine At.go ?_
   refine WC.seq kr ?_
   refine WC.seq kr ?_
   refine WC.reg [0, 1, 2, 3, 4, 5, 6, 7, 8, 9, 10, 11, 12] kr kr ?_
   refine WR.runk [0, 1, 2] [3, 4, 5, 6, 7, 8, 9, 10, 11, 12] [0, 5, 17] (L' := [(0, .pointer (some ⟨b0, 0, none⟩)), (5, .int .i64 r2), (17, .bool (decide (r2 < 0)))]) (w' := w9) kr ?_
   refine WR.split 17 (b := decide (r2 < 0)) kr (fun hb11 => ?_) (fun hb11 => ?_)
   ·replace H := ite_t H hb11
    refine WR.runk [3, 4, 5, 6, 7, 8, 9, 10, 11, 12] [] [0, 5, 27] (L' := [(0, .pointer (some ⟨b0, 0, none⟩)), (5, .int .i64 r2), (27, .bool true)]) (w' := w9) kr ?_
    refine WR.nil ?_
    refine At.go ?_
    refine WC.condT kr kr kr ?_
    refine WC.seq kr ?_
    refine WC.reg [0] kr kr ?_
    refine WR.runk [0] [] [4] (L' := [(4, .bool false)]) (w' := w9) kr ?_
    refine WR.nil ?_
    refine At.go ?_
    refine WC.ret kr ?_
    refine At.thenRet ?_
    obtain rfl := Option.some.inj H
    have hS : Sat w9 B [O66 b0 p0] := hS.sel [0] kr
    exact At.body [.bool false] kr ⟨_, rfl, rfl, hS⟩
   ·replace H := ite_f H hb11
    refine WR.runk [3, 4, 5] [6, 7, 8, 9, 10, 11, 12] [0, 5, 17, 20] (L' := [(0, .pointer (some ⟨b0, 0, none⟩)), (5, .int .i64 r2), (17, .bool false), (20, .pointer (some ⟨b0, 1, none⟩))]) (w' := w9) kr ?_
    obtain ⟨pv12, A13, c14, hS⟩ := O66.open hS
    have hS : Sat w9 B [pts b0 (.cells #[pv12, .slice A13 p0.2.1.length c14, .int .i64 p0.2.2.1, .int .i64 p0.2.2.2.1, .int .i64 p0.2.2.2.2] 66 (0, 0)), optP O80 pv12 p0.1, orw 63 F63 4 A13 c14 p0.2.1] := hS
    refine WR.st (St.ofR (RSt.loadObj (t := 64) (k := 1) (v := .slice A13 p0.2.1.length c14) (.tmp 20) kr kr kr 0 hS rfl kr rfl ?_))
    refine WR.runk [7] [8, 9, 10, 11, 12] [0, 5, 17, 21, 22] (L' := [(0, .pointer (some ⟨b0, 0, none⟩)), (5, .int .i64 r2), (17, .bool false), (21, .slice A13 p0.2.1.length c14), (22, .int .i64 r2)]) (w' := w9) kr ?_
    have hS : Sat w9 B [orw 63 F63 4 A13 c14 p0.2.1, pts b0 (.cells #[pv12, .slice A13 p0.2.1.length c14, .int .i64 p0.2.2.1, .int .i64 p0.2.2.2.1, .int .i64 p0.2.2.2.2] 66 (0, 0)), optP O80 pv12 p0.1] := hS.sel [2, 0, 1] kr
    obtain ⟨K15, hK16, hS⟩ := Sat.gho hS
    have hS : Sat w9 B [gh K15, pts b0 (.cells #[pv12, .slice A13 p0.2.1.length c14, .int .i64 p0.2.2.1, .int .i64 p0.2.2.2.1, .int .i64 p0.2.2.2.2] 66 (0, 0)), optP O80 pv12 p0.1] := hS
    have R17 : rdS (rd K15 (.pair (.int .i64) (.pair (.slice 5 (.int .u8)) (.pair .bool (.int .i64))))) 4 K15 A13 c14 p0.2.1 := orw.rdS (κ := (.pair (.int .i64) (.pair (.slice 5 (.int .u8)) (.pair .bool (.int .i64))))) F63.rd hK16
    obtain ⟨v18, e19, H⟩ := bind_ex H
    refine WR.st (St.ofP (PSt.idx (k := .i64) (.tmp 21) (.tmp 22) kr kr E64 kr kr (rdS.upd R17 (Sat.ghAt 0 hS rfl)) e19 ?_))
    refine WR.runk [9] [10, 11, 12] [0, 5, 17, 24] (L' := [(0, .pointer (some ⟨b0, 0, none⟩)), (5, .int .i64 r2), (17, .bool false), (24, .pointer (some ((adr A13 r2.toNat 4).add 3)))]) (w' := w9) kr ?_
    refine WR.st (St.ofR (RSt.loadPartV (t := 3) (κ := (.pair (.int .i64) (.pair (.slice 5 (.int .u8)) (.pair .bool (.int .i64))))) (.tmp 24) 3 kr kr kr kr R17 e19 (Sat.ghAt 0 hS rfl) (u := .int .i64 v18.2.2.2) (fun cv hcv => by obtain ⟨_, _, rfl, _⟩ := F63.un hcv; rfl) ?_))
    refine WR.runk [11, 12] [] [0, 5, 27] (L' := [(0, .pointer (some ⟨b0, 0, none⟩)), (5, .int .i64 r2), (27, .bool (v18.2.2.2 == 0))]) (w' := w9) kr ?_
    refine WR.nil ?_
    refine At.go ?_
    refine WC.cond kr (v18.2.2.2 == 0) kr kr (fun hb20 => ?_) (fun hb20 => ?_)
    ·replace H := ite_t H hb20
     refine WC.seq kr ?_
     refine WC.reg [0] kr kr ?_
     refine WR.runk [0] [] [4] (L' := [(4, .bool false)]) (w' := w9) kr ?_
     refine WR.nil ?_
     refine At.go ?_
     refine WC.ret kr ?_
     refine At.thenRet ?_
     obtain rfl := Option.some.inj H
     have hS : Sat w9 B [orw 63 F63 4 A13 c14 p0.2.1, pts b0 (.cells #[pv12, .slice A13 p0.2.1.length c14, .int .i64 p0.2.2.1, .int .i64 p0.2.2.2.1, .int .i64 p0.2.2.2.2] 66 (0, 0)), optP O80 pv12 p0.1] := Sat.ungh hK16 hS
     have hS : Sat w9 B [pts b0 (.cells #[pv12, .slice A13 p0.2.1.length c14, .int .i64 p0.2.2.1, .int .i64 p0.2.2.2.1, .int .i64 p0.2.2.2.2] 66 (0, 0)), optP O80 pv12 p0.1, orw 63 F63 4 A13 c14 p0.2.1] := hS.sel [1, 2, 0] kr
     have hS : Sat w9 B [O66 b0 p0] := O66.close p0 pv12 A13 c14 hS
     have hS : Sat w9 B [O66 b0 p0] := hS.sel [0] kr
     exact At.body [.bool false] kr ⟨_, rfl, rfl, hS⟩
    ·replace H := ite_f H hb20
     refine WC.skip kr ?_
     refine At.go ?_
     refine WC.seq kr ?_
     refine WC.reg [0, 1, 2, 3, 4, 5, 6, 7, 8, 9, 10, 11] kr kr ?_
     refine WR.runk [0, 1, 2] [3, 4, 5, 6, 7, 8, 9, 10, 11] [5, 30] (L' := [(5, .int .i64 r2), (30, .pointer (some ⟨b0, 1, none⟩))]) (w' := w9) kr ?_
     refine WR.st (St.ofR (RSt.loadObj (t := 64) (k := 1) (v := .slice A13 p0.2.1.length c14) (.tmp 30) kr kr kr 1 hS rfl kr rfl ?_))
     refine WR.runk [4] [5, 6, 7, 8, 9, 10, 11] [31, 32] (L' := [(31, .slice A13 p0.2.1.length c14), (32, .int .i64 r2)]) (w' := w9) kr ?_
     refine WR.st (St.ofP (PSt.idx (k := .i64) (.tmp 31) (.tmp 32) kr kr E64 kr kr (rdS.upd R17 (Sat.ghAt 0 hS rfl)) e19 ?_))
     refine WR.runk [6] [7, 8, 9, 10, 11] [31, 32, 34] (L' := [(31, .slice A13 p0.2.1.length c14), (32, .int .i64 r2), (34, .pointer (some ((adr A13 r2.toNat 4).add 3)))]) (w' := w9) kr ?_
     refine WR.st (St.ofR (RSt.loadPartV (t := 3) (κ := (.pair (.int .i64) (.pair (.slice 5 (.int .u8)) (.pair .bool (.int .i64))))) (.tmp 34) 3 kr kr kr kr R17 e19 (Sat.ghAt 0 hS rfl) (u := .int .i64 v18.2.2.2) (fun cv hcv => by obtain ⟨_, _, rfl, _⟩ := F63.un hcv; rfl) ?_))
     refine WR.runk [8] [9, 10, 11] [31, 32, 36] (L' := [(31, .slice A13 p0.2.1.length c14), (32, .int .i64 r2), (36, .int .i64 (wi (v18.2.2.2 - 1)))]) (w' := w9) kr ?_
     refine WR.st (St.ofP (PSt.idx (k := .i64) (.tmp 31) (.tmp 32) kr kr E64 kr kr (rdS.upd R17 (Sat.ghAt 0 hS rfl)) e19 ?_))
     refine WR.runk [10] [11] [36, 38] (L' := [(36, .int .i64 (wi (v18.2.2.2 - 1))), (38, .pointer (some ((adr A13 r2.toNat 4).add 3)))]) (w' := w9) kr ?_
     have hS : Sat w9 B [orw 63 F63 4 A13 c14 p0.2.1, pts b0 (.cells #[pv12, .slice A13 p0.2.1.length c14, .int .i64 p0.2.2.1, .int .i64 p0.2.2.2.1, .int .i64 p0.2.2.2.2] 66 (0, 0)), optP O80 pv12 p0.1] := Sat.ungh hK16 hS
     refine WR.st (St.storePartRow (t := 3) (v' := (v18.1, v18.2.1, v18.2.2.1, wi (v18.2.2.2 - 1))) (.tmp 38) (.tmp 36) 3 kr kr kr hS kr kr kr kr e19 (fun cv H h => by obtain ⟨a, rfl, h⟩ := h; exact ⟨a, rfl, h⟩) (fun w21 hS => ?_))
     have hS : Sat w21 B [orw 63 F63 4 A13 c14 (List.set p0.2.1 r2.toNat (v18.1, v18.2.1, v18.2.2.1, wi (v18.2.2.2 - 1))), pts b0 (.cells #[pv12, .slice A13 p0.2.1.length c14, .int .i64 p0.2.2.1, .int .i64 p0.2.2.2.1, .int .i64 p0.2.2.2.2] 66 (0, 0)), optP O80 pv12 p0.1] := hS
     have hl22 : List.length (List.set p0.2.1 r2.toNat (v18.1, v18.2.1, v18.2.2.1, wi (v18.2.2.2 - 1))) = List.length p0.2.1 := List.length_set
     have e23 : at? (List.set p0.2.1 r2.toNat (v18.1, v18.2.1, v18.2.2.1, wi (v18.2.2.2 - 1))) r2 = some (v18.1, v18.2.1, v18.2.2.1, wi (v18.2.2.2 - 1)) := at?_set e19
     have hS : Sat w21 B [orw 63 F63 4 A13 c14 (List.set p0.2.1 r2.toNat (v18.1, v18.2.1, v18.2.2.1, wi (v18.2.2.2 - 1))), pts b0 (.cells #[pv12, .slice A13 (List.set p0.2.1 r2.toNat (v18.1, v18.2.1, v18.2.2.1, wi (v18.2.2.2 - 1))).length c14, .int .i64 p0.2.2.1, .int .i64 p0.2.2.2.1, .int .i64 p0.2.2.2.2] 66 (0, 0)), optP O80 pv12 p0.1] := by simpa only [hl22] using hS
     refine WR.runk [] [] [] (L' := []) (w' := w21) kr ?_
     refine WR.nil ?_
     refine At.go ?_
     refine WC.seq kr ?_
     refine WC.reg [0] kr kr ?_
     refine WR.runk [0] [] [4] (L' := [(4, .bool true)]) (w' := w21) kr ?_
     refine WR.nil ?_
     refine At.go ?_
     refine WC.ret kr ?_
     obtain rfl := Option.some.inj H
     have hS : Sat w21 B [pts b0 (.cells #[pv12, .slice A13 (List.set p0.2.1 r2.toNat (v18.1, v18.2.1, v18.2.2.1, wi (v18.2.2.2 - 1))).length c14, .int .i64 p0.2.2.1, .int .i64 p0.2.2.2.1, .int .i64 p0.2.2.2.2] 66 (0, 0)), optP O80 pv12 p0.1, orw 63 F63 4 A13 c14 (List.set p0.2.1 r2.toNat (v18.1, v18.2.1, v18.2.2.1, wi (v18.2.2.2 - 1)))] := hS.sel [1, 2, 0] kr
     have hS : Sat w21 B [O66 b0 (p0.1, (List.set p0.2.1 r2.toNat (v18.1, v18.2.1, v18.2.2.1, wi (v18.2.2.2 - 1))), p0.2.2.1, p0.2.2.2.1, p0.2.2.2.2)] := O66.close (p0.1, (List.set p0.2.1 r2.toNat (v18.1, v18.2.1, v18.2.2.1, wi (v18.2.2.2 - 1))), p0.2.2.1, p0.2.2.2.1, p0.2.2.2.2) pv12 A13 c14 hS
     have hS : Sat w21 B [O66 b0 (p0.1, (List.set p0.2.1 r2.toNat (v18.1, v18.2.1, v18.2.2.1, wi (v18.2.2.2 - 1))), p0.2.2.1, p0.2.2.2.1, p0.2.2.2.2)] := hS.sel [0] kr
     exact At.body [.bool true] kr ⟨_, rfl, rfl, hS⟩
/-! ### 14 (*colophon/cache.Cache).Has -/
def cache_Cache_Has.f (p0 : Option ((Option ((List (List Int)) × (List Int) × (List Int))) × (List (Int × (List Int) × Bool × Int)) × Int × Int × Int)) (a1 : Int) : Option Bool := (match p0 with | none => some false | some y3 => (if decide (a1 ≥ 0) then ((cache_Cache_at.f (some y3) a1).bind fun r15 => some (decide (r15 ≥ 0))) else some false))
def cache_Cache_Has.post (w : World) (r : Bool) (v : Value) (w' : World) : Prop := v = (.bool r : Value) ∧ Sat w' (rf w) []
theorem cache_Cache_Has.calls (w0 : World) (v0 : Value) (p0 : Option ((Option ((List (List Int)) × (List Int) × (List Int))) × (List (Int × (List Int) × Bool × Int)) × Int × Int × Int)) (R0 : rd (hp w0) (.ptr 66 (.pair (.ptr 80 (.pair (.slice 31 (.slice 5 (.int .u8))) (.pair (.slice 3 (.int .i64)) (.slice 3 (.int .i64))))) (.pair (.slice 63 (.pair (.int .i64) (.pair (.slice 5 (.int .u8)) (.pair .bool (.int .i64))))) (.pair (.int .i64) (.pair (.int .i64) (.int .i64)))))) [v0] p0) (a1 : Int) (r : Bool) (H : cache_Cache_Has.f p0 a1 = some r) :
    Calls Try.prog 14 #[v0, .int .i64 a1] w0 (fun e w' => ∃ v, e = .returned v ∧ cache_Cache_Has.post w0 r v w') := by
  have hS : Sat w0 (rf w0) [] := Sat.start w0
  unfold cache_Cache_Has.f at H
  refine calls_of_WC (vs := [v0, .int .i64 a1]) Try.func14 (c := C14) (n := 17) kr kr kr ?_
  refine WC.seq kr ?_
  refine WC.reg [0] kr kr ?_
  refine WR.runk [0] [] [0, 1] (L' := [(0, v0), (1, .int .i64 a1)]) (w' := w0) kr ?_
  refine WR.nil ?_
  refine At.go ?_
  refine WC.seq kr ?_
  refine WC.reg [0, 1, 2, 3, 4, 5, 6, 7, 8, 9, 10, 11, 12] kr kr ?_
  refine WR.runk [0] [1, 2, 3, 4, 5, 6, 7, 8, 9, 10, 11, 12] [0, 1, 5] (L' := [(0, v0), (1, .int .i64 a1), (5, v0)]) (w' := w0) kr ?_
  rcases opt_cases p0 with hr1 | ⟨y3, hr1⟩
  ·rw [hr1] at H
   dsimp only at H
   have hx2 := rd_ptr_none R0 hr1
   try subst hx2
   refine WR.runk [1, 2, 3, 4, 5, 6, 7, 8, 9, 10, 11, 12] [] [4] (L' := [(4, .bool false)]) (w' := w0) kr ?_
   refine WR.nil ?_
   refine At.go ?_
   refine WC.ret kr ?_
   obtain rfl := Option.some.inj H
   have hS : Sat w0 (rf w0) [] := hS.sel [] kr
   exact At.body [.bool false] kr ⟨_, rfl, rfl, hS⟩
  ·rw [hr1] at H
   dsimp only at H
   obtain ⟨b4, fr5, u9, A11, c12, hv6, hb7, R10, R13⟩ := P66.open R0 hr1
   have R8 := R0
   rw [hv6, hr1] at R8
   try subst hv6
   replace R10 : rd (hp w0) (.ptr 80 (.pair (.slice 31 (.slice 5 (.int .u8))) (.pair (.slice 3 (.int .i64)) (.slice 3 (.int .i64))))) [u9] y3.1 := R10
   replace R13 : rdS (rd (hp w0) (.pair (.int .i64) (.pair (.slice 5 (.int .u8)) (.pair .bool (.int .i64))))) 4 (hp w0) A11 c12 y3.2.1 := R13
   refine WR.runk [1, 2, 3, 4, 5, 6] [7, 8, 9, 10, 11, 12] [0, 1, 11] (L' := [(0, .pointer (some ⟨b4, 0, none⟩)), (1, .int .i64 a1), (11, .bool (decide (a1 ≥ 0)))]) (w' := w0) kr ?_
   refine WR.split 11 (b := decide (a1 ≥ 0)) kr (fun hb14 => ?_) (fun hb14 => ?_)
   ·replace H := ite_t H hb14
    refine WR.runk [7, 8] [9, 10, 11, 12] [11, 12, 13] (L' := [(11, .bool true), (12, .pointer (some ⟨b4, 0, none⟩)), (13, .int .i64 a1)]) (w' := w0) kr ?_
    obtain ⟨r15, e16, H⟩ := bind_ex H
    refine WR.st (St.call kr (f := 20) (args := #[.pointer (some ⟨b4, 0, none⟩), .int .i64 a1]) kr (cache_Cache_at.calls w0 (.pointer (some ⟨b4, 0, none⟩)) (some y3) (rd.mono hS.sub0 _ _ _ R8) a1 r15 e16) ?_)
    rintro _ w22 ⟨rfl, hS23⟩
    have hS : Sat w22 (rf w0) [] := hS.ext hS23
    refine WR.runk [10, 11, 12] [] [4] (L' := [(4, .bool (decide (r15 ≥ 0)))]) (w' := w22) kr ?_
    refine WR.nil ?_
    refine At.go ?_
    refine WC.ret kr ?_
    obtain rfl := Option.some.inj H
    have hS : Sat w22 (rf w0) [] := hS.sel [] kr
    exact At.body [.bool (decide (r15 ≥ 0))] kr ⟨_, rfl, rfl, hS⟩
   ·replace H := ite_f H hb14
    refine WR.runk [7, 8, 9, 10, 11, 12] [] [4] (L' := [(4, .bool false)]) (w' := w0) kr ?_
    refine WR.nil ?_
    refine At.go ?_
    refine WC.ret kr ?_
    obtain rfl := Option.some.inj H
    have hS : Sat w0 (rf w0) [] := hS.sel [] kr
    exact At.body [.bool false] kr ⟨_, rfl, rfl, hS⟩
/-! ### 15 (*colophon/cache.Cache).Stats -/
def cache_Cache_Stats.l1 (y6 : (Option ((List (List Int)) × (List Int) × (List Int))) × (List (Int × (List Int) × Bool × Int)) × Int × Int × Int) : Nat → Int → (Int × Int × Int × Int) → Option (Int × Int × Int × Int)
  | 0, _, _ => none
  | k + 1, x23_l1, q21_l1 => (if decide (x23_l1 < (y6.2.1.length : Int)) then ((at? y6.2.1 x23_l1).bind fun v24 => (if decide (v24.1 ≥ 0) then (if decide (v24.2.2.2 > 0) then cache_Cache_Stats.l1 y6 k (wi (x23_l1 + 1)) (q21_l1.1, q21_l1.2.1, wi (q21_l1.2.2.1 + 1), wi (q21_l1.2.2.2 + 1)) else cache_Cache_Stats.l1 y6 k (wi (x23_l1 + 1)) (q21_l1.1, q21_l1.2.1, wi (q21_l1.2.2.1 + 1), q21_l1.2.2.2)) else (if decide (v24.2.2.2 > 0) then cache_Cache_Stats.l1 y6 k (wi (x23_l1 + 1)) (q21_l1.1, q21_l1.2.1, q21_l1.2.2.1, wi (q21_l1.2.2.2 + 1)) else cache_Cache_Stats.l1 y6 k (wi (x23_l1 + 1)) q21_l1))) else some q21_l1)
def cache_Cache_Stats.f (p0 : Option ((Option ((List (List Int)) × (List Int) × (List Int))) × (List (Int × (List Int) × Bool × Int)) × Int × Int × Int)) : Option (Int × Int × Int × Int) := (match p0 with | none => some (0, 0, 0, 0) | some y6 => ((cache_Cache_Stats.l1 y6 FU 0 (y6.2.2.2.1, y6.2.2.2.2, 0, 0)).bind fun o39 => some (o39.1, o39.2.1, o39.2.2.1, o39.2.2.2)))
def cache_Cache_Stats.post (w : World) (r : (Int × Int × Int × Int)) (v : Value) (w' : World) : Prop := v = (.agg #[.int .i64 r.1, .int .i64 r.2.1, .int .i64 r.2.2.1, .int .i64 r.2.2.2] : Value) ∧ Sat w' (rf w) []
theorem cache_Cache_Stats.l1_ok {Q} (w0 : World) (b1 : Nat) (y6 : (Option ((List (List Int)) × (List Int) × (List Int))) × (List (Int × (List Int) × Bool × Int)) × Int × Int × Int) (A14 : Option Addr) (c15 : Nat) (b19 : Nat) (R16 : rdS (rd (hp w0) (.pair (.int .i64) (.pair (.slice 5 (.int .u8)) (.pair .bool (.int .i64))))) 4 (hp w0) A14 c15 y6.2.1) (out : (Int × Int × Int × Int)) (hn0 : ∀ (w : World), Sat w (rf w0) [O44 b1 (0, 0, 0, 0), O44 b19 out] → At Q (.exit 0) 43 [(2, .pointer (some ⟨b1, 0, none⟩)), (3, .pointer (some ⟨b19, 0, none⟩))] w) :
    ∀ (k : Nat) (x23_l1 : Int) (q21_l1 : Int × Int × Int × Int) (w : World), Sat w (rf w0) [O44 b1 (0, 0, 0, 0), O44 b19 q21_l1] → cache_Cache_Stats.l1 y6 k x23_l1 q21_l1 = some out → WL Try.prog (cbody (cbody (cr (cl (cr (cr (cr C15))))))) Q 43 [(2, .pointer (some ⟨b1, 0, none⟩)), (3, .pointer (some ⟨b19, 0, none⟩)), (21, .slice A14 y6.2.1.length c15), (22, .int .i64 (y6.2.1.length : Int)), (23, .int .i64 x23_l1)] w := by
  intro k
  induction k with
  | zero => intro x23_l1 q21_l1 w hS H; exact absurd (show none = some out from H) (by simp)
  | succ k ih =>
    intro x23_l1 q21_l1 w hS H
    unfold cache_Cache_Stats.l1 at H
    refine WL.round ?_
    refine WC.seq kr ?_
    refine WC.reg [0] kr kr ?_
    refine WR.runk [0] [] [2, 3, 21, 22, 23, 24] (L' := [(2, .pointer (some ⟨b1, 0, none⟩)), (3, .pointer (some ⟨b19, 0, none⟩)), (21, .slice A14 y6.2.1.length c15), (22, .int .i64 (y6.2.1.length : Int)), (23, .int .i64 x23_l1), (24, .bool (decide (x23_l1 < (y6.2.1.length : Int))))]) (w' := w) kr ?_
    refine WR.nil ?_
    refine At.go ?_
    refine WC.seq kr ?_
    refine WC.cond kr (decide (x23_l1 < (y6.2.1.length : Int))) kr kr (fun hb23 => ?_) (fun hb23 => ?_)
    ·replace H := ite_t H hb23
     refine WC.skip kr ?_
     refine At.go ?_
     refine WC.seq kr ?_
     refine WC.block kr ?_
     refine WC.seq kr ?_
     refine WC.reg [0, 1, 2, 3] kr kr ?_
     refine WR.runk [] [0, 1, 2, 3] [2, 3, 21, 22, 23] (L' := [(2, .pointer (some ⟨b1, 0, none⟩)), (3, .pointer (some ⟨b19, 0, none⟩)), (21, .slice A14 y6.2.1.length c15), (22, .int .i64 (y6.2.1.length : Int)), (23, .int .i64 x23_l1)]) (w' := w) kr ?_
     obtain ⟨v24, e25, H⟩ := bind_ex H
     refine WR.st (St.ofP (PSt.idx (k := .i64) (.tmp 21) (.tmp 23) kr kr E64 kr kr (rdS.up R16 hS.sub0) e25 ?_))
     refine WR.runk [] [1, 2, 3] [2, 3, 21, 22, 23, 25] (L' := [(2, .pointer (some ⟨b1, 0, none⟩)), (3, .pointer (some ⟨b19, 0, none⟩)), (21, .slice A14 y6.2.1.length c15), (22, .int .i64 (y6.2.1.length : Int)), (23, .int .i64 x23_l1), (25, .pointer (some (adr A14 x23_l1.toNat 4)))]) (w' := w) kr ?_
     refine WR.st (St.ofR (RSt.loadAggR (t := 63) (κ := (.pair (.int .i64) (.pair (.slice 5 (.int .u8)) (.pair .bool (.int .i64))))) (.tmp 25) kr kr kr kr kr R16 e25 hS.sub0 (fun cv hcv => ?_)))
     obtain ⟨A26, c27, rfl, R28⟩ := F63.un hcv
     replace R28 : rdS (r0 (.int .u8)) 1 (hp w0) A26 c27 v24.2.1 := R28
     clear hcv
     refine WR.runk [] [2, 3] [2, 3, 21, 22, 23, 26] (L' := [(2, .pointer (some ⟨b1, 0, none⟩)), (3, .pointer (some ⟨b19, 0, none⟩)), (21, .slice A14 y6.2.1.length c15), (22, .int .i64 (y6.2.1.length : Int)), (23, .int .i64 x23_l1), (26, .agg #[.int .i64 v24.1, .slice A26 v24.2.1.length c27, .bool v24.2.2.1, .int .i64 v24.2.2.2])]) (w' := w) kr ?_
     refine WR.st (St.box hS kr (.cells #[.int .i64 0, .slice none 0 0, .bool false, .int .i64 0] 63) (fun b29 => .pointer (some ⟨b29, 0, none⟩)) (fun _ => by kernel_rfl) (fun b29 w30 hS => ?_))
     refine WR.runk [] [3] [2, 3, 5, 21, 22, 23, 26] (L' := [(2, .pointer (some ⟨b1, 0, none⟩)), (3, .pointer (some ⟨b19, 0, none⟩)), (5, .pointer (some ⟨b29, 0, none⟩)), (21, .slice A14 y6.2.1.length c15), (22, .int .i64 (y6.2.1.length : Int)), (23, .int .i64 x23_l1), (26, .agg #[.int .i64 v24.1, .slice A26 v24.2.1.length c27, .bool v24.2.2.1, .int .i64 v24.2.2.2])]) (w' := w30) kr ?_
     refine WR.st (St.storeAll (t := 63) (vs := [.int .i64 v24.1, .slice A26 v24.2.1.length c27, .bool v24.2.2.1, .int .i64 v24.2.2.2]) (.tmp 5) (.tmp 26) kr kr kr hS kr kr kr kr (fun w32 hS => ?_))
     have hS : Sat w32 (rf w0) [pts b29 (.cells #[.int .i64 v24.1, .slice A26 v24.2.1.length c27, .bool v24.2.2.1, .int .i64 v24.2.2.2] 63 (0, 0)), O44 b1 (0, 0, 0, 0), O44 b19 q21_l1] := hS
     refine WR.runk [] [] [2, 3, 5, 21, 22, 23] (L' := [(2, .pointer (some ⟨b1, 0, none⟩)), (3, .pointer (some ⟨b19, 0, none⟩)), (5, .pointer (some ⟨b29, 0, none⟩)), (21, .slice A14 y6.2.1.length c15), (22, .int .i64 (y6.2.1.length : Int)), (23, .int .i64 x23_l1)]) (w' := w32) kr ?_
     refine WR.nil ?_
     refine At.go ?_
     refine WC.seq kr ?_
     refine WC.seq kr ?_
     refine WC.reg [0, 1, 2] kr kr ?_
     refine WR.runk [0] [1, 2] [2, 3, 5, 21, 22, 23, 27] (L' := [(2, .pointer (some ⟨b1, 0, none⟩)), (3, .pointer (some ⟨b19, 0, none⟩)), (5, .pointer (some ⟨b29, 0, none⟩)), (21, .slice A14 y6.2.1.length c15), (22, .int .i64 (y6.2.1.length : Int)), (23, .int .i64 x23_l1), (27, .pointer (some ⟨b29, 0, none⟩))]) (w' := w32) kr ?_
     refine WR.st (St.ofR (RSt.loadObj (t := 3) (k := 0) (v := .int .i64 v24.1) (.tmp 27) kr kr kr 0 hS rfl kr rfl ?_))
     refine WR.runk [2] [] [2, 3, 5, 21, 22, 23, 29] (L' := [(2, .pointer (some ⟨b1, 0, none⟩)), (3, .pointer (some ⟨b19, 0, none⟩)), (5, .pointer (some ⟨b29, 0, none⟩)), (21, .slice A14 y6.2.1.length c15), (22, .int .i64 (y6.2.1.length : Int)), (23, .int .i64 x23_l1), (29, .bool (decide (v24.1 ≥ 0)))]) (w' := w32) kr ?_
     refine WR.nil ?_
     refine At.go ?_
     refine WC.cond kr (decide (v24.1 ≥ 0)) kr kr (fun hb33 => ?_) (fun hb33 => ?_)
     ·replace H := ite_t H hb33
      refine WC.reg [0, 1, 2, 3, 4] kr kr ?_
      refine WR.runk [0] [1, 2, 3, 4] [2, 3, 5, 21, 22, 23, 30] (L' := [(2, .pointer (some ⟨b1, 0, none⟩)), (3, .pointer (some ⟨b19, 0, none⟩)), (5, .pointer (some ⟨b29, 0, none⟩)), (21, .slice A14 y6.2.1.length c15), (22, .int .i64 (y6.2.1.length : Int)), (23, .int .i64 x23_l1), (30, .pointer (some ⟨b19, 2, none⟩))]) (w' := w32) kr ?_
      have hS : Sat w32 (rf w0) [O44 b19 q21_l1, pts b29 (.cells #[.int .i64 v24.1, .slice A26 v24.2.1.length c27, .bool v24.2.2.1, .int .i64 v24.2.2.2] 63 (0, 0)), O44 b1 (0, 0, 0, 0)] := hS.sel [2, 0, 1] kr
      have hS := O44.open hS
      have hS : Sat w32 (rf w0) [pts b19 (.cells #[.int .i64 q21_l1.1, .int .i64 q21_l1.2.1, .int .i64 q21_l1.2.2.1, .int .i64 q21_l1.2.2.2] 44 (0, 0)), pts b29 (.cells #[.int .i64 v24.1, .slice A26 v24.2.1.length c27, .bool v24.2.2.1, .int .i64 v24.2.2.2] 63 (0, 0)), O44 b1 (0, 0, 0, 0)] := hS
      refine WR.st (St.ofR (RSt.loadObj (t := 3) (k := 2) (v := .int .i64 q21_l1.2.2.1) (.tmp 30) kr kr kr 0 hS rfl kr rfl ?_))
      refine WR.runk [2, 3] [4] [2, 3, 5, 21, 22, 23, 32, 33] (L' := [(2, .pointer (some ⟨b1, 0, none⟩)), (3, .pointer (some ⟨b19, 0, none⟩)), (5, .pointer (some ⟨b29, 0, none⟩)), (21, .slice A14 y6.2.1.length c15), (22, .int .i64 (y6.2.1.length : Int)), (23, .int .i64 x23_l1), (32, .int .i64 (wi (q21_l1.2.2.1 + 1))), (33, .pointer (some ⟨b19, 2, none⟩))]) (w' := w32) kr ?_
      refine WR.st (St.storeObj (t := 3) (k := 2) (cur' := #[.int .i64 q21_l1.1, .int .i64 q21_l1.2.1, .int .i64 (wi (q21_l1.2.2.1 + 1)), .int .i64 q21_l1.2.2.2]) (.tmp 33) (.tmp 32) kr kr kr hS kr kr kr rfl rfl (fun w34 hS => ?_))
      refine WR.runk [] [] [2, 3, 5, 21, 22, 23] (L' := [(2, .pointer (some ⟨b1, 0, none⟩)), (3, .pointer (some ⟨b19, 0, none⟩)), (5, .pointer (some ⟨b29, 0, none⟩)), (21, .slice A14 y6.2.1.length c15), (22, .int .i64 (y6.2.1.length : Int)), (23, .int .i64 x23_l1)]) (w' := w34) kr ?_
      refine WR.nil ?_
      refine At.go ?_
      refine WC.seq kr ?_
      refine WC.reg [0, 1, 2] kr kr ?_
      refine WR.runk [0] [1, 2] [2, 3, 21, 22, 23, 34] (L' := [(2, .pointer (some ⟨b1, 0, none⟩)), (3, .pointer (some ⟨b19, 0, none⟩)), (21, .slice A14 y6.2.1.length c15), (22, .int .i64 (y6.2.1.length : Int)), (23, .int .i64 x23_l1), (34, .pointer (some ⟨b29, 3, none⟩))]) (w' := w34) kr ?_
      refine WR.st (St.ofR (RSt.loadObj (t := 3) (k := 3) (v := .int .i64 v24.2.2.2) (.tmp 34) kr kr kr 1 hS rfl kr rfl ?_))
      refine WR.runk [2] [] [2, 3, 21, 22, 23, 36] (L' := [(2, .pointer (some ⟨b1, 0, none⟩)), (3, .pointer (some ⟨b19, 0, none⟩)), (21, .slice A14 y6.2.1.length c15), (22, .int .i64 (y6.2.1.length : Int)), (23, .int .i64 x23_l1), (36, .bool (decide (v24.2.2.2 > 0)))]) (w' := w34) kr ?_
      refine WR.nil ?_
      refine At.go ?_
      refine WC.cond kr (decide (v24.2.2.2 > 0)) kr kr (fun hb35 => ?_) (fun hb35 => ?_)
      ·replace H := ite_t H hb35
       refine WC.reg [0, 1, 2, 3, 4] kr kr ?_
       refine WR.runk [0] [1, 2, 3, 4] [2, 3, 21, 22, 23, 37] (L' := [(2, .pointer (some ⟨b1, 0, none⟩)), (3, .pointer (some ⟨b19, 0, none⟩)), (21, .slice A14 y6.2.1.length c15), (22, .int .i64 (y6.2.1.length : Int)), (23, .int .i64 x23_l1), (37, .pointer (some ⟨b19, 3, none⟩))]) (w' := w34) kr ?_
       refine WR.st (St.ofR (RSt.loadObj (t := 3) (k := 3) (v := .int .i64 q21_l1.2.2.2) (.tmp 37) kr kr kr 0 hS rfl kr rfl ?_))
       refine WR.runk [2, 3] [4] [2, 3, 21, 22, 23, 39, 40] (L' := [(2, .pointer (some ⟨b1, 0, none⟩)), (3, .pointer (some ⟨b19, 0, none⟩)), (21, .slice A14 y6.2.1.length c15), (22, .int .i64 (y6.2.1.length : Int)), (23, .int .i64 x23_l1), (39, .int .i64 (wi (q21_l1.2.2.2 + 1))), (40, .pointer (some ⟨b19, 3, none⟩))]) (w' := w34) kr ?_
       refine WR.st (St.storeObj (t := 3) (k := 3) (cur' := #[.int .i64 q21_l1.1, .int .i64 q21_l1.2.1, .int .i64 (wi (q21_l1.2.2.1 + 1)), .int .i64 (wi (q21_l1.2.2.2 + 1))]) (.tmp 40) (.tmp 39) kr kr kr hS kr kr kr rfl rfl (fun w36 hS => ?_))
       refine WR.runk [] [] [2, 3, 21, 22, 23] (L' := [(2, .pointer (some ⟨b1, 0, none⟩)), (3, .pointer (some ⟨b19, 0, none⟩)), (21, .slice A14 y6.2.1.length c15), (22, .int .i64 (y6.2.1.length : Int)), (23, .int .i64 x23_l1)]) (w' := w36) kr ?_
       refine WR.nil ?_
       refine At.blockNormal ?_
       refine At.go ?_
       refine WC.reg [0, 1] kr kr ?_
       refine WR.runk [0, 1] [] [2, 3, 21, 22, 23] (L' := [(2, .pointer (some ⟨b1, 0, none⟩)), (3, .pointer (some ⟨b19, 0, none⟩)), (21, .slice A14 y6.2.1.length c15), (22, .int .i64 (y6.2.1.length : Int)), (23, .int .i64 (wi (x23_l1 + 1)))]) (w' := w36) kr ?_
       refine WR.nil ?_
       have hS : Sat w36 (rf w0) [pts b19 (.cells #[.int .i64 q21_l1.1, .int .i64 q21_l1.2.1, .int .i64 (wi (q21_l1.2.2.1 + 1)), .int .i64 (wi (q21_l1.2.2.2 + 1))] 44 (0, 0)), pts b29 (.cells #[.int .i64 v24.1, .slice A26 v24.2.1.length c27, .bool v24.2.2.1, .int .i64 v24.2.2.2] 63 (0, 0)), O44 b1 (0, 0, 0, 0)] := hS.sel [0, 1, 2] kr
       have hS : Sat w36 (rf w0) [O44 b19 (q21_l1.1, q21_l1.2.1, wi (q21_l1.2.2.1 + 1), wi (q21_l1.2.2.2 + 1)), pts b29 (.cells #[.int .i64 v24.1, .slice A26 v24.2.1.length c27, .bool v24.2.2.1, .int .i64 v24.2.2.2] 63 (0, 0)), O44 b1 (0, 0, 0, 0)] := O44.close (q21_l1.1, q21_l1.2.1, wi (q21_l1.2.2.1 + 1), wi (q21_l1.2.2.2 + 1)) hS
       have hS : Sat w36 (rf w0) [O44 b1 (0, 0, 0, 0), O44 b19 (q21_l1.1, q21_l1.2.1, wi (q21_l1.2.2.1 + 1), wi (q21_l1.2.2.2 + 1))] := hS.sel [2, 0] kr
       refine At.again ?_
       refine WL.weaken [2, 3, 21, 22, 23] (L' := [(2, .pointer (some ⟨b1, 0, none⟩)), (3, .pointer (some ⟨b19, 0, none⟩)), (21, .slice A14 y6.2.1.length c15), (22, .int .i64 (y6.2.1.length : Int)), (23, .int .i64 (wi (x23_l1 + 1)))]) kr ?_
       exact ih (wi (x23_l1 + 1)) (q21_l1.1, q21_l1.2.1, wi (q21_l1.2.2.1 + 1), wi (q21_l1.2.2.2 + 1)) _ hS H
      ·replace H := ite_f H hb35
       refine WC.skip kr ?_
       refine At.blockNormal ?_
       refine At.go ?_
       refine WC.reg [0, 1] kr kr ?_
       refine WR.runk [0, 1] [] [2, 3, 21, 22, 23] (L' := [(2, .pointer (some ⟨b1, 0, none⟩)), (3, .pointer (some ⟨b19, 0, none⟩)), (21, .slice A14 y6.2.1.length c15), (22, .int .i64 (y6.2.1.length : Int)), (23, .int .i64 (wi (x23_l1 + 1)))]) (w' := w34) kr ?_
       refine WR.nil ?_
       have hS : Sat w34 (rf w0) [pts b19 (.cells #[.int .i64 q21_l1.1, .int .i64 q21_l1.2.1, .int .i64 (wi (q21_l1.2.2.1 + 1)), .int .i64 q21_l1.2.2.2] 44 (0, 0)), pts b29 (.cells #[.int .i64 v24.1, .slice A26 v24.2.1.length c27, .bool v24.2.2.1, .int .i64 v24.2.2.2] 63 (0, 0)), O44 b1 (0, 0, 0, 0)] := hS.sel [0, 1, 2] kr
       have hS : Sat w34 (rf w0) [O44 b19 (q21_l1.1, q21_l1.2.1, wi (q21_l1.2.2.1 + 1), q21_l1.2.2.2), pts b29 (.cells #[.int .i64 v24.1, .slice A26 v24.2.1.length c27, .bool v24.2.2.1, .int .i64 v24.2.2.2] 63 (0, 0)), O44 b1 (0, 0, 0, 0)] := O44.close (q21_l1.1, q21_l1.2.1, wi (q21_l1.2.2.1 + 1), q21_l1.2.2.2) hS
       have hS : Sat w34 (rf w0) [O44 b1 (0, 0, 0, 0), O44 b19 (q21_l1.1, q21_l1.2.1, wi (q21_l1.2.2.1 + 1), q21_l1.2.2.2)] := hS.sel [2, 0] kr
       refine At.again ?_
       refine WL.weaken [2, 3, 21, 22, 23] (L' := [(2, .pointer (some ⟨b1, 0, none⟩)), (3, .pointer (some ⟨b19, 0, none⟩)), (21, .slice A14 y6.2.1.length c15), (22, .int .i64 (y6.2.1.length : Int)), (23, .int .i64 (wi (x23_l1 + 1)))]) kr ?_
       exact ih (wi (x23_l1 + 1)) (q21_l1.1, q21_l1.2.1, wi (q21_l1.2.2.1 + 1), q21_l1.2.2.2) _ hS H
     ·replace H := ite_f H hb33
      refine WC.skip kr ?_
      refine At.go ?_
      refine WC.seq kr ?_
      refine WC.reg [0, 1, 2] kr kr ?_
      refine WR.runk [0] [1, 2] [2, 3, 21, 22, 23, 34] (L' := [(2, .pointer (some ⟨b1, 0, none⟩)), (3, .pointer (some ⟨b19, 0, none⟩)), (21, .slice A14 y6.2.1.length c15), (22, .int .i64 (y6.2.1.length : Int)), (23, .int .i64 x23_l1), (34, .pointer (some ⟨b29, 3, none⟩))]) (w' := w32) kr ?_
      refine WR.st (St.ofR (RSt.loadObj (t := 3) (k := 3) (v := .int .i64 v24.2.2.2) (.tmp 34) kr kr kr 0 hS rfl kr rfl ?_))
      refine WR.runk [2] [] [2, 3, 21, 22, 23, 36] (L' := [(2, .pointer (some ⟨b1, 0, none⟩)), (3, .pointer (some ⟨b19, 0, none⟩)), (21, .slice A14 y6.2.1.length c15), (22, .int .i64 (y6.2.1.length : Int)), (23, .int .i64 x23_l1), (36, .bool (decide (v24.2.2.2 > 0)))]) (w' := w32) kr ?_
      refine WR.nil ?_
      refine At.go ?_
      refine WC.cond kr (decide (v24.2.2.2 > 0)) kr kr (fun hb37 => ?_) (fun hb37 => ?_)
      ·replace H := ite_t H hb37
       refine WC.reg [0, 1, 2, 3, 4] kr kr ?_
       refine WR.runk [0] [1, 2, 3, 4] [2, 3, 21, 22, 23, 37] (L' := [(2, .pointer (some ⟨b1, 0, none⟩)), (3, .pointer (some ⟨b19, 0, none⟩)), (21, .slice A14 y6.2.1.length c15), (22, .int .i64 (y6.2.1.length : Int)), (23, .int .i64 x23_l1), (37, .pointer (some ⟨b19, 3, none⟩))]) (w' := w32) kr ?_
       have hS : Sat w32 (rf w0) [O44 b19 q21_l1, pts b29 (.cells #[.int .i64 v24.1, .slice A26 v24.2.1.length c27, .bool v24.2.2.1, .int .i64 v24.2.2.2] 63 (0, 0)), O44 b1 (0, 0, 0, 0)] := hS.sel [2, 0, 1] kr
       have hS := O44.open hS
       have hS : Sat w32 (rf w0) [pts b19 (.cells #[.int .i64 q21_l1.1, .int .i64 q21_l1.2.1, .int .i64 q21_l1.2.2.1, .int .i64 q21_l1.2.2.2] 44 (0, 0)), pts b29 (.cells #[.int .i64 v24.1, .slice A26 v24.2.1.length c27, .bool v24.2.2.1, .int .i64 v24.2.2.2] 63 (0, 0)), O44 b1 (0, 0, 0, 0)] := hS
       refine WR.st (St.ofR (RSt.loadObj (t := 3) (k := 3) (v := .int .i64 q21_l1.2.2.2) (.tmp 37) kr kr kr 0 hS rfl kr rfl ?_))
       refine WR.runk [2, 3] [4] [2, 3, 21, 22, 23, 39, 40] (L' := [(2, .pointer (some ⟨b1, 0, none⟩)), (3, .pointer (some ⟨b19, 0, none⟩)), (21, .slice A14 y6.2.1.length c15), (22, .int .i64 (y6.2.1.length : Int)), (23, .int .i64 x23_l1), (39, .int .i64 (wi (q21_l1.2.2.2 + 1))), (40, .pointer (some ⟨b19, 3, none⟩))]) (w' := w32) kr ?_
       refine WR.st (St.storeObj (t := 3) (k := 3) (cur' := #[.int .i64 q21_l1.1, .int .i64 q21_l1.2.1, .int .i64 q21_l1.2.2.1, .int .i64 (wi (q21_l1.2.2.2 + 1))]) (.tmp 40) (.tmp 39) kr kr kr hS kr kr kr rfl rfl (fun w38 hS => ?_))
       refine WR.runk [] [] [2, 3, 21, 22, 23] (L' := [(2, .pointer (some ⟨b1, 0, none⟩)), (3, .pointer (some ⟨b19, 0, none⟩)), (21, .slice A14 y6.2.1.length c15), (22, .int .i64 (y6.2.1.length : Int)), (23, .int .i64 x23_l1)]) (w' := w38) kr ?_
       refine WR.nil ?_
       refine At.blockNormal ?_
       refine At.go ?_
       refine WC.reg [0, 1] kr kr ?_
       refine WR.runk [0, 1] [] [2, 3, 21, 22, 23] (L' := [(2, .pointer (some ⟨b1, 0, none⟩)), (3, .pointer (some ⟨b19, 0, none⟩)), (21, .slice A14 y6.2.1.length c15), (22, .int .i64 (y6.2.1.length : Int)), (23, .int .i64 (wi (x23_l1 + 1)))]) (w' := w38) kr ?_
       refine WR.nil ?_
       have hS : Sat w38 (rf w0) [pts b19 (.cells #[.int .i64 q21_l1.1, .int .i64 q21_l1.2.1, .int .i64 q21_l1.2.2.1, .int .i64 (wi (q21_l1.2.2.2 + 1))] 44 (0, 0)), pts b29 (.cells #[.int .i64 v24.1, .slice A26 v24.2.1.length c27, .bool v24.2.2.1, .int .i64 v24.2.2.2] 63 (0, 0)), O44 b1 (0, 0, 0, 0)] := hS.sel [0, 1, 2] kr
       have hS : Sat w38 (rf w0) [O44 b19 (q21_l1.1, q21_l1.2.1, q21_l1.2.2.1, wi (q21_l1.2.2.2 + 1)), pts b29 (.cells #[.int .i64 v24.1, .slice A26 v24.2.1.length c27, .bool v24.2.2.1, .int .i64 v24.2.2.2] 63 (0, 0)), O44 b1 (0, 0, 0, 0)] := O44.close (q21_l1.1, q21_l1.2.1, q21_l1.2.2.1, wi (q21_l1.2.2.2 + 1)) hS
       have hS : Sat w38 (rf w0) [O44 b1 (0, 0, 0, 0), O44 b19 (q21_l1.1, q21_l1.2.1, q21_l1.2.2.1, wi (q21_l1.2.2.2 + 1))] := hS.sel [2, 0] kr
       refine At.again ?_
       refine WL.weaken [2, 3, 21, 22, 23] (L' := [(2, .pointer (some ⟨b1, 0, none⟩)), (3, .pointer (some ⟨b19, 0, none⟩)), (21, .slice A14 y6.2.1.length c15), (22, .int .i64 (y6.2.1.length : Int)), (23, .int .i64 (wi (x23_l1 + 1)))]) kr ?_
       exact ih (wi (x23_l1 + 1)) (q21_l1.1, q21_l1.2.1, q21_l1.2.2.1, wi (q21_l1.2.2.2 + 1)) _ hS H
      ·replace H := ite_f H hb37
       refine WC.skip kr ?_
       refine At.blockNormal ?_
       refine At.go ?_
       refine WC.reg [0, 1] kr kr ?_
       refine WR.runk [0, 1] [] [2, 3, 21, 22, 23] (L' := [(2, .pointer (some ⟨b1, 0, none⟩)), (3, .pointer (some ⟨b19, 0, none⟩)), (21, .slice A14 y6.2.1.length c15), (22, .int .i64 (y6.2.1.length : Int)), (23, .int .i64 (wi (x23_l1 + 1)))]) (w' := w32) kr ?_
       refine WR.nil ?_
       have hS : Sat w32 (rf w0) [O44 b1 (0, 0, 0, 0), O44 b19 q21_l1] := hS.sel [1, 2] kr
       refine At.again ?_
       refine WL.weaken [2, 3, 21, 22, 23] (L' := [(2, .pointer (some ⟨b1, 0, none⟩)), (3, .pointer (some ⟨b19, 0, none⟩)), (21, .slice A14 y6.2.1.length c15), (22, .int .i64 (y6.2.1.length : Int)), (23, .int .i64 (wi (x23_l1 + 1)))]) kr ?_
       exact ih (wi (x23_l1 + 1)) q21_l1 _ hS H
    ·replace H := ite_f H hb23
     refine WC.exit kr ?_
     refine At.thenExit ?_
     refine At.thenExit ?_
     obtain rfl := Option.some.inj H
     have hS : Sat w (rf w0) [O44 b1 (0, 0, 0, 0), O44 b19 q21_l1] := hS.sel [0, 1] kr
     refine At.weaken [2, 3] (L' := [(2, .pointer (some ⟨b1, 0, none⟩)), (3, .pointer (some ⟨b19, 0, none⟩))]) kr ?_
     exact hn0 _ hS
theorem cache_Cache_Stats.calls (w0 : World) (v0 : Value) (p0 : Option ((Option ((List (List Int)) × (List Int) × (List Int))) × (List (Int × (List Int) × Bool × Int)) × Int × Int × Int)) (R0 : rd (hp w0) (.ptr 66 (.pair (.ptr 80 (.pair (.slice 31 (.slice 5 (.int .u8))) (.pair (.slice 3 (.int .i64)) (.slice 3 (.int .i64))))) (.pair (.slice 63 (.pair (.int .i64) (.pair (.slice 5 (.int .u8)) (.pair .bool (.int .i64))))) (.pair (.int .i64) (.pair (.int .i64) (.int .i64)))))) [v0] p0) (r : (Int × Int × Int × Int)) (H : cache_Cache_Stats.f p0 = some r) :
    Calls Try.prog 15 #[v0] w0 (fun e w' => ∃ v, e = .returned v ∧ cache_Cache_Stats.post w0 r v w') := by
  have hS : Sat w0 (rf w0) [] := Sat.start w0
  unfold cache_Cache_Stats.f at H
  refine calls_of_WC (vs := [v0]) Try.func15 (c := C15) (n := 43) kr kr kr ?_
  refine WC.seq kr ?_
  refine WC.reg [0] kr kr ?_
  refine WR.runk [] [0] [0] (L' := [(0, v0)]) (w' := w0) kr ?_
  refine WR.st (St.box hS kr (.cells #[.int .i64 0, .int .i64 0, .int .i64 0, .int .i64 0] 44) (fun b1 => .pointer (some ⟨b1, 0, none⟩)) (fun _ => by kernel_rfl) (fun b1 w2 hS => ?_))
  refine WR.runk [] [] [0, 2] (L' := [(0, v0), (2, .pointer (some ⟨b1, 0, none⟩))]) (w' := w2) kr ?_
  refine WR.nil ?_
  refine At.go ?_
  refine WC.seq kr ?_
  refine WC.seq kr ?_
  refine WC.reg [0, 1] kr kr ?_
  refine WR.runk [0] [1] [0, 2, 6] (L' := [(0, v0), (2, .pointer (some ⟨b1, 0, none⟩)), (6, v0)]) (w' := w2) kr ?_
  rcases opt_cases p0 with hr4 | ⟨y6, hr4⟩
  ·rw [hr4] at H
   dsimp only at H
   have hx5 := rd_ptr_none R0 hr4
   try subst hx5
   refine WR.runk [1] [] [0, 2, 7] (L' := [(0, .pointer none), (2, .pointer (some ⟨b1, 0, none⟩)), (7, .bool true)]) (w' := w2) kr ?_
   refine WR.nil ?_
   refine At.go ?_
   refine WC.condT kr kr kr ?_
   refine WC.seq kr ?_
   refine WC.reg [0, 1] kr kr ?_
   refine WR.runk [0] [1] [2, 8] (L' := [(2, .pointer (some ⟨b1, 0, none⟩)), (8, .agg #[.int .i64 0, .int .i64 0, .int .i64 0, .int .i64 0])]) (w' := w2) kr ?_
   refine WR.st (St.storeAll (t := 44) (vs := [.int .i64 0, .int .i64 0, .int .i64 0, .int .i64 0]) (.tmp 2) (.tmp 8) kr kr kr hS kr kr kr kr (fun w45 hS => ?_))
   have hS : Sat w45 (rf w0) [pts b1 (.cells #[.int .i64 0, .int .i64 0, .int .i64 0, .int .i64 0] 44 (0, 0))] := hS
   refine WR.runk [] [] [2] (L' := [(2, .pointer (some ⟨b1, 0, none⟩))]) (w' := w45) kr ?_
   refine WR.nil ?_
   refine At.go ?_
   refine WC.ret kr ?_
   refine At.thenRet ?_
   obtain rfl := Option.some.inj H
   have hS0 := hS
   have hS : Sat w45 (rf w0) [] := hS.sel [] kr
   exact At.bodyC (fun T hT => results_cell1 (a := 2) (t := 44) (vs := [.int .i64 0, .int .i64 0, .int .i64 0, .int .i64 0]) hT kr kr kr kr 0 hS0 rfl) ⟨_, rfl, rfl, hS⟩
  ·rw [hr4] at H
   dsimp only at H
   obtain ⟨b7, fr8, u12, A14, c15, hv9, hb10, R13, R16⟩ := P66.open R0 hr4
   have R11 := R0
   rw [hv9, hr4] at R11
   try subst hv9
   replace R13 : rd (hp w0) (.ptr 80 (.pair (.slice 31 (.slice 5 (.int .u8))) (.pair (.slice 3 (.int .i64)) (.slice 3 (.int .i64))))) [u12] y6.1 := R13
   replace R16 : rdS (rd (hp w0) (.pair (.int .i64) (.pair (.slice 5 (.int .u8)) (.pair .bool (.int .i64))))) 4 (hp w0) A14 c15 y6.2.1 := R16
   refine WR.runk [1] [] [0, 2, 7] (L' := [(0, .pointer (some ⟨b7, 0, none⟩)), (2, .pointer (some ⟨b1, 0, none⟩)), (7, .bool false)]) (w' := w2) kr ?_
   refine WR.nil ?_
   refine At.go ?_
   refine WC.condF kr kr kr ?_
   refine WC.skip kr ?_
   refine At.go ?_
   refine WC.seq kr ?_
   refine WC.drawn kr kr 11 kr (fun w17 hw18 => ?_)
   have hS := hS.heap hw18.1 hw18.2
   refine WD.weaken [0, 2] (L' := [(0, .pointer (some ⟨b7, 0, none⟩)), (2, .pointer (some ⟨b1, 0, none⟩))]) kr ?_
   refine WD.pure (i := 0) (v := .pointer (some ⟨b7, 0, none⟩)) kr kr (fun _ => by kernel_rfl) ?_
   refine WD.weaken [0, 2, 9] (L' := [(0, .pointer (some ⟨b7, 0, none⟩)), (2, .pointer (some ⟨b1, 0, none⟩)), (9, .pointer (some ⟨b7, 0, none⟩))]) kr ?_
   refine WD.pure (i := 1) (v := .pointer (some ⟨b7, 0, none⟩)) kr kr (fun _ => by kernel_rfl) ?_
   refine WD.weaken [0, 2, 10] (L' := [(0, .pointer (some ⟨b7, 0, none⟩)), (2, .pointer (some ⟨b1, 0, none⟩)), (10, .pointer (some ⟨b7, 0, none⟩))]) kr ?_
   refine WD.pure (i := 2) (v := .pointer (some ⟨b7, 3, none⟩)) kr kr (fun _ => by kernel_rfl) ?_
   refine WD.weaken [0, 2, 11] (L' := [(0, .pointer (some ⟨b7, 0, none⟩)), (2, .pointer (some ⟨b1, 0, none⟩)), (11, .pointer (some ⟨b7, 3, none⟩))]) kr ?_
   refine WD.ofR (i := 3) kr (RSt.loadRo (t := 3) (k := 3) (v := .int .i64 y6.2.2.2.1) (.tmp 11) kr kr kr hS.sub0 hb10 kr rfl ?_)
   refine WD.weaken [0, 2, 12] (L' := [(0, .pointer (some ⟨b7, 0, none⟩)), (2, .pointer (some ⟨b1, 0, none⟩)), (12, .int .i64 y6.2.2.2.1)]) kr ?_
   refine WD.pure (i := 4) (v := .pointer (some ⟨b7, 0, none⟩)) kr kr (fun _ => by kernel_rfl) ?_
   refine WD.weaken [0, 2, 12, 13] (L' := [(0, .pointer (some ⟨b7, 0, none⟩)), (2, .pointer (some ⟨b1, 0, none⟩)), (12, .int .i64 y6.2.2.2.1), (13, .pointer (some ⟨b7, 0, none⟩))]) kr ?_
   refine WD.pure (i := 5) (v := .pointer (some ⟨b7, 0, none⟩)) kr kr (fun _ => by kernel_rfl) ?_
   refine WD.weaken [0, 2, 12, 14] (L' := [(0, .pointer (some ⟨b7, 0, none⟩)), (2, .pointer (some ⟨b1, 0, none⟩)), (12, .int .i64 y6.2.2.2.1), (14, .pointer (some ⟨b7, 0, none⟩))]) kr ?_
   refine WD.pure (i := 6) (v := .pointer (some ⟨b7, 4, none⟩)) kr kr (fun _ => by kernel_rfl) ?_
   refine WD.weaken [0, 2, 12, 15] (L' := [(0, .pointer (some ⟨b7, 0, none⟩)), (2, .pointer (some ⟨b1, 0, none⟩)), (12, .int .i64 y6.2.2.2.1), (15, .pointer (some ⟨b7, 4, none⟩))]) kr ?_
   refine WD.ofR (i := 7) kr (RSt.loadRo (t := 3) (k := 4) (v := .int .i64 y6.2.2.2.2) (.tmp 15) kr kr kr hS.sub0 hb10 kr rfl ?_)
   refine WD.weaken [0, 2, 12, 16] (L' := [(0, .pointer (some ⟨b7, 0, none⟩)), (2, .pointer (some ⟨b1, 0, none⟩)), (12, .int .i64 y6.2.2.2.1), (16, .int .i64 y6.2.2.2.2)]) kr ?_
   refine WD.pure (i := 8) (v := .agg #[.int .i64 y6.2.2.2.1, .int .i64 y6.2.2.2.2, .int .i64 0, .int .i64 0]) kr kr (fun _ => by kernel_rfl) ?_
   refine WD.weaken [0, 2, 17] (L' := [(0, .pointer (some ⟨b7, 0, none⟩)), (2, .pointer (some ⟨b1, 0, none⟩)), (17, .agg #[.int .i64 y6.2.2.2.1, .int .i64 y6.2.2.2.2, .int .i64 0, .int .i64 0])]) kr ?_
   refine WD.act (i := 9) kr (St.box hS kr (.cells #[.int .i64 0, .int .i64 0, .int .i64 0, .int .i64 0] 44) (fun b19 => .pointer (some ⟨b19, 0, none⟩)) (fun _ => by kernel_rfl) (fun b19 w20 hS => ?_))
   refine ⟨(asked.cons (RSt.run (n := 43) (RSt.loadRo (t := 3) (k := 4) (v := .int .i64 y6.2.2.2.2) (.tmp 15) kr kr kr hS.sub0 hb10 kr rfl rfl)) (asked.cons (RSt.run (n := 43) (RSt.loadRo (t := 3) (k := 3) (v := .int .i64 y6.2.2.2.1) (.tmp 11) kr kr kr hS.sub0 hb10 kr rfl rfl)) (asked.nil _ _))), ?_⟩
   refine WD.weaken [0, 2, 3, 17] (L' := [(0, .pointer (some ⟨b7, 0, none⟩)), (2, .pointer (some ⟨b1, 0, none⟩)), (3, .pointer (some ⟨b19, 0, none⟩)), (17, .agg #[.int .i64 y6.2.2.2.1, .int .i64 y6.2.2.2.2, .int .i64 0, .int .i64 0])]) kr ?_
   refine WD.act (i := 10) kr (St.storeAll (t := 44) (vs := [.int .i64 y6.2.2.2.1, .int .i64 y6.2.2.2.2, .int .i64 0, .int .i64 0]) (.tmp 3) (.tmp 17) kr kr kr hS kr kr kr kr (fun w22 hS => ?_))
   have hS : Sat w22 (rf w0) [pts b19 (.cells #[.int .i64 y6.2.2.2.1, .int .i64 y6.2.2.2.2, .int .i64 0, .int .i64 0] 44 (0, 0)), pts b1 (.cells #[.int .i64 0, .int .i64 0, .int .i64 0, .int .i64 0] 44 (0, 0))] := hS
   refine ⟨(asked.anc kr (asked.anc kr (asked.nil _ _))), ?_⟩
   refine WD.weaken [0, 2, 3] (L' := [(0, .pointer (some ⟨b7, 0, none⟩)), (2, .pointer (some ⟨b1, 0, none⟩)), (3, .pointer (some ⟨b19, 0, none⟩))]) kr ?_
   refine WD.nil kr ?_
   refine At.go ?_
   refine WC.seq kr ?_
   refine WC.seq kr ?_
   refine WC.reg [0, 1, 2, 3, 4, 5] kr kr ?_
   refine WR.runk [0, 1, 2] [3, 4, 5] [2, 3, 20] (L' := [(2, .pointer (some ⟨b1, 0, none⟩)), (3, .pointer (some ⟨b19, 0, none⟩)), (20, .pointer (some ⟨b7, 1, none⟩))]) (w' := w22) kr ?_
   refine WR.st (St.ofR (RSt.loadRo (t := 64) (k := 1) (v := .slice A14 y6.2.1.length c15) (.tmp 20) kr kr kr hS.sub0 hb10 kr rfl ?_))
   refine WR.runk [4, 5] [] [2, 3, 21, 22, 23] (L' := [(2, .pointer (some ⟨b1, 0, none⟩)), (3, .pointer (some ⟨b19, 0, none⟩)), (21, .slice A14 y6.2.1.length c15), (22, .int .i64 (y6.2.1.length : Int)), (23, .int .i64 0)]) (w' := w22) kr ?_
   refine WR.nil ?_
   refine At.go ?_
   refine WC.block kr ?_
   have hS : Sat w22 (rf w0) [pts b1 (.cells #[.int .i64 0, .int .i64 0, .int .i64 0, .int .i64 0] 44 (0, 0)), pts b19 (.cells #[.int .i64 y6.2.2.2.1, .int .i64 y6.2.2.2.2, .int .i64 0, .int .i64 0] 44 (0, 0))] := hS.sel [1, 0] kr
   have hS : Sat w22 (rf w0) [O44 b1 (0, 0, 0, 0), pts b19 (.cells #[.int .i64 y6.2.2.2.1, .int .i64 y6.2.2.2.2, .int .i64 0, .int .i64 0] 44 (0, 0))] := O44.close (0, 0, 0, 0) hS
   have hS : Sat w22 (rf w0) [pts b19 (.cells #[.int .i64 y6.2.2.2.1, .int .i64 y6.2.2.2.2, .int .i64 0, .int .i64 0] 44 (0, 0)), O44 b1 (0, 0, 0, 0)] := hS.sel [1, 0] kr
   have hS : Sat w22 (rf w0) [O44 b19 (y6.2.2.2.1, y6.2.2.2.2, 0, 0), O44 b1 (0, 0, 0, 0)] := O44.close (y6.2.2.2.1, y6.2.2.2.2, 0, 0) hS
   have hS : Sat w22 (rf w0) [O44 b1 (0, 0, 0, 0), O44 b19 (y6.2.2.2.1, y6.2.2.2.2, 0, 0)] := hS.sel [1, 0] kr
   obtain ⟨o39, e40, H⟩ := bind_ex H
   refine WC.loop kr ?_
   refine WL.weaken [2, 3, 21, 22, 23] (L' := [(2, .pointer (some ⟨b1, 0, none⟩)), (3, .pointer (some ⟨b19, 0, none⟩)), (21, .slice A14 y6.2.1.length c15), (22, .int .i64 (y6.2.1.length : Int)), (23, .int .i64 0)]) kr ?_
   refine cache_Cache_Stats.l1_ok w0 b1 y6 A14 c15 b19 R16 o39 (fun w42 hS => ?_) FU 0 (y6.2.2.2.1, y6.2.2.2.2, 0, 0) _ hS e40
   refine At.hit ?_
   refine At.go ?_
   refine WC.seq kr ?_
   refine WC.reg [0, 1] kr kr ?_
   refine WR.runk [] [0, 1] [2, 3] (L' := [(2, .pointer (some ⟨b1, 0, none⟩)), (3, .pointer (some ⟨b19, 0, none⟩))]) (w' := w42) kr ?_
   have hS : Sat w42 (rf w0) [O44 b19 o39, O44 b1 (0, 0, 0, 0)] := hS.sel [1, 0] kr
   have hS := O44.open hS
   have hS : Sat w42 (rf w0) [pts b19 (.cells #[.int .i64 o39.1, .int .i64 o39.2.1, .int .i64 o39.2.2.1, .int .i64 o39.2.2.2] 44 (0, 0)), O44 b1 (0, 0, 0, 0)] := hS
   refine WR.st (St.ofR (RSt.loadAll (t := 44) (vs := [.int .i64 o39.1, .int .i64 o39.2.1, .int .i64 o39.2.2.1, .int .i64 o39.2.2.2]) (.tmp 3) kr kr kr 0 kr hS rfl kr ?_))
   refine WR.runk [] [1] [2, 42] (L' := [(2, .pointer (some ⟨b1, 0, none⟩)), (42, .agg #[.int .i64 o39.1, .int .i64 o39.2.1, .int .i64 o39.2.2.1, .int .i64 o39.2.2.2])]) (w' := w42) kr ?_
   have hS : Sat w42 (rf w0) [O44 b1 (0, 0, 0, 0), pts b19 (.cells #[.int .i64 o39.1, .int .i64 o39.2.1, .int .i64 o39.2.2.1, .int .i64 o39.2.2.2] 44 (0, 0))] := hS.sel [1, 0] kr
   have hS := O44.open hS
   have hS : Sat w42 (rf w0) [pts b1 (.cells #[.int .i64 0, .int .i64 0, .int .i64 0, .int .i64 0] 44 (0, 0)), pts b19 (.cells #[.int .i64 o39.1, .int .i64 o39.2.1, .int .i64 o39.2.2.1, .int .i64 o39.2.2.2] 44 (0, 0))] := hS
   refine WR.st (St.storeAll (t := 44) (vs := [.int .i64 o39.1, .int .i64 o39.2.1, .int .i64 o39.2.2.1, .int .i64 o39.2.2.2]) (.tmp 2) (.tmp 42) kr kr kr hS kr kr kr kr (fun w44 hS => ?_))
   have hS : Sat w44 (rf w0) [pts b1 (.cells #[.int .i64 o39.1, .int .i64 o39.2.1, .int .i64 o39.2.2.1, .int .i64 o39.2.2.2] 44 (0, 0)), pts b19 (.cells #[.int .i64 o39.1, .int .i64 o39.2.1, .int .i64 o39.2.2.1, .int .i64 o39.2.2.2] 44 (0, 0))] := hS
   refine WR.runk [] [] [2] (L' := [(2, .pointer (some ⟨b1, 0, none⟩))]) (w' := w44) kr ?_
   refine WR.nil ?_
   refine At.go ?_
   refine WC.ret kr ?_
   obtain rfl := Option.some.inj H
   have hS0 := hS
   have hS : Sat w44 (rf w0) [] := hS.sel [] kr
   exact At.bodyC (fun T hT => results_cell1 (a := 2) (t := 44) (vs := [.int .i64 o39.1, .int .i64 o39.2.1, .int .i64 o39.2.2.1, .int .i64 o39.2.2.2]) hT kr kr kr kr 0 hS0 rfl) ⟨_, rfl, rfl, hS⟩
/-! ### 7 colophon/colophonlaw07.first -/
def colophonlaw07_first.f : Option Bool := ((colophonlaw07_made.f 3 2).bind fun r1 => (match r1 with | none => some false | some y11 => ((cache_Cache_Hold.f y11 1).bind fun r16 => ((cache_Cache_Hold.f r16.2.2.2 2).bind fun r27 => ((cache_Cache_Hold.f r27.2.2.2 3).bind fun r38 => ((cache_Cache_Drop.f r38.2.2.2 1).bind fun r49 => ((cache_Cache_Hold.f r49.2 3).bind fun r58 => ((cache_Cache_Hold.f r58.2.2.2 2).bind fun r69 => (if (!r16.2.1) then (if (r16.2.2.1 == 0) then (if (r38.2.2.1 == 70) then (if r49.1 then (if (!r58.2.1) then (if (r58.2.2.1 == 0) then (if ((r58.1.length : Int) == 256) then ((at? r58.1 0).bind fun v87 => (if (v87 == 3) then (if r69.2.1 then ((cache_Cache_Has.f (some r69.2.2.2) 1).bind fun r91 => (if (!r91) then ((cache_Cache_Stats.f (some r69.2.2.2)).bind fun r101 => some (([r101.1, r101.2.1, r101.2.2.1, r101.2.2.2] : List Int) == ([1, 3, 2, 2] : List Int))) else some false)) else some false) else some false)) else some false) else some false) else some false) else some false) else some false) else some false) else some false)))))))))
def colophonlaw07_first.post (w : World) (r : Bool) (v : Value) (w' : World) : Prop := v = (.bool r : Value) ∧ Sat w' (rf w) []
theorem colophonlaw07_first.calls (w0 : World) (r : Bool) (H : colophonlaw07_first.f = some r) :
    Calls Try.prog 7 #[] w0 (fun e w' => ∃ v, e = .returned v ∧ colophonlaw07_first.post w0 r v w') := by
  have hS : Sat w0 (rf w0) [] := Sat.start w0
  unfold colophonlaw07_first.f at H
  refine calls_of_WC (vs := []) Try.func7 (c := C7) (n := 92) kr kr kr ?_
  refine WC.seq kr ?_
  refine WC.reg [0] kr kr ?_
  refine WR.runk [0] [] [] (L' := []) (w' := w0) kr ?_
  refine WR.nil ?_
  refine At.go ?_
  refine WC.seq kr ?_
  refine WC.reg [0, 1] kr kr ?_
  obtain ⟨r1, e2, H⟩ := bind_ex H
  refine WR.st (St.call kr (f := 8) (args := #[.int .i64 3, .int .i64 2]) kr (colophonlaw07_made.calls w0 3 2 r1 e2) ?_)
  rintro pv10 w8 ⟨_, rfl, hS9⟩
  have hS : Sat w8 (rf w0) [optP O66 pv10 r1] := hS.ext hS9
  refine WR.runk [1] [] [1] (L' := [(1, pv10)]) (w' := w8) kr ?_
  refine WR.nil ?_
  refine At.go ?_
  refine WC.seq kr ?_
  refine WC.seq kr ?_
  refine WC.reg [0, 1] kr kr ?_
  refine WR.runk [0] [1] [1, 16] (L' := [(1, pv10), (16, pv10)]) (w' := w8) kr ?_
  rcases hr12 : r1 with _ | y11
  ·rw [hr12] at H
   dsimp only at H
   have hv13 := optP.none hS hr12
   subst hv13
   have hS : Sat w8 (rf w0) [] := hS.sel [] kr
   refine WR.runk [1] [] [1, 17] (L' := [(1, .pointer none), (17, .bool true)]) (w' := w8) kr ?_
   refine WR.nil ?_
   refine At.go ?_
   refine WC.condT kr kr kr ?_
   refine WC.seq kr ?_
   refine WC.reg [0] kr kr ?_
   refine WR.runk [0] [] [0] (L' := [(0, .bool false)]) (w' := w8) kr ?_
   refine WR.nil ?_
   refine At.go ?_
   refine WC.ret kr ?_
   refine At.thenRet ?_
   obtain rfl := Option.some.inj H
   have hS : Sat w8 (rf w0) [] := hS.sel [] kr
   exact At.body [.bool false] kr ⟨_, rfl, rfl, hS⟩
  ·rw [hr12] at H
   dsimp only at H
   obtain ⟨b14, hv13, hN110⟩ := optP.some hS hr12
   subst hv13
   have hS : Sat w8 (rf w0) [O66 b14 y11] := hN110
   refine WR.runk [1] [] [1, 17] (L' := [(1, .pointer (some ⟨b14, 0, none⟩)), (17, .bool false)]) (w' := w8) kr ?_
   refine WR.nil ?_
   refine At.go ?_
   refine WC.condF kr kr kr ?_
   refine WC.skip kr ?_
   refine At.go ?_
   refine WC.seq kr ?_
   refine WC.reg [0, 1, 2, 3, 4, 5, 6, 7, 8] kr kr ?_
   refine WR.runk [0] [1, 2, 3, 4, 5, 6, 7, 8] [1, 19] (L' := [(1, .pointer (some ⟨b14, 0, none⟩)), (19, .pointer (some ⟨b14, 0, none⟩))]) (w' := w8) kr ?_
   obtain ⟨r16, e17, H⟩ := bind_ex H
   obtain ⟨B22, hso21, hsub19, hcs20, hb18⟩ := Sat.lend [O66 b14 y11] (cs := []) hS
   refine WR.st (St.call kr (f := 10) (args := #[.pointer (some ⟨b14, 0, none⟩), .int .i64 1]) kr (cache_Cache_Hold.calls B22 w8 b14 y11 hso21 1 r16 e17) ?_)
   rintro _ w23 ⟨A25, c26, rfl, hS24⟩
   have hS : Sat w23 (rf w0) [O66 b14 r16.2.2.2, osl 5 (r0 (.int .u8)) 1 A25 c26 r16.1] := hb18 _ _ hS24
   refine WR.runk [2, 3, 4, 5, 6, 7, 8] [] [1, 3, 4] (L' := [(1, .pointer (some ⟨b14, 0, none⟩)), (3, .bool r16.2.1), (4, .int .i64 r16.2.2.1)]) (w' := w23) kr ?_
   refine WR.nil ?_
   refine At.go ?_
   refine WC.seq kr ?_
   refine WC.reg [0, 1] kr kr ?_
   refine WR.runk [0] [1] [1, 3, 4, 24] (L' := [(1, .pointer (some ⟨b14, 0, none⟩)), (3, .bool r16.2.1), (4, .int .i64 r16.2.2.1), (24, .pointer (some ⟨b14, 0, none⟩))]) (w' := w23) kr ?_
   obtain ⟨r27, e28, H⟩ := bind_ex H
   obtain ⟨B33, hso32, hsub30, hcs31, hb29⟩ := Sat.lend [O66 b14 r16.2.2.2] (cs := [osl 5 (r0 (.int .u8)) 1 A25 c26 r16.1]) hS
   refine WR.st (St.call kr (f := 10) (args := #[.pointer (some ⟨b14, 0, none⟩), .int .i64 2]) kr (cache_Cache_Hold.calls B33 w23 b14 r16.2.2.2 hso32 2 r27 e28) ?_)
   rintro _ w34 ⟨A36, c37, rfl, hS35⟩
   have hS : Sat w34 (rf w0) [O66 b14 r27.2.2.2, osl 5 (r0 (.int .u8)) 1 A36 c37 r27.1, osl 5 (r0 (.int .u8)) 1 A25 c26 r16.1] := hb29 _ _ hS35
   refine WR.runk [] [] [1, 3, 4] (L' := [(1, .pointer (some ⟨b14, 0, none⟩)), (3, .bool r16.2.1), (4, .int .i64 r16.2.2.1)]) (w' := w34) kr ?_
   refine WR.nil ?_
   refine At.go ?_
   refine WC.seq kr ?_
   refine WC.reg [0, 1, 2, 3, 4, 5, 6, 7, 8] kr kr ?_
   refine WR.runk [0] [1, 2, 3, 4, 5, 6, 7, 8] [1, 3, 4, 27] (L' := [(1, .pointer (some ⟨b14, 0, none⟩)), (3, .bool r16.2.1), (4, .int .i64 r16.2.2.1), (27, .pointer (some ⟨b14, 0, none⟩))]) (w' := w34) kr ?_
   obtain ⟨r38, e39, H⟩ := bind_ex H
   obtain ⟨B44, hso43, hsub41, hcs42, hb40⟩ := Sat.lend [O66 b14 r27.2.2.2] (cs := [osl 5 (r0 (.int .u8)) 1 A36 c37 r27.1, osl 5 (r0 (.int .u8)) 1 A25 c26 r16.1]) hS
   refine WR.st (St.call kr (f := 10) (args := #[.pointer (some ⟨b14, 0, none⟩), .int .i64 3]) kr (cache_Cache_Hold.calls B44 w34 b14 r27.2.2.2 hso43 3 r38 e39) ?_)
   rintro _ w45 ⟨A47, c48, rfl, hS46⟩
   have hS : Sat w45 (rf w0) [O66 b14 r38.2.2.2, osl 5 (r0 (.int .u8)) 1 A47 c48 r38.1, osl 5 (r0 (.int .u8)) 1 A36 c37 r27.1, osl 5 (r0 (.int .u8)) 1 A25 c26 r16.1] := hb40 _ _ hS46
   refine WR.runk [2, 3, 4, 5, 6, 7, 8] [] [1, 3, 4, 7] (L' := [(1, .pointer (some ⟨b14, 0, none⟩)), (3, .bool r16.2.1), (4, .int .i64 r16.2.2.1), (7, .int .i64 r38.2.2.1)]) (w' := w45) kr ?_
   refine WR.nil ?_
   refine At.go ?_
   refine WC.seq kr ?_
   refine WC.reg [0, 1, 2] kr kr ?_
   refine WR.runk [0] [1, 2] [1, 3, 4, 7, 32] (L' := [(1, .pointer (some ⟨b14, 0, none⟩)), (3, .bool r16.2.1), (4, .int .i64 r16.2.2.1), (7, .int .i64 r38.2.2.1), (32, .pointer (some ⟨b14, 0, none⟩))]) (w' := w45) kr ?_
   obtain ⟨r49, e50, H⟩ := bind_ex H
   obtain ⟨B55, hso54, hsub52, hcs53, hb51⟩ := Sat.lend [O66 b14 r38.2.2.2] (cs := [osl 5 (r0 (.int .u8)) 1 A47 c48 r38.1, osl 5 (r0 (.int .u8)) 1 A36 c37 r27.1, osl 5 (r0 (.int .u8)) 1 A25 c26 r16.1]) hS
   refine WR.st (St.call kr (f := 12) (args := #[.pointer (some ⟨b14, 0, none⟩), .int .i64 1]) kr (cache_Cache_Drop.calls B55 w45 b14 r38.2.2.2 hso54 1 r49 e50) ?_)
   rintro _ w56 ⟨rfl, hS57⟩
   have hS : Sat w56 (rf w0) [O66 b14 r49.2, osl 5 (r0 (.int .u8)) 1 A47 c48 r38.1, osl 5 (r0 (.int .u8)) 1 A36 c37 r27.1, osl 5 (r0 (.int .u8)) 1 A25 c26 r16.1] := hb51 _ _ hS57
   refine WR.runk [2] [] [1, 3, 4, 7, 8] (L' := [(1, .pointer (some ⟨b14, 0, none⟩)), (3, .bool r16.2.1), (4, .int .i64 r16.2.2.1), (7, .int .i64 r38.2.2.1), (8, .bool r49.1)]) (w' := w56) kr ?_
   refine WR.nil ?_
   refine At.go ?_
   refine WC.seq kr ?_
   refine WC.reg [0, 1, 2, 3, 4, 5, 6, 7, 8] kr kr ?_
   refine WR.runk [0] [1, 2, 3, 4, 5, 6, 7, 8] [1, 3, 4, 7, 8, 35] (L' := [(1, .pointer (some ⟨b14, 0, none⟩)), (3, .bool r16.2.1), (4, .int .i64 r16.2.2.1), (7, .int .i64 r38.2.2.1), (8, .bool r49.1), (35, .pointer (some ⟨b14, 0, none⟩))]) (w' := w56) kr ?_
   obtain ⟨r58, e59, H⟩ := bind_ex H
   obtain ⟨B64, hso63, hsub61, hcs62, hb60⟩ := Sat.lend [O66 b14 r49.2] (cs := [osl 5 (r0 (.int .u8)) 1 A47 c48 r38.1, osl 5 (r0 (.int .u8)) 1 A36 c37 r27.1, osl 5 (r0 (.int .u8)) 1 A25 c26 r16.1]) hS
   refine WR.st (St.call kr (f := 10) (args := #[.pointer (some ⟨b14, 0, none⟩), .int .i64 3]) kr (cache_Cache_Hold.calls B64 w56 b14 r49.2 hso63 3 r58 e59) ?_)
   rintro _ w65 ⟨A67, c68, rfl, hS66⟩
   have hS : Sat w65 (rf w0) [O66 b14 r58.2.2.2, osl 5 (r0 (.int .u8)) 1 A67 c68 r58.1, osl 5 (r0 (.int .u8)) 1 A47 c48 r38.1, osl 5 (r0 (.int .u8)) 1 A36 c37 r27.1, osl 5 (r0 (.int .u8)) 1 A25 c26 r16.1] := hb60 _ _ hS66
   refine WR.runk [2, 3, 4, 5, 6, 7, 8] [] [1, 3, 4, 7, 8, 9, 10, 11] (L' := [(1, .pointer (some ⟨b14, 0, none⟩)), (3, .bool r16.2.1), (4, .int .i64 r16.2.2.1), (7, .int .i64 r38.2.2.1), (8, .bool r49.1), (9, .slice A67 r58.1.length c68), (10, .bool r58.2.1), (11, .int .i64 r58.2.2.1)]) (w' := w65) kr ?_
   refine WR.nil ?_
   refine At.go ?_
   refine WC.seq kr ?_
   refine WC.reg [0, 1, 2, 3, 4, 5, 6, 7, 8] kr kr ?_
   refine WR.runk [0] [1, 2, 3, 4, 5, 6, 7, 8] [1, 3, 4, 7, 8, 9, 10, 11, 41] (L' := [(1, .pointer (some ⟨b14, 0, none⟩)), (3, .bool r16.2.1), (4, .int .i64 r16.2.2.1), (7, .int .i64 r38.2.2.1), (8, .bool r49.1), (9, .slice A67 r58.1.length c68), (10, .bool r58.2.1), (11, .int .i64 r58.2.2.1), (41, .pointer (some ⟨b14, 0, none⟩))]) (w' := w65) kr ?_
   obtain ⟨r69, e70, H⟩ := bind_ex H
   obtain ⟨B75, hso74, hsub72, hcs73, hb71⟩ := Sat.lend [O66 b14 r58.2.2.2] (cs := [osl 5 (r0 (.int .u8)) 1 A67 c68 r58.1, osl 5 (r0 (.int .u8)) 1 A47 c48 r38.1, osl 5 (r0 (.int .u8)) 1 A36 c37 r27.1, osl 5 (r0 (.int .u8)) 1 A25 c26 r16.1]) hS
   refine WR.st (St.call kr (f := 10) (args := #[.pointer (some ⟨b14, 0, none⟩), .int .i64 2]) kr (cache_Cache_Hold.calls B75 w65 b14 r58.2.2.2 hso74 2 r69 e70) ?_)
   rintro _ w76 ⟨A78, c79, rfl, hS77⟩
   have hS : Sat w76 (rf w0) [O66 b14 r69.2.2.2, osl 5 (r0 (.int .u8)) 1 A78 c79 r69.1, osl 5 (r0 (.int .u8)) 1 A67 c68 r58.1, osl 5 (r0 (.int .u8)) 1 A47 c48 r38.1, osl 5 (r0 (.int .u8)) 1 A36 c37 r27.1, osl 5 (r0 (.int .u8)) 1 A25 c26 r16.1] := hb71 _ _ hS77
   refine WR.runk [2, 3, 4, 5, 6, 7, 8] [] [1, 3, 4, 7, 8, 9, 10, 11, 13] (L' := [(1, .pointer (some ⟨b14, 0, none⟩)), (3, .bool r16.2.1), (4, .int .i64 r16.2.2.1), (7, .int .i64 r38.2.2.1), (8, .bool r49.1), (9, .slice A67 r58.1.length c68), (10, .bool r58.2.1), (11, .int .i64 r58.2.2.1), (13, .bool r69.2.1)]) (w' := w76) kr ?_
   refine WR.nil ?_
   refine At.go ?_
   refine WC.seq kr ?_
   refine WC.reg [0, 1, 2, 3, 4, 5, 6, 7, 8, 9, 10, 11, 12, 13, 14, 15, 16, 17, 18, 19, 20, 21, 22, 23, 24, 25, 26, 27, 28, 29, 30, 31, 32, 33, 34, 35, 36, 37, 38, 39, 40, 41, 42, 43, 44, 45, 46] kr kr ?_
   refine WR.runk [0, 1, 2] [3, 4, 5, 6, 7, 8, 9, 10, 11, 12, 13, 14, 15, 16, 17, 18, 19, 20, 21, 22, 23, 24, 25, 26, 27, 28, 29, 30, 31, 32, 33, 34, 35, 36, 37, 38, 39, 40, 41, 42, 43, 44, 45, 46] [1, 4, 7, 8, 9, 10, 11, 13, 48] (L' := [(1, .pointer (some ⟨b14, 0, none⟩)), (4, .int .i64 r16.2.2.1), (7, .int .i64 r38.2.2.1), (8, .bool r49.1), (9, .slice A67 r58.1.length c68), (10, .bool r58.2.1), (11, .int .i64 r58.2.2.1), (13, .bool r69.2.1), (48, .bool (!r16.2.1))]) (w' := w76) kr ?_
   refine WR.split 48 (b := (!r16.2.1)) kr (fun hb80 => ?_) (fun hb80 => ?_)
   ·replace H := ite_t H hb80
    refine WR.runk [3, 4, 5, 6] [7, 8, 9, 10, 11, 12, 13, 14, 15, 16, 17, 18, 19, 20, 21, 22, 23, 24, 25, 26, 27, 28, 29, 30, 31, 32, 33, 34, 35, 36, 37, 38, 39, 40, 41, 42, 43, 44, 45, 46] [1, 7, 8, 9, 10, 11, 13, 52] (L' := [(1, .pointer (some ⟨b14, 0, none⟩)), (7, .int .i64 r38.2.2.1), (8, .bool r49.1), (9, .slice A67 r58.1.length c68), (10, .bool r58.2.1), (11, .int .i64 r58.2.2.1), (13, .bool r69.2.1), (52, .bool (r16.2.2.1 == 0))]) (w' := w76) kr ?_
    refine WR.split 52 (b := (r16.2.2.1 == 0)) kr (fun hb81 => ?_) (fun hb81 => ?_)
    ·replace H := ite_t H hb81
     refine WR.runk [7, 8, 9, 10] [11, 12, 13, 14, 15, 16, 17, 18, 19, 20, 21, 22, 23, 24, 25, 26, 27, 28, 29, 30, 31, 32, 33, 34, 35, 36, 37, 38, 39, 40, 41, 42, 43, 44, 45, 46] [1, 8, 9, 10, 11, 13, 56] (L' := [(1, .pointer (some ⟨b14, 0, none⟩)), (8, .bool r49.1), (9, .slice A67 r58.1.length c68), (10, .bool r58.2.1), (11, .int .i64 r58.2.2.1), (13, .bool r69.2.1), (56, .bool (r38.2.2.1 == 70))]) (w' := w76) kr ?_
     refine WR.split 56 (b := (r38.2.2.1 == 70)) kr (fun hb82 => ?_) (fun hb82 => ?_)
     ·replace H := ite_t H hb82
      refine WR.runk [11, 12, 13] [14, 15, 16, 17, 18, 19, 20, 21, 22, 23, 24, 25, 26, 27, 28, 29, 30, 31, 32, 33, 34, 35, 36, 37, 38, 39, 40, 41, 42, 43, 44, 45, 46] [1, 9, 10, 11, 13, 59] (L' := [(1, .pointer (some ⟨b14, 0, none⟩)), (9, .slice A67 r58.1.length c68), (10, .bool r58.2.1), (11, .int .i64 r58.2.2.1), (13, .bool r69.2.1), (59, .bool r49.1)]) (w' := w76) kr ?_
      refine WR.split 59 (b := r49.1) kr (fun hb83 => ?_) (fun hb83 => ?_)
      ·replace H := ite_t H hb83
       refine WR.runk [14, 15, 16, 17] [18, 19, 20, 21, 22, 23, 24, 25, 26, 27, 28, 29, 30, 31, 32, 33, 34, 35, 36, 37, 38, 39, 40, 41, 42, 43, 44, 45, 46] [1, 9, 11, 13, 63] (L' := [(1, .pointer (some ⟨b14, 0, none⟩)), (9, .slice A67 r58.1.length c68), (11, .int .i64 r58.2.2.1), (13, .bool r69.2.1), (63, .bool (!r58.2.1))]) (w' := w76) kr ?_
       refine WR.split 63 (b := (!r58.2.1)) kr (fun hb84 => ?_) (fun hb84 => ?_)
       ·replace H := ite_t H hb84
        refine WR.runk [18, 19, 20, 21] [22, 23, 24, 25, 26, 27, 28, 29, 30, 31, 32, 33, 34, 35, 36, 37, 38, 39, 40, 41, 42, 43, 44, 45, 46] [1, 9, 13, 67] (L' := [(1, .pointer (some ⟨b14, 0, none⟩)), (9, .slice A67 r58.1.length c68), (13, .bool r69.2.1), (67, .bool (r58.2.2.1 == 0))]) (w' := w76) kr ?_
        refine WR.split 67 (b := (r58.2.2.1 == 0)) kr (fun hb85 => ?_) (fun hb85 => ?_)
        ·replace H := ite_t H hb85
         refine WR.runk [22, 23, 24, 25, 26] [27, 28, 29, 30, 31, 32, 33, 34, 35, 36, 37, 38, 39, 40, 41, 42, 43, 44, 45, 46] [1, 9, 13, 72] (L' := [(1, .pointer (some ⟨b14, 0, none⟩)), (9, .slice A67 r58.1.length c68), (13, .bool r69.2.1), (72, .bool ((r58.1.length : Int) == 256))]) (w' := w76) kr ?_
         refine WR.split 72 (b := ((r58.1.length : Int) == 256)) kr (fun hb86 => ?_) (fun hb86 => ?_)
         ·replace H := ite_t H hb86
          refine WR.runk [27] [28, 29, 30, 31, 32, 33, 34, 35, 36, 37, 38, 39, 40, 41, 42, 43, 44, 45, 46] [1, 13, 72, 73] (L' := [(1, .pointer (some ⟨b14, 0, none⟩)), (13, .bool r69.2.1), (72, .bool true), (73, .slice A67 r58.1.length c68)]) (w' := w76) kr ?_
          obtain ⟨v87, e88, H⟩ := bind_ex H
          refine WR.st (St.ofP (PSt.idx (k := .i64) (.tmp 73) (.const (.int .i64 0)) kr kr E31 kr kr (Sat.rdAt 2 hS rfl) e88 ?_))
          refine WR.runk [] [29, 30, 31, 32, 33, 34, 35, 36, 37, 38, 39, 40, 41, 42, 43, 44, 45, 46] [1, 13, 72, 74] (L' := [(1, .pointer (some ⟨b14, 0, none⟩)), (13, .bool r69.2.1), (72, .bool true), (74, .pointer (some (adr A67 (0 : Int).toNat 1)))]) (w' := w76) kr ?_
          refine WR.st (St.ofR (RSt.loadInt (t := 5) (.tmp 74) kr kr kr kr (Sat.rdAt 2 hS rfl) e88 ?_))
          refine WR.runk [30, 31, 32] [33, 34, 35, 36, 37, 38, 39, 40, 41, 42, 43, 44, 45, 46] [1, 13, 78] (L' := [(1, .pointer (some ⟨b14, 0, none⟩)), (13, .bool r69.2.1), (78, .bool (v87 == 3))]) (w' := w76) kr ?_
          refine WR.split 78 (b := (v87 == 3)) kr (fun hb89 => ?_) (fun hb89 => ?_)
          ·replace H := ite_t H hb89
           refine WR.runk [33, 34, 35] [36, 37, 38, 39, 40, 41, 42, 43, 44, 45, 46] [1, 81] (L' := [(1, .pointer (some ⟨b14, 0, none⟩)), (81, .bool r69.2.1)]) (w' := w76) kr ?_
           refine WR.split 81 (b := r69.2.1) kr (fun hb90 => ?_) (fun hb90 => ?_)
           ·replace H := ite_t H hb90
            refine WR.runk [36] [37, 38, 39, 40, 41, 42, 43, 44, 45, 46] [1, 81, 82] (L' := [(1, .pointer (some ⟨b14, 0, none⟩)), (81, .bool true), (82, .pointer (some ⟨b14, 0, none⟩))]) (w' := w76) kr ?_
            obtain ⟨r91, e92, H⟩ := bind_ex H
            refine WR.st (St.call kr (f := 14) (args := #[.pointer (some ⟨b14, 0, none⟩), .int .i64 1]) kr (cache_Cache_Has.calls w76 (.pointer (some ⟨b14, 0, none⟩)) (some r69.2.2.2) (Sat.rdAny 0 hS rfl (fun _ h => O66.rd _ _ _ h)) 1 r91 e92) ?_)
            rintro _ w98 ⟨rfl, hS99⟩
            have hS : Sat w98 (rf w0) [O66 b14 r69.2.2.2, osl 5 (r0 (.int .u8)) 1 A78 c79 r69.1, osl 5 (r0 (.int .u8)) 1 A67 c68 r58.1, osl 5 (r0 (.int .u8)) 1 A47 c48 r38.1, osl 5 (r0 (.int .u8)) 1 A36 c37 r27.1, osl 5 (r0 (.int .u8)) 1 A25 c26 r16.1] := hS.ext hS99
            refine WR.runk [38, 39, 40] [41, 42, 43, 44, 45, 46] [1, 86] (L' := [(1, .pointer (some ⟨b14, 0, none⟩)), (86, .bool (!r91))]) (w' := w98) kr ?_
            refine WR.split 86 (b := (!r91)) kr (fun hb100 => ?_) (fun hb100 => ?_)
            ·replace H := ite_t H hb100
             refine WR.runk [41] [42, 43, 44, 45, 46] [86, 87] (L' := [(86, .bool true), (87, .pointer (some ⟨b14, 0, none⟩))]) (w' := w98) kr ?_
             obtain ⟨r101, e102, H⟩ := bind_ex H
             refine WR.st (St.call kr (f := 15) (args := #[.pointer (some ⟨b14, 0, none⟩)]) kr (cache_Cache_Stats.calls w98 (.pointer (some ⟨b14, 0, none⟩)) (some r69.2.2.2) (Sat.rdAny 0 hS rfl (fun _ h => O66.rd _ _ _ h)) r101 e102) ?_)
             rintro _ w108 ⟨rfl, hS109⟩
             have hS : Sat w108 (rf w0) [O66 b14 r69.2.2.2, osl 5 (r0 (.int .u8)) 1 A78 c79 r69.1, osl 5 (r0 (.int .u8)) 1 A67 c68 r58.1, osl 5 (r0 (.int .u8)) 1 A47 c48 r38.1, osl 5 (r0 (.int .u8)) 1 A36 c37 r27.1, osl 5 (r0 (.int .u8)) 1 A25 c26 r16.1] := hS.ext hS109
             refine WR.runk [43] [44, 45, 46] [86, 88, 89] (L' := [(86, .bool true), (88, .agg #[.int .i64 r101.1, .int .i64 r101.2.1, .int .i64 r101.2.2.1, .int .i64 r101.2.2.2]), (89, .agg #[.int .i64 1, .int .i64 3, .int .i64 2, .int .i64 2])]) (w' := w108) kr ?_
             refine WR.st (St.ofP (PSt.eqInts (t := 44) (t2 := 44) (X := ([r101.1, r101.2.1, r101.2.2.1, r101.2.2.2] : List Int)) (Y := ([1, 3, 2, 2] : List Int)) .eql (by decide) (.tmp 88) (.tmp 89) kr kr kr kr kr kr kr kr kr kr ?_))
             refine WR.runk [45, 46] [] [0] (L' := [(0, .bool (([r101.1, r101.2.1, r101.2.2.1, r101.2.2.2] : List Int) == ([1, 3, 2, 2] : List Int)))]) (w' := w108) kr ?_
             refine WR.nil ?_
             refine At.go ?_
             refine WC.ret kr ?_
             obtain rfl := Option.some.inj H
             have hS : Sat w108 (rf w0) [] := hS.sel [] kr
             exact At.body [.bool (([r101.1, r101.2.1, r101.2.2.1, r101.2.2.2] : List Int) == ([1, 3, 2, 2] : List Int))] kr ⟨_, rfl, rfl, hS⟩
            ·replace H := ite_f H hb100
             refine WR.runk [41, 42, 43, 44, 45, 46] [] [0] (L' := [(0, .bool false)]) (w' := w98) kr ?_
             refine WR.nil ?_
             refine At.go ?_
             refine WC.ret kr ?_
             obtain rfl := Option.some.inj H
             have hS : Sat w98 (rf w0) [] := hS.sel [] kr
             exact At.body [.bool false] kr ⟨_, rfl, rfl, hS⟩
           ·replace H := ite_f H hb90
            refine WR.runk [36, 37, 38, 39, 40, 41, 42, 43, 44, 45, 46] [] [0] (L' := [(0, .bool false)]) (w' := w76) kr ?_
            refine WR.nil ?_
            refine At.go ?_
            refine WC.ret kr ?_
            obtain rfl := Option.some.inj H
            have hS : Sat w76 (rf w0) [] := hS.sel [] kr
            exact At.body [.bool false] kr ⟨_, rfl, rfl, hS⟩
          ·replace H := ite_f H hb89
           refine WR.runk [33, 34, 35, 36, 37, 38, 39, 40, 41, 42, 43, 44, 45, 46] [] [0] (L' := [(0, .bool false)]) (w' := w76) kr ?_
           refine WR.nil ?_
           refine At.go ?_
           refine WC.ret kr ?_
           obtain rfl := Option.some.inj H
           have hS : Sat w76 (rf w0) [] := hS.sel [] kr
           exact At.body [.bool false] kr ⟨_, rfl, rfl, hS⟩
         ·replace H := ite_f H hb86
          refine WR.runk [27, 28, 29, 30, 31, 32, 33, 34, 35, 36, 37, 38, 39, 40, 41, 42, 43, 44, 45, 46] [] [0] (L' := [(0, .bool false)]) (w' := w76) kr ?_
          refine WR.nil ?_
          refine At.go ?_
          refine WC.ret kr ?_
          obtain rfl := Option.some.inj H
          have hS : Sat w76 (rf w0) [] := hS.sel [] kr
          exact At.body [.bool false] kr ⟨_, rfl, rfl, hS⟩
        ·replace H := ite_f H hb85
         refine WR.runk [22, 23, 24, 25, 26, 27, 28, 29, 30, 31, 32, 33, 34, 35, 36, 37, 38, 39, 40, 41, 42, 43, 44, 45, 46] [] [0] (L' := [(0, .bool false)]) (w' := w76) kr ?_
         refine WR.nil ?_
         refine At.go ?_
         refine WC.ret kr ?_
         obtain rfl := Option.some.inj H
         have hS : Sat w76 (rf w0) [] := hS.sel [] kr
         exact At.body [.bool false] kr ⟨_, rfl, rfl, hS⟩
       ·replace H := ite_f H hb84
        refine WR.runk [18, 19, 20, 21, 22, 23, 24, 25, 26, 27, 28, 29, 30, 31, 32, 33, 34, 35, 36, 37, 38, 39, 40, 41, 42, 43, 44, 45, 46] [] [0] (L' := [(0, .bool false)]) (w' := w76) kr ?_
        refine WR.nil ?_
        refine At.go ?_
        refine WC.ret kr ?_
        obtain rfl := Option.some.inj H
        have hS : Sat w76 (rf w0) [] := hS.sel [] kr
        exact At.body [.bool false] kr ⟨_, rfl, rfl, hS⟩
      ·replace H := ite_f H hb83
       refine WR.runk [14, 15, 16, 17, 18, 19, 20, 21, 22, 23, 24, 25, 26, 27, 28, 29, 30, 31, 32, 33, 34, 35, 36, 37, 38, 39, 40, 41, 42, 43, 44, 45, 46] [] [0] (L' := [(0, .bool false)]) (w' := w76) kr ?_
       refine WR.nil ?_
       refine At.go ?_
       refine WC.ret kr ?_
       obtain rfl := Option.some.inj H
       have hS : Sat w76 (rf w0) [] := hS.sel [] kr
       exact At.body [.bool false] kr ⟨_, rfl, rfl, hS⟩
     ·replace H := ite_f H hb82
      refine WR.runk [11, 12, 13, 14, 15, 16, 17, 18, 19, 20, 21, 22, 23, 24, 25, 26, 27, 28, 29, 30, 31, 32, 33, 34, 35, 36, 37, 38, 39, 40, 41, 42, 43, 44, 45, 46] [] [0] (L' := [(0, .bool false)]) (w' := w76) kr ?_
      refine WR.nil ?_
      refine At.go ?_
      refine WC.ret kr ?_
      obtain rfl := Option.some.inj H
      have hS : Sat w76 (rf w0) [] := hS.sel [] kr
      exact At.body [.bool false] kr ⟨_, rfl, rfl, hS⟩
    ·replace H := ite_f H hb81
     refine WR.runk [7, 8, 9, 10, 11, 12, 13, 14, 15, 16, 17, 18, 19, 20, 21, 22, 23, 24, 25, 26, 27, 28, 29, 30, 31, 32, 33, 34, 35, 36, 37, 38, 39, 40, 41, 42, 43, 44, 45, 46] [] [0] (L' := [(0, .bool false)]) (w' := w76) kr ?_
     refine WR.nil ?_
     refine At.go ?_
     refine WC.ret kr ?_
     obtain rfl := Option.some.inj H
     have hS : Sat w76 (rf w0) [] := hS.sel [] kr
     exact At.body [.bool false] kr ⟨_, rfl, rfl, hS⟩
   ·replace H := ite_f H hb80
    refine WR.runk [3, 4, 5, 6, 7, 8, 9, 10, 11, 12, 13, 14, 15, 16, 17, 18, 19, 20, 21, 22, 23, 24, 25, 26, 27, 28, 29, 30, 31, 32, 33, 34, 35, 36, 37, 38, 39, 40, 41, 42, 43, 44, 45, 46] [] [0] (L' := [(0, .bool false)]) (w' := w76) kr ?_
    refine WR.nil ?_
    refine At.go ?_
    refine WC.ret kr ?_
    obtain rfl := Option.some.inj H
    have hS : Sat w76 (rf w0) [] := hS.sel [] kr
    exact At.body [.bool false] kr ⟨_, rfl, rfl, hS⟩
/-! ### 9 colophon/colophonref07.New -/
def colophonref07_New.l1 (a1 : Int) : Nat → Int → (Int × (List (Int × Int × Bool)) × Int × Int × Int) → Option (Int × (List (Int × Int × Bool)) × Int × Int × Int)
  | 0, _, _ => none
  | k + 1, x6_l1, q3_l1 => (if decide (x6_l1 < a1) then ((app? 5864062014805 q3_l1.2.1 ([((-1), 0, false)] : List (Int × Int × Bool))).bind fun y10 => colophonref07_New.l1 a1 k (wi (x6_l1 + 1)) (q3_l1.1, y10, q3_l1.2.2.1, q3_l1.2.2.2.1, q3_l1.2.2.2.2)) else some q3_l1)
def colophonref07_New.f (a0 : Int) (a1 : Int) : Option (Option (Int × (List (Int × Int × Bool)) × Int × Int × Int)) := ((colophonref07_New.l1 a1 FU 0 (a0, ([] : List (Int × Int × Bool)), 0, 0, 0)).bind fun o15 => some (some o15))
def colophonref07_New.post (w : World) (r : (Option (Int × (List (Int × Int × Bool)) × Int × Int × Int))) (v : Value) (w' : World) : Prop := ∃ (v0 : Value), v = (v0 : Value) ∧ Sat w' (rf w) [optP O40 v0 r]
theorem colophonref07_New.l1_ok {Q} (w0 : World) (a1 : Int) (b1 : Nat) (out : (Int × (List (Int × Int × Bool)) × Int × Int × Int)) (hn0 : ∀ (w : World), Sat w (rf w0) [O40 b1 out] → At Q (.exit 0) 26 [(5, .pointer (some ⟨b1, 0, none⟩))] w) :
    ∀ (k : Nat) (x6_l1 : Int) (q3_l1 : Int × (List (Int × Int × Bool)) × Int × Int × Int) (w : World), Sat w (rf w0) [O40 b1 q3_l1] → colophonref07_New.l1 a1 k x6_l1 q3_l1 = some out → WL Try.prog (cbody (cbody (cr (cl (cr (cr C9)))))) Q 26 [(1, .int .i64 a1), (5, .pointer (some ⟨b1, 0, none⟩)), (6, .int .i64 x6_l1)] w := by
  intro k
  induction k with
  | zero => intro x6_l1 q3_l1 w hS H; exact absurd (show none = some out from H) (by simp)
  | succ k ih =>
    intro x6_l1 q3_l1 w hS H
    unfold colophonref07_New.l1 at H
    refine WL.round ?_
    refine WC.seq kr ?_
    refine WC.seq kr ?_
    refine WC.reg [0, 1, 2] kr kr ?_
    refine WR.runk [0, 1, 2] [] [1, 5, 6, 12] (L' := [(1, .int .i64 a1), (5, .pointer (some ⟨b1, 0, none⟩)), (6, .int .i64 x6_l1), (12, .bool (decide (x6_l1 < a1)))]) (w' := w) kr ?_
    refine WR.nil ?_
    refine At.go ?_
    refine WC.cond kr (decide (x6_l1 < a1)) kr kr (fun hb4 => ?_) (fun hb4 => ?_)
    ·replace H := ite_t H hb4
     refine WC.skip kr ?_
     refine At.go ?_
     refine WC.seq kr ?_
     refine WC.block kr ?_
     refine WC.reg [0, 1, 2, 3, 4, 5, 6, 7, 8, 9, 10] kr kr ?_
     refine WR.runk [0, 1, 2, 3] [4, 5, 6, 7, 8, 9, 10] [1, 5, 6, 15, 18] (L' := [(1, .int .i64 a1), (5, .pointer (some ⟨b1, 0, none⟩)), (6, .int .i64 x6_l1), (15, .pointer (some ⟨b1, 0, none⟩)), (18, .pointer (some ⟨b1, 1, none⟩))]) (w' := w) kr ?_
     obtain ⟨A5, c6, hS⟩ := O40.open hS
     have hS : Sat w (rf w0) [pts b1 (.cells #[.int .i64 q3_l1.1, .slice A5 q3_l1.2.1.length c6, .int .i64 q3_l1.2.2.1, .int .i64 q3_l1.2.2.2.1, .int .i64 q3_l1.2.2.2.2] 40 (0, 0)), osl 42 (r0 (.pair (.int .i64) (.pair (.int .i64) .bool))) 3 A5 c6 q3_l1.2.1] := hS
     refine WR.st (St.ofR (RSt.loadObj (t := 38) (k := 1) (v := .slice A5 q3_l1.2.1.length c6) (.tmp 18) kr kr kr 0 hS rfl kr rfl ?_))
     refine WR.runk [5] [6, 7, 8, 9, 10] [1, 5, 6, 15, 19, 20] (L' := [(1, .int .i64 a1), (5, .pointer (some ⟨b1, 0, none⟩)), (6, .int .i64 x6_l1), (15, .pointer (some ⟨b1, 0, none⟩)), (19, .slice A5 q3_l1.2.1.length c6), (20, .agg #[.int .i64 (-1), .int .i64 0, .bool false])]) (w' := w) kr ?_
     refine WR.st (St.box hS kr (.cells #[.int .i64 (-1), .int .i64 0, .bool false] 42) (fun b7 => .slice (some ⟨b7, 0, none⟩) 1 1) (fun _ => by kernel_rfl) (fun b7 w8 hS => ?_))
     refine WR.runk [] [7, 8, 9, 10] [1, 5, 6, 15, 19, 21] (L' := [(1, .int .i64 a1), (5, .pointer (some ⟨b1, 0, none⟩)), (6, .int .i64 x6_l1), (15, .pointer (some ⟨b1, 0, none⟩)), (19, .slice A5 q3_l1.2.1.length c6), (21, .slice (some ⟨b7, 0, none⟩) 1 1)]) (w' := w8) kr ?_
     have hS : Sat w8 (rf w0) [osl 42 (r0 (.pair (.int .i64) (.pair (.int .i64) .bool))) 3 A5 c6 q3_l1.2.1, pts b7 (.cells #[.int .i64 (-1), .int .i64 0, .bool false] 42 (0, 0)), pts b1 (.cells #[.int .i64 q3_l1.1, .slice A5 q3_l1.2.1.length c6, .int .i64 q3_l1.2.2.1, .int .i64 q3_l1.2.2.2.1, .int .i64 q3_l1.2.2.2.2] 40 (0, 0))] := hS.sel [2, 0, 1] kr
     obtain ⟨y10, e9, H⟩ := bind_ex H
     refine WR.st (St.append' (.tmp 19) (.tmp 21) kr kr E38 (r0_one _) hS kr kr (Sat.ptsAt 1 (r0 (.pair (.int .i64) (.pair (.int .i64) .bool))) 3 ([((-1), 0, false)] : List (Int × Int × Bool)) hS rfl rfl (rdL.consN [.int .i64 (-1), .int .i64 0, .bool false] rfl ⟨[.int .i64 (-1)], [.int .i64 0, .bool false], rfl, rfl, rfl, ⟨[.int .i64 0], [.bool false], rfl, rfl, rfl, rfl⟩⟩ (rdL.nil _ _))) 5864062014805 kr kr e9 (fun A11 c12 w13 hS => ?_))
     refine WR.runk [8, 9] [10] [1, 5, 6, 22, 24] (L' := [(1, .int .i64 a1), (5, .pointer (some ⟨b1, 0, none⟩)), (6, .int .i64 x6_l1), (22, .slice A11 y10.length c12), (24, .pointer (some ⟨b1, 1, none⟩))]) (w' := w13) kr ?_
     have hS : Sat w13 (rf w0) [pts b1 (.cells #[.int .i64 q3_l1.1, .slice A5 q3_l1.2.1.length c6, .int .i64 q3_l1.2.2.1, .int .i64 q3_l1.2.2.2.1, .int .i64 q3_l1.2.2.2.2] 40 (0, 0)), osl 42 (r0 (.pair (.int .i64) (.pair (.int .i64) .bool))) 3 A11 c12 y10, pts b7 (.cells #[.int .i64 (-1), .int .i64 0, .bool false] 42 (0, 0))] := hS.sel [2, 0, 1] kr
     refine WR.st (St.storeObj (t := 38) (k := 1) (cur' := #[.int .i64 q3_l1.1, .slice A11 y10.length c12, .int .i64 q3_l1.2.2.1, .int .i64 q3_l1.2.2.2.1, .int .i64 q3_l1.2.2.2.2]) (.tmp 24) (.tmp 22) kr kr kr hS kr kr kr rfl rfl (fun w14 hS => ?_))
     refine WR.runk [] [] [1, 5, 6] (L' := [(1, .int .i64 a1), (5, .pointer (some ⟨b1, 0, none⟩)), (6, .int .i64 x6_l1)]) (w' := w14) kr ?_
     refine WR.nil ?_
     refine At.blockNormal ?_
     refine At.go ?_
     refine WC.reg [0, 1, 2] kr kr ?_
     refine WR.runk [0, 1, 2] [] [1, 5, 6] (L' := [(1, .int .i64 a1), (5, .pointer (some ⟨b1, 0, none⟩)), (6, .int .i64 (wi (x6_l1 + 1)))]) (w' := w14) kr ?_
     refine WR.nil ?_
     have hS : Sat w14 (rf w0) [pts b1 (.cells #[.int .i64 q3_l1.1, .slice A11 y10.length c12, .int .i64 q3_l1.2.2.1, .int .i64 q3_l1.2.2.2.1, .int .i64 q3_l1.2.2.2.2] 40 (0, 0)), osl 42 (r0 (.pair (.int .i64) (.pair (.int .i64) .bool))) 3 A11 c12 y10, pts b7 (.cells #[.int .i64 (-1), .int .i64 0, .bool false] 42 (0, 0))] := hS.sel [0, 1, 2] kr
     have hS : Sat w14 (rf w0) [O40 b1 (q3_l1.1, y10, q3_l1.2.2.1, q3_l1.2.2.2.1, q3_l1.2.2.2.2), pts b7 (.cells #[.int .i64 (-1), .int .i64 0, .bool false] 42 (0, 0))] := O40.close (q3_l1.1, y10, q3_l1.2.2.1, q3_l1.2.2.2.1, q3_l1.2.2.2.2) A11 c12 hS
     have hS : Sat w14 (rf w0) [O40 b1 (q3_l1.1, y10, q3_l1.2.2.1, q3_l1.2.2.2.1, q3_l1.2.2.2.2)] := hS.sel [0] kr
     refine At.again ?_
     refine WL.weaken [1, 5, 6] (L' := [(1, .int .i64 a1), (5, .pointer (some ⟨b1, 0, none⟩)), (6, .int .i64 (wi (x6_l1 + 1)))]) kr ?_
     exact ih (wi (x6_l1 + 1)) (q3_l1.1, y10, q3_l1.2.2.1, q3_l1.2.2.2.1, q3_l1.2.2.2.2) _ hS H
    ·replace H := ite_f H hb4
     refine WC.exit kr ?_
     refine At.thenExit ?_
     refine At.thenExit ?_
     obtain rfl := Option.some.inj H
     have hS : Sat w (rf w0) [O40 b1 q3_l1] := hS.sel [0] kr
     refine At.weaken [5] (L' := [(5, .pointer (some ⟨b1, 0, none⟩))]) kr ?_
     exact hn0 _ hS
theorem colophonref07_New.calls (w0 : World) (a0 : Int) (a1 : Int) (r : (Option (Int × (List (Int × Int × Bool)) × Int × Int × Int))) (H : colophonref07_New.f a0 a1 = some r) :
    Calls Try.prog 9 #[.int .i64 a0, .int .i64 a1] w0 (fun e w' => ∃ v, e = .returned v ∧ colophonref07_New.post w0 r v w') := by
  have hS : Sat w0 (rf w0) [] := Sat.start w0
  unfold colophonref07_New.f at H
  refine calls_of_WC (vs := [.int .i64 a0, .int .i64 a1]) Try.func9 (c := C9) (n := 26) kr kr kr ?_
  refine WC.seq kr ?_
  refine WC.reg [0] kr kr ?_
  refine WR.runk [0] [] [0, 1] (L' := [(0, .int .i64 a0), (1, .int .i64 a1)]) (w' := w0) kr ?_
  refine WR.nil ?_
  refine At.go ?_
  refine WC.seq kr ?_
  refine WC.reg [0, 1, 2, 3] kr kr ?_
  refine WR.runk [0, 1] [2, 3] [1, 8] (L' := [(1, .int .i64 a1), (8, .agg #[.int .i64 a0, .slice none 0 0, .int .i64 0, .int .i64 0, .int .i64 0])]) (w' := w0) kr ?_
  refine WR.st (St.box hS kr (.cells #[.int .i64 a0, .slice none 0 0, .int .i64 0, .int .i64 0, .int .i64 0] 40) (fun b1 => .pointer (some ⟨b1, 0, none⟩)) (fun _ => by kernel_rfl) (fun b1 w2 hS => ?_))
  refine WR.runk [3] [] [1, 5] (L' := [(1, .int .i64 a1), (5, .pointer (some ⟨b1, 0, none⟩))]) (w' := w2) kr ?_
  refine WR.nil ?_
  refine At.go ?_
  refine WC.seq kr ?_
  refine WC.seq kr ?_
  refine WC.reg [0] kr kr ?_
  refine WR.runk [0] [] [1, 5, 6] (L' := [(1, .int .i64 a1), (5, .pointer (some ⟨b1, 0, none⟩)), (6, .int .i64 0)]) (w' := w2) kr ?_
  refine WR.nil ?_
  refine At.go ?_
  refine WC.block kr ?_
  have hS := hS.addNil (α := (Int × Int × Bool)) 42 (r0 (.pair (.int .i64) (.pair (.int .i64) .bool))) 3
  have hS : Sat w2 (rf w0) [pts b1 (.cells #[.int .i64 a0, .slice none 0 0, .int .i64 0, .int .i64 0, .int .i64 0] 40 (0, 0)), osl 42 (r0 (.pair (.int .i64) (.pair (.int .i64) .bool))) 3 none 0 ([] : List (Int × Int × Bool))] := hS.sel [1, 0] kr
  have hS : Sat w2 (rf w0) [O40 b1 (a0, ([] : List (Int × Int × Bool)), 0, 0, 0)] := O40.close (a0, ([] : List (Int × Int × Bool)), 0, 0, 0) none 0 hS
  have hS : Sat w2 (rf w0) [O40 b1 (a0, ([] : List (Int × Int × Bool)), 0, 0, 0)] := hS.sel [0] kr
  obtain ⟨o15, e16, H⟩ := bind_ex H
  refine WC.loop kr ?_
  refine WL.weaken [1, 5, 6] (L' := [(1, .int .i64 a1), (5, .pointer (some ⟨b1, 0, none⟩)), (6, .int .i64 0)]) kr ?_
  refine colophonref07_New.l1_ok w0 a1 b1 o15 (fun w18 hS => ?_) FU 0 (a0, ([] : List (Int × Int × Bool)), 0, 0, 0) _ hS e16
  refine At.hit ?_
  refine At.go ?_
  refine WC.seq kr ?_
  refine WC.reg [0, 1] kr kr ?_
  refine WR.runk [0, 1] [] [4] (L' := [(4, .pointer (some ⟨b1, 0, none⟩))]) (w' := w18) kr ?_
  refine WR.nil ?_
  refine At.go ?_
  refine WC.ret kr ?_
  obtain rfl := Option.some.inj H
  have hS : Sat w18 (rf w0) [optP O40 (.pointer (some ⟨b1, 0, none⟩)) (some o15)] := optP.mk hS
  have hS : Sat w18 (rf w0) [optP O40 (.pointer (some ⟨b1, 0, none⟩)) (some o15)] := hS.sel [0] kr
  exact At.body [.pointer (some ⟨b1, 0, none⟩)] kr ⟨_, rfl, _, rfl, hS⟩
/-! ### 24 (*colophon/colophonref07.Cache).at -/
def colophonref07_Cache_at.l1 (a1 : Int) (y3 : Int × (List (Int × Int × Bool)) × Int × Int × Int) : Nat → Int → Option (Sum Int Unit)
  | 0, _ => none
  | k + 1, x11_l1 => (if decide (x11_l1 < (y3.2.1.length : Int)) then ((at? y3.2.1 x11_l1).bind fun v13 => (if (v13.1 == a1) then some (.inl x11_l1) else colophonref07_Cache_at.l1 a1 y3 k (wi (x11_l1 + 1)))) else some (.inr ()))
def colophonref07_Cache_at.f (p0 : Option (Int × (List (Int × Int × Bool)) × Int × Int × Int)) (a1 : Int) : Option Int := (p0.bind fun y3 => ((colophonref07_Cache_at.l1 a1 y3 FU 0).bind fun o16 => (match o16 with | .inl o18 => some o18 | .inr o22 => some (-1))))
def colophonref07_Cache_at.post (w : World) (r : Int) (v : Value) (w' : World) : Prop := v = (.int .i64 r : Value) ∧ Sat w' (rf w) []
theorem colophonref07_Cache_at.l1_ok {Q} (w0 : World) (a1 : Int) (y3 : Int × (List (Int × Int × Bool)) × Int × Int × Int) (b4 : Nat) (fr5 : Nat × Nat) (A9 : Option Addr) (c10 : Nat) (R11 : rdS (r0 (.pair (.int .i64) (.pair (.int .i64) .bool))) 3 (hp w0) A9 c10 y3.2.1) (hb7 : (hp w0) b4 = some (.cells #[.int .i64 y3.1, .slice A9 y3.2.1.length c10, .int .i64 y3.2.2.1, .int .i64 y3.2.2.2.1, .int .i64 y3.2.2.2.2] 40 fr5)) (out : Sum Int Unit) (hn0 : ∀ (o0 : Int) (w : World), out = (.inl o0) → Sat w (rf w0) [] → At Q .ret 26 [(4, .int .i64 o0)] w) (hn1 : ∀ (o1 : Unit) (w : World), out = (.inr o1) → Sat w (rf w0) [] → At Q (.exit 0) 26 [] w) :
    ∀ (k : Nat) (x11_l1 : Int) (w : World), Sat w (rf w0) [] → colophonref07_Cache_at.l1 a1 y3 k x11_l1 = some out → WL Try.prog (cbody (cbody (cr (cl (cr C24))))) Q 26 [(0, .pointer (some ⟨b4, 0, none⟩)), (1, .int .i64 a1), (10, .int .i64 (y3.2.1.length : Int)), (11, .int .i64 x11_l1)] w := by
  intro k
  induction k with
  | zero => intro x11_l1 w hS H; exact absurd (show none = some out from H) (by simp)
  | succ k ih =>
    intro x11_l1 w hS H
    unfold colophonref07_Cache_at.l1 at H
    refine WL.round ?_
    refine WC.seq kr ?_
    refine WC.reg [0] kr kr ?_
    refine WR.runk [0] [] [0, 1, 10, 11, 12] (L' := [(0, .pointer (some ⟨b4, 0, none⟩)), (1, .int .i64 a1), (10, .int .i64 (y3.2.1.length : Int)), (11, .int .i64 x11_l1), (12, .bool (decide (x11_l1 < (y3.2.1.length : Int))))]) (w' := w) kr ?_
    refine WR.nil ?_
    refine At.go ?_
    refine WC.seq kr ?_
    refine WC.cond kr (decide (x11_l1 < (y3.2.1.length : Int))) kr kr (fun hb12 => ?_) (fun hb12 => ?_)
    ·replace H := ite_t H hb12
     refine WC.skip kr ?_
     refine At.go ?_
     refine WC.seq kr ?_
     refine WC.block kr ?_
     refine WC.seq kr ?_
     refine WC.reg [0, 1] kr kr ?_
     refine WR.runk [0, 1] [] [0, 1, 5, 10, 11] (L' := [(0, .pointer (some ⟨b4, 0, none⟩)), (1, .int .i64 a1), (5, .int .i64 x11_l1), (10, .int .i64 (y3.2.1.length : Int)), (11, .int .i64 x11_l1)]) (w' := w) kr ?_
     refine WR.nil ?_
     refine At.go ?_
     refine WC.seq kr ?_
     refine WC.reg [0, 1, 2, 3, 4, 5, 6, 7, 8, 9] kr kr ?_
     refine WR.runk [0, 1, 2] [3, 4, 5, 6, 7, 8, 9] [0, 1, 5, 10, 11, 16] (L' := [(0, .pointer (some ⟨b4, 0, none⟩)), (1, .int .i64 a1), (5, .int .i64 x11_l1), (10, .int .i64 (y3.2.1.length : Int)), (11, .int .i64 x11_l1), (16, .pointer (some ⟨b4, 1, none⟩))]) (w' := w) kr ?_
     refine WR.st (St.ofR (RSt.loadRo (t := 38) (k := 1) (v := .slice A9 y3.2.1.length c10) (.tmp 16) kr kr kr hS.sub0 hb7 kr rfl ?_))
     refine WR.runk [4] [5, 6, 7, 8, 9] [0, 1, 5, 10, 11, 17, 18] (L' := [(0, .pointer (some ⟨b4, 0, none⟩)), (1, .int .i64 a1), (5, .int .i64 x11_l1), (10, .int .i64 (y3.2.1.length : Int)), (11, .int .i64 x11_l1), (17, .slice A9 y3.2.1.length c10), (18, .int .i64 x11_l1)]) (w' := w) kr ?_
     obtain ⟨v13, e14, H⟩ := bind_ex H
     refine WR.st (St.ofP (PSt.idx (k := .i64) (.tmp 17) (.tmp 18) kr kr E38 kr kr (rdS.up R11 hS.sub0) e14 ?_))
     refine WR.runk [6] [7, 8, 9] [0, 1, 5, 10, 11, 20] (L' := [(0, .pointer (some ⟨b4, 0, none⟩)), (1, .int .i64 a1), (5, .int .i64 x11_l1), (10, .int .i64 (y3.2.1.length : Int)), (11, .int .i64 x11_l1), (20, .pointer (some ((adr A9 x11_l1.toNat 3).add 0)))]) (w' := w) kr ?_
     refine WR.st (St.ofR (RSt.loadPart (t := 3) (κ := (.pair (.int .i64) (.pair (.int .i64) .bool))) (.tmp 20) 0 kr kr kr kr kr (rdS.up R11 hS.sub0) e14 (u := .int .i64 v13.1) kr ?_))
     refine WR.runk [8, 9] [] [0, 1, 5, 10, 11, 23] (L' := [(0, .pointer (some ⟨b4, 0, none⟩)), (1, .int .i64 a1), (5, .int .i64 x11_l1), (10, .int .i64 (y3.2.1.length : Int)), (11, .int .i64 x11_l1), (23, .bool (v13.1 == a1))]) (w' := w) kr ?_
     refine WR.nil ?_
     refine At.go ?_
     refine WC.cond kr (v13.1 == a1) kr kr (fun hb15 => ?_) (fun hb15 => ?_)
     ·replace H := ite_t H hb15
      refine WC.seq kr ?_
      refine WC.reg [0, 1] kr kr ?_
      refine WR.runk [0, 1] [] [4] (L' := [(4, .int .i64 x11_l1)]) (w' := w) kr ?_
      refine WR.nil ?_
      refine At.go ?_
      refine WC.ret kr ?_
      refine At.blockRet ?_
      refine At.thenRet ?_
      refine At.thenRet ?_
      obtain rfl := Option.some.inj H
      have hS : Sat w (rf w0) [] := hS.sel [] kr
      refine At.weaken [4] (L' := [(4, .int .i64 x11_l1)]) kr ?_
      exact hn0 x11_l1 _ rfl hS
     ·replace H := ite_f H hb15
      refine WC.skip kr ?_
      refine At.blockNormal ?_
      refine At.go ?_
      refine WC.reg [0, 1] kr kr ?_
      refine WR.runk [0, 1] [] [0, 1, 10, 11] (L' := [(0, .pointer (some ⟨b4, 0, none⟩)), (1, .int .i64 a1), (10, .int .i64 (y3.2.1.length : Int)), (11, .int .i64 (wi (x11_l1 + 1)))]) (w' := w) kr ?_
      refine WR.nil ?_
      have hS : Sat w (rf w0) [] := hS.sel [] kr
      refine At.again ?_
      refine WL.weaken [0, 1, 10, 11] (L' := [(0, .pointer (some ⟨b4, 0, none⟩)), (1, .int .i64 a1), (10, .int .i64 (y3.2.1.length : Int)), (11, .int .i64 (wi (x11_l1 + 1)))]) kr ?_
      exact ih (wi (x11_l1 + 1)) _ hS H
    ·replace H := ite_f H hb12
     refine WC.exit kr ?_
     refine At.thenExit ?_
     refine At.thenExit ?_
     obtain rfl := Option.some.inj H
     have hS : Sat w (rf w0) [] := hS.sel [] kr
     refine At.weaken [] (L' := []) kr ?_
     exact hn1 () _ rfl hS
theorem colophonref07_Cache_at.calls (w0 : World) (v0 : Value) (p0 : Option (Int × (List (Int × Int × Bool)) × Int × Int × Int)) (R0 : rd (hp w0) (.ptr 40 (.pair (.int .i64) (.pair (.slice 42 (.pair (.int .i64) (.pair (.int .i64) .bool))) (.pair (.int .i64) (.pair (.int .i64) (.int .i64)))))) [v0] p0) (a1 : Int) (r : Int) (H : colophonref07_Cache_at.f p0 a1 = some r) :
    Calls Try.prog 24 #[v0, .int .i64 a1] w0 (fun e w' => ∃ v, e = .returned v ∧ colophonref07_Cache_at.post w0 r v w') := by
  have hS : Sat w0 (rf w0) [] := Sat.start w0
  unfold colophonref07_Cache_at.f at H
  refine calls_of_WC (vs := [v0, .int .i64 a1]) Try.func24 (c := C24) (n := 26) kr kr kr ?_
  refine WC.seq kr ?_
  refine WC.reg [0] kr kr ?_
  refine WR.runk [0] [] [0, 1] (L' := [(0, v0), (1, .int .i64 a1)]) (w' := w0) kr ?_
  refine WR.nil ?_
  refine At.go ?_
  refine WC.seq kr ?_
  refine WC.seq kr ?_
  refine WC.reg [0, 1, 2, 3, 4, 5] kr kr ?_
  refine WR.runk [0] [1, 2, 3, 4, 5] [0, 1, 6] (L' := [(0, v0), (1, .int .i64 a1), (6, v0)]) (w' := w0) kr ?_
  obtain ⟨y3, hr1, H⟩ := bind_ex H
  obtain ⟨b4, fr5, A9, c10, hv6, hb7, R11⟩ := P40.open R0 hr1
  have R8 := R0
  rw [hv6, hr1] at R8
  try subst hv6
  replace R11 : rdS (r0 (.pair (.int .i64) (.pair (.int .i64) .bool))) 3 (hp w0) A9 c10 y3.2.1 := R11
  refine WR.runk [1, 2] [3, 4, 5] [0, 1, 8] (L' := [(0, .pointer (some ⟨b4, 0, none⟩)), (1, .int .i64 a1), (8, .pointer (some ⟨b4, 1, none⟩))]) (w' := w0) kr ?_
  refine WR.st (St.ofR (RSt.loadRo (t := 38) (k := 1) (v := .slice A9 y3.2.1.length c10) (.tmp 8) kr kr kr hS.sub0 hb7 kr rfl ?_))
  refine WR.runk [4, 5] [] [0, 1, 10, 11] (L' := [(0, .pointer (some ⟨b4, 0, none⟩)), (1, .int .i64 a1), (10, .int .i64 (y3.2.1.length : Int)), (11, .int .i64 0)]) (w' := w0) kr ?_
  refine WR.nil ?_
  refine At.go ?_
  refine WC.block kr ?_
  have hS : Sat w0 (rf w0) [] := hS.sel [] kr
  obtain ⟨o16, e17, H⟩ := bind_ex H
  refine WC.loop kr ?_
  refine WL.weaken [0, 1, 10, 11] (L' := [(0, .pointer (some ⟨b4, 0, none⟩)), (1, .int .i64 a1), (10, .int .i64 (y3.2.1.length : Int)), (11, .int .i64 0)]) kr ?_
  refine colophonref07_Cache_at.l1_ok w0 a1 y3 b4 fr5 A9 c10 R11 hb7 o16 (fun o18 w20 ho21 hS => ?_) (fun o22 w24 ho25 hS => ?_) FU 0 _ hS e17
  ·subst ho21
   dsimp only at H
   refine At.blockRet ?_
   refine At.thenRet ?_
   obtain rfl := Option.some.inj H
   have hS : Sat w20 (rf w0) [] := hS.sel [] kr
   exact At.body [.int .i64 o18] kr ⟨_, rfl, rfl, hS⟩
  ·subst ho25
   dsimp only at H
   refine At.hit ?_
   refine At.go ?_
   refine WC.seq kr ?_
   refine WC.reg [0] kr kr ?_
   refine WR.runk [0] [] [4] (L' := [(4, .int .i64 (-1))]) (w' := w24) kr ?_
   refine WR.nil ?_
   refine At.go ?_
   refine WC.ret kr ?_
   obtain rfl := Option.some.inj H
   have hS : Sat w24 (rf w0) [] := hS.sel [] kr
   exact At.body [.int .i64 (-1)] kr ⟨_, rfl, rfl, hS⟩
end Go.Proofs.Ytbcdcpkofgfofaa
