/-
  Plain helpers for the plain laws: what the printed list operations answer, integer kinds, bytes as a string. My own text.
-/
import Derived.Test.YtoonceaeaigkpaaGH
set_option linter.unusedVariables false
set_option linter.unusedSimpArgs false
namespace Go.Gol
open Go

theorem at?_nat {α : Type} (xs : List α) (n : Nat) : at? xs (n : Int) = xs[n]? := by simp [at?]
theorem at?_eq {α : Type} {xs : List α} {i : Int} (h0 : 0 ≤ i) (h1 : i < (xs.length : Int)) : ∃ h : i.toNat < xs.length, at? xs i = some (xs[i.toNat]'h) := by
  have h : i.toNat < xs.length := by omega
  exact ⟨h, by simp [at?, h0, h]⟩
theorem sub?_nat {α : Type} (xs : List α) {a b : Nat} (h : a ≤ b) (hb : b ≤ xs.length) : sub? xs (a : Int) (b : Int) = some ((xs.take b).drop a) := by
  unfold sub?; rw [if_pos (by omega)]; simp
theorem sub?_pre {α : Type} (xs : List α) {b : Nat} (hb : b ≤ xs.length) : sub? xs 0 (b : Int) = some (xs.take b) := by
  have := sub?_nat xs (a := 0) (b := b) (by omega) hb; simpa using this
theorem app?_eq {α : Type} {lim : Nat} {xs ys : List α} (h : xs.length + ys.length ≤ lim) : app? lim xs ys = some (xs ++ ys) := by simp [app?, h]
theorem set?_nat {α : Type} {xs : List α} {n : Nat} (x : α) (h : n < xs.length) : set? xs (n : Int) x = some (xs.set n x) := by
  unfold set?; rw [if_pos (by omega)]; simp
theorem make?_nat {α : Type} {lim : Nat} (z : α) {n : Nat} (h : n ≤ lim) : make? lim z (n : Int) = some (List.replicate n z) := by
  unfold make?; rw [if_pos (by omega)]; simp
theorem chk?_eq {b : Bool} (h : b = true) : chk? b = some () := by simp [chk?, h]

theorem wi_eq {n : Int} (h : -9223372036854775808 ≤ n) (h2 : n < 9223372036854775808) : wi n = n := by
  show (if (true && decide (n % 18446744073709551616 ≥ 9223372036854775808)) = true then n % 18446744073709551616 - 18446744073709551616 else n % 18446744073709551616) = n
  simp only [Bool.true_and, decide_eq_true_eq]; split <;> omega
theorem wrap_u64_eq (n : Int) : IntKind.wrap .u64 n = n % 18446744073709551616 := by simp [IntKind.wrap, IntKind.bits, IntKind.signed]
theorem wrap_u32_eq (n : Int) : IntKind.wrap .u32 n = n % 4294967296 := by simp [IntKind.wrap, IntKind.bits, IntKind.signed]
theorem wrap_u16_eq (n : Int) : IntKind.wrap .u16 n = n % 65536 := by simp [IntKind.wrap, IntKind.bits, IntKind.signed]
theorem wrap_u8_eq (n : Int) : IntKind.wrap .u8 n = n % 256 := by simp [IntKind.wrap, IntKind.bits, IntKind.signed]
theorem fits_i64 {n : Int} (h : Fits (.int .i64) n) : -9223372036854775808 ≤ n ∧ n < 9223372036854775808 := by
  have h : (-9223372036854775808 : Int) ≤ n ∧ n ≤ 9223372036854775807 := h
  omega
theorem fits_u64 {n : Int} (h : Fits (.int .u64) n) : 0 ≤ n ∧ n < 18446744073709551616 := by
  have h : (0 : Int) ≤ n ∧ n ≤ 18446744073709551615 := h
  omega
theorem fits_u32 {n : Int} (h : Fits (.int .u32) n) : 0 ≤ n ∧ n < 4294967296 := by
  have h : (0 : Int) ≤ n ∧ n ≤ 4294967295 := h
  omega
theorem fits_u8 {n : Int} (h : Fits (.int .u8) n) : 0 ≤ n ∧ n < 256 := by
  have h : (0 : Int) ≤ n ∧ n ≤ 255 := h
  omega

/-- an unsigned number as bits -/
theorem ofInt_toNat {w : Nat} (v : BitVec w) : BitVec.ofInt w (v.toNat : Int) = v := by
  apply BitVec.eq_of_toNat_eq; simp
theorem un_and8 (a b : BitVec 8) : iand .u8 (a.toNat : Int) (b.toNat : Int) = ((a &&& b).toNat : Int) := by
  show IntKind.wrap .u8 ((BitVec.ofInt 8 _ &&& BitVec.ofInt 8 _ : BitVec 8).toNat : Int) = _
  rw [ofInt_toNat, ofInt_toNat, wrap_u8_eq]; have := (a &&& b).isLt; omega
theorem un_xor8 (a b : BitVec 8) : ixor .u8 (a.toNat : Int) (b.toNat : Int) = ((a ^^^ b).toNat : Int) := by
  show IntKind.wrap .u8 ((BitVec.ofInt 8 _ ^^^ BitVec.ofInt 8 _ : BitVec 8).toNat : Int) = _
  rw [ofInt_toNat, ofInt_toNat, wrap_u8_eq]; have := (a ^^^ b).isLt; omega
theorem un_and32 (a b : BitVec 32) : iand .u32 (a.toNat : Int) (b.toNat : Int) = ((a &&& b).toNat : Int) := by
  show IntKind.wrap .u32 ((BitVec.ofInt 32 _ &&& BitVec.ofInt 32 _ : BitVec 32).toNat : Int) = _
  rw [ofInt_toNat, ofInt_toNat, wrap_u32_eq]; have := (a &&& b).isLt; omega
theorem un_xor32 (a b : BitVec 32) : ixor .u32 (a.toNat : Int) (b.toNat : Int) = ((a ^^^ b).toNat : Int) := by
  show IntKind.wrap .u32 ((BitVec.ofInt 32 _ ^^^ BitVec.ofInt 32 _ : BitVec 32).toNat : Int) = _
  rw [ofInt_toNat, ofInt_toNat, wrap_u32_eq]; have := (a ^^^ b).isLt; omega
theorem un_and64 (a b : BitVec 64) : iand .u64 (a.toNat : Int) (b.toNat : Int) = ((a &&& b).toNat : Int) := by
  show IntKind.wrap .u64 ((BitVec.ofInt 64 _ &&& BitVec.ofInt 64 _ : BitVec 64).toNat : Int) = _
  rw [ofInt_toNat, ofInt_toNat, wrap_u64_eq]; have := (a &&& b).isLt; omega
theorem un_or64 (a b : BitVec 64) : ior .u64 (a.toNat : Int) (b.toNat : Int) = ((a ||| b).toNat : Int) := by
  show IntKind.wrap .u64 ((BitVec.ofInt 64 _ ||| BitVec.ofInt 64 _ : BitVec 64).toNat : Int) = _
  rw [ofInt_toNat, ofInt_toNat, wrap_u64_eq]; have := (a ||| b).isLt; omega
theorem un_xor64 (a b : BitVec 64) : ixor .u64 (a.toNat : Int) (b.toNat : Int) = ((a ^^^ b).toNat : Int) := by
  show IntKind.wrap .u64 ((BitVec.ofInt 64 _ ^^^ BitVec.ofInt 64 _ : BitVec 64).toNat : Int) = _
  rw [ofInt_toNat, ofInt_toNat, wrap_u64_eq]; have := (a ^^^ b).isLt; omega
theorem ishr_nat (k : IntKind) (a n : Nat) (h : n ≤ k.bits) : ishr k (a : Int) (n : Int) = ((a / 2 ^ n : Nat) : Int) := by
  unfold ishr; rw [Int.toNat_natCast, Nat.min_eq_left h, Int.fdiv_eq_ediv_of_nonneg _ (Int.pow_nonneg (by decide))]; norm_cast
theorem un_shr {w : Nat} (k : IntKind) (hk : k.bits = w) (v : BitVec w) (n : Nat) (h : n ≤ w) : ishr k (v.toNat : Int) (n : Int) = ((v >>> n).toNat : Int) := by
  rw [ishr_nat k _ n (by omega), BitVec.toNat_ushiftRight, Nat.shiftRight_eq_div_pow]

/-- bytes -/
abbrev ub (b : BitVec 8) : Int := (b.toNat : Int)
theorem bytes_ex {e : TypeId} {l : List Int} (h : Fits (.slice e (.int .u8)) l) : ∃ L : List (BitVec 8), l = L.map ub := by
  obtain ⟨_, h⟩ := h
  refine ⟨l.map (fun n => BitVec.ofInt 8 n), ?_⟩
  rw [List.map_map]
  conv => lhs; rw [← List.map_id l]
  refine List.map_congr_left fun n hn => ?_
  have := fits_u8 (h n hn)
  simp only [id, Function.comp, ub, BitVec.toNat_ofInt]; omega
theorem ub_inj {a b : BitVec 8} (h : ub a = ub b) : a = b := BitVec.eq_of_toNat_eq (by have h : (a.toNat : Int) = b.toNat := h; omega)
theorem map_ub_inj {a b : List (BitVec 8)} (h : a.map ub = b.map ub) : a = b := by
  induction a generalizing b with
  | nil => cases b with | nil => rfl | cons y t => simp at h
  | cons x s ih => cases b with
    | nil => simp at h
    | cons y t => simp only [List.map_cons, List.cons.injEq] at h; rw [ub_inj h.1, ih h.2]
theorem bs_toList (l : List (BitVec 8)) : (bs (l.map ub)).toList = l.map (fun b => UInt8.ofBitVec b) := by
  rw [ByteArray.toList_eq]; simp only [bs, List.map_map]
  refine List.map_congr_left fun b _ => ?_
  apply UInt8.eq_of_toBitVec_eq; simp [Function.comp, ub]
theorem bs_beq (a b : List (BitVec 8)) : ((bs (a.map ub)).toList == (bs (b.map ub)).toList) = decide (a = b) := by
  rw [bs_toList, bs_toList, Bool.eq_iff_iff]
  simp only [beq_iff_eq, decide_eq_true_eq]
  constructor
  · intro h
    induction a generalizing b with
    | nil => cases b with | nil => rfl | cons y t => simp at h
    | cons x s ih => cases b with
      | nil => simp at h
      | cons y t =>
        simp only [List.map_cons, List.cons.injEq] at h
        rw [ih _ h.2, show x = y from by simpa using congrArg UInt8.toBitVec h.1]
  · rintro rfl; rfl
end Go.Gol
