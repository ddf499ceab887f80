/- math/bits.Len64 and LeadingZeros64: their contracts (the kit's worked walks, turned to this program). -/
import Derived.Test.YtnalbkjbidaojaaRatioC
import Derived.Lib.Strings
import Derived.Lib.Slices
import Derived.Lib.Small
import Derived.Lib.Walk
import Derived.Lib.BitFns
namespace Go.Proofs.Ytnalbkjbidaojaa
open Go.RowKit

theorem tab_len (y : Int) (h0 : 0 ≤ y) (h1 : y ≤ 255) {h : y.toNat < Lib.len8tab.size} : ((Lib.len8tab[y.toNat]'h).toNat : Int) = Lib.bitLen y.toNat := by
  rw [← Lib.len8_of y h0 h1]
  unfold Lib.len8
  rw [getElem?_pos Lib.len8tab y.toNat h]
  rfl
set_option maxHeartbeats 4000000 in
set_option maxRecDepth 100000 in
theorem len64_any (x : Int) (w : World) (h0 : 0 ≤ x) (h1 : x ≤ 18446744073709551615) :
    Calls Try.prog 61 #[.int .u64 x] w fun e w' => e = .returned (.int .i64 (Lib.bitLen x.toNat)) ∧ w' = w := by
  have l64 : Lib.bitLen x.toNat ≤ 64 := Lib.bitLen_le x.toNat 64 (by omega) (by omega)
  have hsz : (Lib.len8tab.size : Int) = 256 := by rw [Lib.len8tab_size]; rfl
  go_enter Try.func61, Try.ntmps61
  go_wp2
  · go_ret
    refine ⟨ret_int ?_, rfl⟩
    rw [tab_len (x / 4294967296 / 65536 / 256) (by omega) (by omega)]
    have e : (x / 4294967296 / 65536 / 256).toNat = x.toNat / 72057594037927936 := by omega
    rw [e]
    have s := Lib.bitLen_shift56 x.toNat (by omega) (by omega)
    clear e
    generalize Lib.bitLen (x.toNat / 72057594037927936) = b at *
    generalize Lib.bitLen x.toNat = a at *
    unfold wrap64
    omega
  · go_ret
    refine ⟨ret_int ?_, rfl⟩
    rw [tab_len (x / 4294967296 / 65536) (by omega) (by omega)]
    have e : (x / 4294967296 / 65536).toNat = x.toNat / 281474976710656 := by omega
    rw [e]
    have s := Lib.bitLen_shift48 x.toNat (by omega) (by omega)
    clear e
    generalize Lib.bitLen (x.toNat / 281474976710656) = b at *
    generalize Lib.bitLen x.toNat = a at *
    unfold wrap64
    omega
  · go_ret
    refine ⟨ret_int ?_, rfl⟩
    rw [tab_len (x / 4294967296 / 256) (by omega) (by omega)]
    have e : (x / 4294967296 / 256).toNat = x.toNat / 1099511627776 := by omega
    rw [e]
    have s := Lib.bitLen_shift40 x.toNat (by omega) (by omega)
    clear e
    generalize Lib.bitLen (x.toNat / 1099511627776) = b at *
    generalize Lib.bitLen x.toNat = a at *
    unfold wrap64
    omega
  · go_ret
    refine ⟨ret_int ?_, rfl⟩
    rw [tab_len (x / 4294967296) (by omega) (by omega)]
    have e : (x / 4294967296).toNat = x.toNat / 4294967296 := by omega
    rw [e]
    have s := Lib.bitLen_shift32 x.toNat (by omega) (by omega)
    clear e
    generalize Lib.bitLen (x.toNat / 4294967296) = b at *
    generalize Lib.bitLen x.toNat = a at *
    unfold wrap64
    omega
  · go_ret
    refine ⟨ret_int ?_, rfl⟩
    rw [tab_len (x / 65536 / 256) (by omega) (by omega)]
    have e : (x / 65536 / 256).toNat = x.toNat / 16777216 := by omega
    rw [e]
    have s := Lib.bitLen_shift24 x.toNat (by omega) (by omega)
    clear e
    generalize Lib.bitLen (x.toNat / 16777216) = b at *
    generalize Lib.bitLen x.toNat = a at *
    unfold wrap64
    omega
  · go_ret
    refine ⟨ret_int ?_, rfl⟩
    rw [tab_len (x / 65536) (by omega) (by omega)]
    have e : (x / 65536).toNat = x.toNat / 65536 := by omega
    rw [e]
    have s := Lib.bitLen_shift16 x.toNat (by omega) (by omega)
    clear e
    generalize Lib.bitLen (x.toNat / 65536) = b at *
    generalize Lib.bitLen x.toNat = a at *
    unfold wrap64
    omega
  · go_ret
    refine ⟨ret_int ?_, rfl⟩
    rw [tab_len (x / 256) (by omega) (by omega)]
    have e : (x / 256).toNat = x.toNat / 256 := by omega
    rw [e]
    have s := Lib.bitLen_shift8 x.toNat (by omega) (by omega)
    clear e
    generalize Lib.bitLen (x.toNat / 256) = b at *
    generalize Lib.bitLen x.toNat = a at *
    unfold wrap64
    omega
  · go_ret
    refine ⟨ret_int ?_, rfl⟩
    rw [tab_len x (by omega) (by omega)]
    unfold wrap64
    omega
theorem zeros64_any (x : Int) (w : World) (h0 : 0 ≤ x) (h1 : x ≤ 18446744073709551615) :
    Calls Try.prog 55 #[.int .u64 x] w fun e w' => e = .returned (.int .i64 (64 - (Lib.bitLen x.toNat : Int))) ∧ w' = w := by
  have l : Lib.bitLen x.toNat ≤ 64 := Lib.bitLen_le x.toNat 64 (by omega) (by omega)
  have _e8 : (64 - (Lib.bitLen x.toNat : Int) + 9223372036854775808) % 18446744073709551616 - 9223372036854775808 = 64 - (Lib.bitLen x.toNat : Int) := by omega
  have HC := Lib.hid (len64_any x w h0 h1)
  clear h0 h1
  go_enter Try.func55, Try.ntmps55
  go_wp2_with fail
  refine HC.out.mono ?_
  rintro e w' ⟨rfl, rfl⟩
  go_wp2
  go_ret
  exact ⟨rfl, rfl⟩
end Go.Proofs.Ytnalbkjbidaojaa
