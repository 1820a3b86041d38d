/- Keys' hashes as numbers. No program; no condition. -/
import Derived.Test.YthbffkdfahlpdaaLibA
import Derived.Laws.Bits64
set_option linter.unusedVariables false
namespace Go.Proofs.Ythbffkdfahlpdaa
open Go

def hstep (h : Nat) (c : UInt8) : Nat := (h ^^^ c.toNat) * 1099511628211 % 18446744073709551616
def hfold (l : List UInt8) : Nat := l.foldl hstep 14695981039346656037
def hmix (h : Nat) : Nat := (h ^^^ h / 8589934592) * 18397679294719823053 % 18446744073709551616
def hashOf (key : ByteArray) : Nat := hmix (hfold key.data.toList) ^^^ hmix (hfold key.data.toList) / 8589934592
theorem big_pos : 0 < 18446744073709551616 := by decide
theorem hstep_lt (h : Nat) (c : UInt8) : hstep h c < 18446744073709551616 := by unfold hstep; exact Nat.mod_lt _ big_pos
theorem hmix_lt (h : Nat) : hmix h < 18446744073709551616 := by unfold hmix; exact Nat.mod_lt _ big_pos
theorem hstep_val {x : Nat} (hx : x < 18446744073709551616) (c : UInt8) : IntKind.u64.wrap (bits .xor .u64 (x : Int) (IntKind.u64.wrap (c.toNat : Int)) * 1099511628211) = ((hstep x c : Nat) : Int) := by
  have hc : c.toNat < 256 := c.toNat_lt
  have e : IntKind.u64.wrap (c.toNat : Int) = ((c.toNat : Nat) : Int) := by rw [IntKind.wrap_u64]; omega
  rw [e, bits_xor_u64_nat _ _ hx (by omega), IntKind.wrap_u64]
  unfold hstep
  rw [Int.natCast_emod, Int.natCast_mul]
  rfl
theorem hmix_val {x : Nat} (hx : x < 18446744073709551616) : IntKind.u64.wrap (bits .xor .u64 (x : Int) ((x : Int) / 8589934592) * 18397679294719823053) = ((hmix x : Nat) : Int) := by
  unfold hmix
  exact mixStep_u64 x 8589934592 18397679294719823053 hx
theorem hxor_val {x : Nat} (hx : x < 18446744073709551616) (c : UInt8) : bits .xor .u64 (x : Int) (IntKind.u64.wrap (c.toNat : Int)) = ((x ^^^ c.toNat : Nat) : Int) := by
  have hc : c.toNat < 256 := c.toNat_lt
  have e : IntKind.u64.wrap (c.toNat : Int) = ((c.toNat : Nat) : Int) := by rw [IntKind.wrap_u64]; omega
  rw [e, bits_xor_u64_nat _ _ hx (by omega)]
theorem hstep_def (x : Nat) (c : UInt8) : (x ^^^ c.toNat) * 1099511628211 % 18446744073709551616 = hstep x c := rfl
theorem hmix_def (x : Nat) : (x ^^^ x / 8589934592) * 18397679294719823053 % 18446744073709551616 = hmix x := rfl
attribute [irreducible] hstep hmix
theorem hfold_snoc {l : List UInt8} {k : Nat} (h : k < l.length) : hfold (l.take (k + 1)) = hstep (hfold (l.take k)) l[k] := by
  unfold hfold
  rw [List.take_succ_eq_append_getElem h, List.foldl_append, List.foldl_cons, List.foldl_nil]
theorem hfold_lt (l : List UInt8) : hfold l < 18446744073709551616 := by
  unfold hfold
  rcases List.eq_nil_or_concat l with e | ⟨t, x, e⟩
  · subst e; rw [List.foldl_nil]; decide
  · subst e; rw [List.concat_eq_append, List.foldl_append, List.foldl_cons, List.foldl_nil]; exact hstep_lt _ _
theorem xor_lt {a b : Nat} (ha : a < 18446744073709551616) (hb : b < 18446744073709551616) : a ^^^ b < 18446744073709551616 := Nat.xor_lt_two_pow (n := 64) ha hb
theorem hashOf_lt (key : ByteArray) : hashOf key < 18446744073709551616 := by
  unfold hashOf
  exact xor_lt (hmix_lt _) (Nat.lt_of_le_of_lt (Nat.div_le_self _ _) (hmix_lt _))
attribute [irreducible] hfold hashOf
theorem times_step (p x k : Nat) (M : Nat) : (p % M + (x + x) % M * k) % M = (p + (x + x) * k) % M := by
  rw [Nat.add_mod, Nat.mod_mod, Nat.mul_mod, Nat.mod_mod, ← Nat.mul_mod, ← Nat.add_mod]
theorem times_odd {p x y : Nat} (M : Nat) (h : y % 2 = 1) : ((p + x) % M + (x + x) % M * (y / 2)) % M = (p + x * y) % M := by
  rw [times_step]
  have e : y = 2 * (y / 2) + 1 := by omega
  generalize y / 2 = k at e ⊢
  subst e
  rw [Nat.mul_add, Nat.mul_one, ← Nat.mul_assoc, Nat.mul_comm x 2, Nat.two_mul]
  congr 1
  omega
theorem times_even {p x y : Nat} (M : Nat) (hp : p < M) (h : ¬ y % 2 = 1) : (p + (x + x) % M * (y / 2)) % M = (p + x * y) % M := by
  have := times_step p x (y / 2) M
  rw [Nat.mod_eq_of_lt hp] at this
  rw [this]
  have e : y = 2 * (y / 2) := by omega
  generalize y / 2 = k at e ⊢
  subst e
  rw [← Nat.mul_assoc, Nat.mul_comm x 2, Nat.two_mul]
end Go.Proofs.Ythbffkdfahlpdaa
