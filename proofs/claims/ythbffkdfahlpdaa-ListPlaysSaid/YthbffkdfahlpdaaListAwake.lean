/- The statements' own first test of package list comes to true. -/
import Derived.Test.YthbffkdfahlpdaaListC
import Derived.Test.YthbffkdfahlpdaaLibD
set_option linter.unusedVariables false
namespace Go.Proofs.Ythbffkdfahlpdaa
open Go.RowKit Go.MapKept

/-- A list that was made since w0. -/
def Mine (w0 w : World) (b : Nat) (keys : List ByteArray) (pl : Nat) : Prop := Mod Nil w0 w ∧ ∃ S, (∀ k, S k → w0.heap.size ≤ k) ∧ ListAt w b S keys pl
theorem Mine.left {w0 w w' : World} {b : Nat} {S : Nat → Prop} {keys : List ByteArray} {pl : Nat} (hm : Mod Nil w0 w) (hs : ∀ k, S k → w0.heap.size ≤ k) (h : Left w w' b S keys pl) : Mine w0 w' b keys pl := by
  obtain ⟨h1, S', h2, h3⟩ := h
  exact ⟨hm.trans' h1 fun k hk q => absurd (hs k q) (by omega), S', fun k q => (h2 k q).elim (hs k) fun q => Nat.le_trans hm.size q, h3⟩
section
variable {w0 w : World} {b : Nat} {keys : List ByteArray} {pl : Nat}
theorem mine_Front (h : Mine w0 w b keys pl) (hb : pl ≤ 1000000000) (key : ByteArray) :
    Calls Try.prog 29 #[.pointer (some ⟨b, 0, none⟩), .string key] w fun e w' => e = .returned (.tuple #[]) ∧ Mine w0 w' b (fr keys key) (max pl (fr keys key).length) := by
  obtain ⟨hm, S, hs, h⟩ := h
  exact (list_Front h hb key).mono fun e w' ⟨he, hl⟩ => ⟨he, Mine.left hm hs hl⟩
theorem mine_Back (h : Mine w0 w b keys pl) (hb : pl ≤ 1000000000) (key : ByteArray) :
    Calls Try.prog 30 #[.pointer (some ⟨b, 0, none⟩), .string key] w fun e w' => e = .returned (.tuple #[]) ∧ Mine w0 w' b (bk keys key) (max pl (bk keys key).length) := by
  obtain ⟨hm, S, hs, h⟩ := h
  exact (list_Back h hb key).mono fun e w' ⟨he, hl⟩ => ⟨he, Mine.left hm hs hl⟩
theorem mine_Remove (h : Mine w0 w b keys pl) (hb : pl ≤ 1000000000) (key : ByteArray) :
    Calls Try.prog 33 #[.pointer (some ⟨b, 0, none⟩), .string key] w fun e w' => e = .returned (.bool (decide (key ∈ keys))) ∧ Mine w0 w' b (rm keys key) pl := by
  obtain ⟨hm, S, hs, h⟩ := h
  exact (list_Remove h hb key).mono fun e w' ⟨he, hl⟩ => ⟨he, Mine.left hm hs hl⟩
theorem mine_Pop (h : Mine w0 w b keys pl) (hb : pl ≤ 1000000000) :
    Calls Try.prog 38 #[.pointer (some ⟨b, 0, none⟩)] w fun e w' => e = .returned (.tuple #[.string (keys.getLast?.getD ⟨#[]⟩), .bool (decide (0 < keys.length))]) ∧ Mine w0 w' b keys.dropLast pl := by
  obtain ⟨hm, S, hs, h⟩ := h
  exact (list_Pop h hb).mono fun e w' ⟨he, hl⟩ => ⟨he, Mine.left hm hs hl⟩
theorem mine_First (h : Mine w0 w b keys pl) :
    Calls Try.prog 40 #[.pointer (some ⟨b, 0, none⟩)] w fun e w' => e = .returned (.tuple #[.string (keys.head?.getD ⟨#[]⟩), .bool (decide (0 < keys.length))]) ∧ Mine w0 w' b keys pl := by
  obtain ⟨hm, S, hs, h⟩ := h
  exact (list_First h).mono fun e w' ⟨he, n, hl⟩ => ⟨he, by subst hl; exact ⟨hm.drewN n, S, hs, h.drewN n⟩⟩
theorem mine_New : Calls Try.prog 28 #[] w fun e w' => ∃ b, e = .returned (.pointer (some ⟨b, 0, none⟩)) ∧ Mine w w' b [] 0 :=
  list_New.mono fun _ _ ⟨b, he, hm, S', hs, hl⟩ => ⟨b, he, hm, S', hs, hl⟩
end

theorem Mine.to {w0 w : World} {b : Nat} {keys keys' : List ByteArray} {pl pl' : Nat} (h : Mine w0 w b keys pl) (e : keys = keys') (e' : pl = pl') : Mine w0 w b keys' pl' := by subst e; subst e'; exact h

set_option maxHeartbeats 800000 in
theorem list_awake (w : World) : Calls Try.prog 27 #[] w fun e w' => e = .returned (.bool true) ∧ Mod Nil w w' := by
  go_enter Try.func27, Try.ntmps27
  go_wp2_with (go_at_call 28; refine mine_New.mono ?_; rintro e w1 ⟨b, rfl, L1⟩; have H1 := hid L1; clear L1)
  refine (mine_Front H1.out (by omega) _).mono ?_
  rintro e w2 ⟨rfl, L2⟩
  have H2 := hid (L2.to (keys' := [⟨#[97]⟩]) (pl' := 1) (by decide +kernel) (by decide +kernel)); clear L2
  go_wp2_with fail
  refine (mine_Front H2.out (by omega) _).mono ?_
  rintro e w3 ⟨rfl, L3⟩
  have H3 := hid (L3.to (keys' := [⟨#[98]⟩, ⟨#[97]⟩]) (pl' := 2) (by decide +kernel) (by decide +kernel)); clear L3
  go_wp2_with fail
  refine (mine_Back H3.out (by omega) _).mono ?_
  rintro e w4 ⟨rfl, L4⟩
  have H4 := hid (L4.to (keys' := [⟨#[98]⟩, ⟨#[97]⟩, ⟨#[99]⟩]) (pl' := 3) (by decide +kernel) (by decide +kernel)); clear L4
  have c5 : Calls Try.prog 40 #[.pointer (some ⟨b, 0, none⟩)] w4 fun e w' => e = .returned (.tuple #[.string ⟨#[98]⟩, .bool true]) ∧ Mine w w' b [⟨#[98]⟩, ⟨#[97]⟩, ⟨#[99]⟩] 3 := mine_First H4.out
  have C5 := hid c5; clear c5
  go_wp2_with fail
  refine C5.out.mono ?_
  rintro e w5 ⟨rfl, L5⟩
  have c6 : Calls Try.prog 38 #[.pointer (some ⟨b, 0, none⟩)] w5 fun e w' => e = .returned (.tuple #[.string ⟨#[99]⟩, .bool true]) ∧ Mine w w' b [⟨#[98]⟩, ⟨#[97]⟩] 3 := mine_Pop L5 (by omega)
  have C6 := hid c6; clear c6 L5
  go_wp2_with fail
  refine C6.out.mono ?_
  rintro e w6 ⟨rfl, L6⟩
  have c7 : Calls Try.prog 33 #[.pointer (some ⟨b, 0, none⟩), .string ⟨#[98]⟩] w6 fun e w' => e = .returned (.bool true) ∧ Mine w w' b [⟨#[97]⟩] 3 :=
    (mine_Remove L6 (by omega) ⟨#[98]⟩).mono fun e w' ⟨he, hl⟩ => ⟨he.trans (ret_bool (by decide +kernel)), hl.to (by decide +kernel) rfl⟩
  have C7 := hid c7; clear c7 L6
  go_wp2_with fail
  refine C7.out.mono ?_
  rintro e w7 ⟨rfl, L7⟩
  have c8 : Calls Try.prog 33 #[.pointer (some ⟨b, 0, none⟩), .string ⟨#[98]⟩] w7 fun e w' => e = .returned (.bool false) ∧ Mine w w' b [⟨#[97]⟩] 3 :=
    (mine_Remove L7 (by omega) ⟨#[98]⟩).mono fun e w' ⟨he, hl⟩ => ⟨he.trans (ret_bool (by decide +kernel)), hl.to (by decide +kernel) rfl⟩
  have C8 := hid c8; clear c8 L7
  go_wp2_with fail
  refine C8.out.mono ?_
  rintro e w8 ⟨rfl, hm, S, hs, hl⟩
  have c9 : Calls Try.prog 35 #[.pointer (some ⟨b, 0, none⟩)] w8 fun e w' => e = .returned (.int .i64 1) ∧ w8 = w' := list_Len hl
  have c10 : Calls Try.prog 39 #[.pointer (some ⟨b, 0, none⟩), .string ⟨#[97]⟩] w8 fun e w' => e = .returned (.bool true) ∧ w8 = w' :=
    (list_Has hl ⟨#[97]⟩).mono fun e w' ⟨he, hl⟩ => ⟨he.trans (ret_bool (by decide +kernel)), hl⟩
  have c11 : Calls Try.prog 39 #[.pointer (some ⟨b, 0, none⟩), .string ⟨#[98]⟩] w8 fun e w' => e = .returned (.bool false) ∧ w8 = w' :=
    (list_Has hl ⟨#[98]⟩).mono fun e w' ⟨he, hl⟩ => ⟨he.trans (ret_bool (by decide +kernel)), hl⟩
  have c12 : Calls Try.prog 36 #[.pointer (some ⟨b, 0, none⟩)] w8 fun e w' => e = .returned (.int .i64 3) ∧ w8 = w' := list_Places hl (by decide)
  have C9 := hid c9; have C10 := hid c10; have C11 := hid c11; have C12 := hid c12; have HL := hid hl
  clear c9 c10 c11 c12 hl
  go_wp2_with fail
  refine C9.out.mono ?_
  rintro e w' ⟨rfl, rfl⟩
  go_wp2_with fail
  refine C10.out.mono ?_
  rintro e w' ⟨rfl, rfl⟩
  go_wp2_with fail
  refine C11.out.mono ?_
  rintro e w' ⟨rfl, rfl⟩
  go_wp2_with fail
  refine C12.out.mono ?_
  rintro e w' ⟨rfl, rfl⟩
  go_wp2_with fail
  refine (list_Keys HL.out (by omega)).mono ?_
  rintro e w9 ⟨v, rfl, hm9, hr9⟩
  have hm2 := hid (hm.trans hm9)
  have hr := hid hr9.strs
  clear hm hm9 hr9
  go_wp2_with fail
  refine (ref03_Same _ _ [⟨#[97]⟩] [⟨#[97]⟩] _ _ _ (hr.out.alloc _) (Row.strs (ks := [⟨#[97]⟩]) (Row.fresh (n := 1) (size := 1) w9 [.string ⟨#[97]⟩] 9 rfl (by unfold maxLen; omega)))).mono ?_
  rintro e w10 ⟨rfl, n, rfl⟩
  go_wp2
  go_ret
  exact ⟨by simp, (hm2.out.alloc _).drewN n⟩
end Go.Proofs.Ythbffkdfahlpdaa
