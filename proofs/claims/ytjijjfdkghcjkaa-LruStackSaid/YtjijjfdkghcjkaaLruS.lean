/- Package lru: its calls, over what is owned apart. -/
import Derived.Test.YtjijjfdkghcjkaaLruPure
import Derived.Test.YtjijjfdkghcjkaaLruAwake
import Derived.Test.YtjijjfdkghcjkaaRefS
import Derived.Test.YtjijjfdkghcjkaaSepH
set_option linter.unusedVariables false
namespace Go.Proofs.Ytjijjfdkghcjkaa
open Go.RowKit Go.MapKept

def lruR (b : Nat) (most : Int) (ks : List ByteArray) (n : Nat) : Res := .of fun w S => LruAt w S b most ks n
theorem lruR.up {b : Nat} {most : Int} {ks : List ByteArray} {n m : Nat} (h : n ≤ m) (w : World) (S : Nat → Prop) (q : (lruR b most ks n).p w S) : (lruR b most ks m).p w S := LruAt.up q h
section
variable {b n N M : Nat} {most : Int} {ks F : List ByteArray}
theorem tl_New (hm : N ≤ 9223372036854775807) : Tri Try.prog 15 #[iV (N : Int)] [] (PostE (fun _ => True) (fun b => pV b 0) fun b => [] ++ [lruR b (N : Int) (lastN N []) 0]) := tri_makeP fun w own h => by
  have := lru_New (w := w) (N : Int) (by omega)
  rw [show max (N : Int) 0 = N by omega] at this
  rw [show lastN N [] = [] by simp [lastN]]
  exact this
theorem tl_Len : Tri Try.prog 17 #[pV b 0] [lruR b most ks n] (Same [lruR b most ks n] (iV ks.length)) := tri_same fun w own h => lru_Len (h 0 _ rfl)
theorem tl_Has (key : ByteArray) : Tri Try.prog 18 #[pV b 0, sV key] [lruR b most ks n] (Same [lruR b most ks n] (bV (decide (key ∈ ks)))) := tri_same fun w own h => lru_Has (h 0 _ rfl) key
theorem tl_Keys (hb : n ≤ 1000000000) : Tri Try.prog 19 #[pV b 0] [lruR b most ks n] (PostE (fun _ => True) id fun v => [lruR b most ks n] ++ [rowR 9 1 v ks.length (ks.map Value.string)]) := tri_make fun w own h => lru_Keys (h 0 _ rfl) hb
theorem tl_Request (hF : F.Nodup) (key : ByteArray) (hb : n ≤ 100000000) : Tri Try.prog 16 #[pV b 0, sV key] [lruR b (M : Int) (lastN M F) n]
    (Same [lruR b (M : Int) (lastN M (bk F key)) (n + 1)] (.agg #[bV (lruHit (lastN M F) key), sV (lruVic (M : Int) (lastN M F) key), bV (lruOutB (M : Int) (lastN M F) key)])) := tri_after fun w S h => by
  have := lru_Request h hb key
  rw [lruStep_eq, lastN_req hF] at this
  exact this
theorem awake_lru : Tri Try.prog 14 #[] [] (Same [] (bV true)) := fun w own hH hO => (lru_awake w).mono fun e w' ⟨h1, h2⟩ => ⟨_, h1, [], fun _ => 0, ⟨rfl, rfl⟩, fun i R hi => by simp at hi, h2.mono fun k hk q => q.elim, fun k hk q => absurd rfl q⟩
theorem stack_hit (h : N ≤ M) {key : ByteArray} (hx : lruHit (lastN N F) key = true) : lruHit (lastN M F) key = true := by
  unfold lruHit at *
  exact decide_eq_true (lastN_sub h (of_decide_eq_true hx))
theorem stack_gone (hF : F.Nodup) {key : ByteArray} (hx : lruOutB (M : Int) (lastN M F) key = true) : lruVic (M : Int) (lastN M F) key ∉ lastN M (bk F key) := by
  rw [← lastN_req hF]
  exact lruVic_gone (hF.sublist (List.drop_sublist _ _)) hx
theorem getD_mem' {l : List ByteArray} {i : Nat} (h : i < l.length) : l.getD i ⟨#[]⟩ ∈ l := by
  rw [List.getD_eq_getElem?_getD, List.getElem?_eq_getElem h]; exact List.getElem_mem h
end
end Go.Proofs.Ytjijjfdkghcjkaa
