/- Package list: its calls, over what is owned apart. -/
import Derived.Test.YtjijjfdkghcjkaaSepG
import Derived.Test.YtjijjfdkghcjkaaRev
set_option linter.unusedVariables false
namespace Go.Proofs.Ytjijjfdkghcjkaa
open Go.RowKit Go.MapKept

def llR (lb : Nat) (ks : List ByteArray) (n : Nat) : Res := .of fun w S => LL w S lb ks n
theorem llR.up {lb : Nat} {ks : List ByteArray} {n m : Nat} (h : n ≤ m) (w : World) (S : Nat → Prop) (q : (llR lb ks n).p w S) : (llR lb ks m).p w S := LL.up q h
theorem llR.le {lb : Nat} {ks : List ByteArray} {n : Nat} (w : World) (S : Nat → Prop) (q : (llR lb ks n).p w S) : ks.Nodup ∧ ks.length ≤ n := ⟨LL.uniq q, LL.le q⟩
section
variable {lb n : Nat} {ks : List ByteArray}
theorem t_New : Tri Try.prog 59 #[] [] (PostE (fun _ => True) (fun b => pV b 0) fun b => [] ++ [llR b [] 0]) := tri_makeP fun w own h => w_New
theorem t_Len : Tri Try.prog 61 #[pV lb 0] [llR lb ks n] (Same [llR lb ks n] (iV ks.length)) := tri_same fun w own h => w_Len (h 0 _ rfl)
theorem t_Has (key : ByteArray) : Tri Try.prog 60 #[pV lb 0, sV key] [llR lb ks n] (Same [llR lb ks n] (bV (decide (key ∈ ks)))) := tri_same fun w own h => w_Has (h 0 _ rfl) key
theorem t_Last : Tri Try.prog 69 #[pV lb 0] [llR lb ks n] (Same [llR lb ks n] (.tuple #[sV (ks.getLast?.getD ⟨#[]⟩), bV (decide (0 < ks.length))])) := tri_reads fun w own h => w_Last (h 0 _ rfl)
theorem t_Pop (hb : n ≤ 1000000000) : Tri Try.prog 62 #[pV lb 0] [llR lb ks n] (Same [llR lb ks.dropLast n] (.tuple #[sV (ks.getLast?.getD ⟨#[]⟩), bV (decide (0 < ks.length))])) := tri_after fun w S h => w_Pop h hb
theorem t_Remove (key : ByteArray) (hb : n ≤ 1000000000) : Tri Try.prog 68 #[pV lb 0, sV key] [llR lb ks n] (Same [llR lb (rm ks key) n] (bV (decide (key ∈ ks)))) := tri_after fun w S h => w_Remove h hb key
theorem t_Front (key : ByteArray) (hb : n ≤ 1000000000) : Tri Try.prog 63 #[pV lb 0, sV key] [llR lb ks n] (Same [llR lb (fr ks key) (n + 1)] (.tuple #[])) := tri_after fun w S h => w_Front h hb key
theorem t_Keys (hb : n ≤ 1000000000) : Tri Try.prog 64 #[pV lb 0] [llR lb ks n] (PostE (fun _ => True) id fun v => [llR lb ks n] ++ [rowR 9 1 v ks.length (ks.map Value.string)]) := tri_make fun w own h => w_Keys (h 0 _ rfl) hb
theorem t_Reverse {v : Value} (hb : ks.length ≤ 1000000000) : Tri Try.prog 65 #[v] [rowR 9 1 v ks.length (ks.map Value.string)] (Same [rowR 9 1 v ks.length (ks.reverse.map Value.string)] (.tuple #[])) := tri_after fun w S h => after_as (w_Reverse h hb) rfl fun w S q => by rw [List.length_reverse] at q; exact q
end
end Go.Proofs.Ytjijjfdkghcjkaa
