/- Package list: its calls, over what is owned apart, with the number of its places; awake. -/
import Derived.Test.YthbffkdfahlpdaaSepH
import Derived.Test.YthbffkdfahlpdaaListC
import Derived.Test.YthbffkdfahlpdaaListAwake
set_option linter.unusedVariables false
namespace Go.Proofs.Ythbffkdfahlpdaa
open Go.RowKit Go.MapKept

instance {b : Nat} {keys : List ByteArray} {pl : Nat} : Mov (fun w S => ListAt w b S keys pl) := ⟨fun h hz hs => h.move hz hs⟩
def llP (lb : Nat) (ks : List ByteArray) (p : Nat) : Res := .of fun w S => ListAt w lb S ks p
theorem llP.le {lb : Nat} {ks : List ByteArray} {p : Nat} (w : World) (S : Nat → Prop) (q : (llP lb ks p).p w S) : ks.Nodup ∧ ks.length ≤ p :=
  have q : ListAt w lb S ks p := q
  ⟨q.uniq, q.le⟩
section
variable {lb p : Nat} {ks : List ByteArray}
theorem u_New : Tri Try.prog 28 #[] [] (PostE (fun _ => True) (fun b => pV b 0) fun b => [] ++ [llP b [] 0]) := tri_makeP fun w own h => list_New.mono fun _ _ ⟨b, he, hm, S', hs, hl⟩ => ⟨b, he, hm, hl.move (Nat.le_refl _) fun k _ q => ⟨hs k q, rfl⟩⟩
theorem u_Len : Tri Try.prog 35 #[pV lb 0] [llP lb ks p] (Same [llP lb ks p] (iV ks.length)) := tri_same fun w own h => list_Len (h 0 _ rfl)
theorem u_Places (hb : p ≤ 1000000000) : Tri Try.prog 36 #[pV lb 0] [llP lb ks p] (Same [llP lb ks p] (iV p)) := tri_same fun w own h => list_Places (h 0 _ rfl) hb
theorem u_Has (key : ByteArray) : Tri Try.prog 39 #[pV lb 0, sV key] [llP lb ks p] (Same [llP lb ks p] (bV (decide (key ∈ ks)))) := tri_same fun w own h => list_Has (h 0 _ rfl) key
theorem u_First : Tri Try.prog 40 #[pV lb 0] [llP lb ks p] (Same [llP lb ks p] (.tuple #[sV (ks.head?.getD ⟨#[]⟩), bV (decide (0 < ks.length))])) := tri_reads fun w own h => list_First (h 0 _ rfl)
theorem u_Last : Tri Try.prog 37 #[pV lb 0] [llP lb ks p] (Same [llP lb ks p] (.tuple #[sV (ks.getLast?.getD ⟨#[]⟩), bV (decide (0 < ks.length))])) := tri_reads fun w own h => list_Last (h 0 _ rfl)
theorem u_Pop (hb : p ≤ 1000000000) : Tri Try.prog 38 #[pV lb 0] [llP lb ks p] (Same [llP lb ks.dropLast p] (.tuple #[sV (ks.getLast?.getD ⟨#[]⟩), bV (decide (0 < ks.length))])) := tri_after fun w S h => list_Pop h hb
theorem u_Remove (key : ByteArray) (hb : p ≤ 1000000000) : Tri Try.prog 33 #[pV lb 0, sV key] [llP lb ks p] (Same [llP lb (rm ks key) p] (bV (decide (key ∈ ks)))) := tri_after fun w S h => list_Remove h hb key
theorem u_Front (key : ByteArray) (hb : p ≤ 1000000000) : Tri Try.prog 29 #[pV lb 0, sV key] [llP lb ks p] (Same [llP lb (fr ks key) (max p (fr ks key).length)] (.tuple #[])) := tri_after fun w S h => list_Front h hb key
theorem u_Back (key : ByteArray) (hb : p ≤ 1000000000) : Tri Try.prog 30 #[pV lb 0, sV key] [llP lb ks p] (Same [llP lb (bk ks key) (max p (bk ks key).length)] (.tuple #[])) := tri_after fun w S h => list_Back h hb key
theorem u_Clear : Tri Try.prog 46 #[pV lb 0] [llP lb ks p] (Same [llP lb [] 0] (.tuple #[])) := tri_after fun w S h => list_Clear h
theorem u_Keys (hb : p ≤ 1000000000) : Tri Try.prog 32 #[pV lb 0] [llP lb ks p] (PostE (fun _ => True) id fun v => [llP lb ks p] ++ [rowR 9 1 v ks.length (ks.map Value.string)]) := tri_make fun w own h => list_Keys (h 0 _ rfl) hb
theorem awake_list : Tri Try.prog 27 #[] [] (Same [] (bV true)) := fun w own hH hO => (list_awake w).mono fun e w' ⟨h1, h2⟩ => ⟨_, h1, [], fun _ => 0, ⟨rfl, rfl⟩, fun i R hi => by simp at hi, h2.mono fun k hk q => q.elim, fun k hk q => absurd rfl q⟩
end
end Go.Proofs.Ythbffkdfahlpdaa
