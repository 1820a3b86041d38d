/- Package srlru: its calls over parts, as plain functions. -/
import Derived.Test.YtjijjfdkghcjkaaListS
import Derived.Test.YtjijjfdkghcjkaaSepI
set_option linter.unusedVariables false
namespace Go.Proofs.Ytjijjfdkghcjkaa
open Go.RowKit Go.MapKept

def markV (m : Bool × Bool) : Value := .agg #[.bool m.1, .bool m.2]
abbrev srlB (b nb ab gb mb : Nat) (most target : Int) : Res := blkR b [iV most, iV target, pV nb 0, pV ab 0, pV gb 0, .map (some mb)] 83
abbrev srlL (b nb ab gb mb : Nat) (most target : Int) (ns cs gs : List ByteArray) (ms : List (ByteArray × (Bool × Bool))) (n : Nat) : List Res :=
  [srlB b nb ab gb mb most target, llR nb ns n, llR ab cs n, llR gb gs n, mapR Value.string markV mb ms]

def srlAgain0 (most : Int) (target : Int) (ns : List ByteArray) (cs : List ByteArray) (gs : List ByteArray) (ms : List (ByteArray × (Bool × Bool)))  : Int :=
  (cs.length : Int)

set_option maxHeartbeats 4000000 in
set_option maxRecDepth 100000 in
theorem srl_Again {b : Nat} {nb : Nat} {ab : Nat} {gb : Nat} {mb : Nat} {n : Nat} {most : Int} {target : Int} {ns : List ByteArray} {cs : List ByteArray} {gs : List ByteArray} {ms : List (ByteArray × (Bool × Bool))}  (hb : n ≤ 1000000000) : Tri Try.prog 39 #[pV b 0] (srlL b nb ab gb mb most target ns cs gs ms n) (Same (srlL b nb ab gb mb most target ns cs gs ms n) (iV (srlAgain0 most target ns cs gs ms))) := by
  refine Tri.enter (args := [pV b 0]) Try.func39 rfl rfl rfl (fun B wz => ?_)
  refine Cd.seq ?_
  refine Cd.region rfl ?_
  refine Sq.vals [0] (rest := []) [iV 0] (fun w => by kernel_rfl) ?_
  refine Sq.done ?_
  refine Ex'.next ?_
  refine Cd.seq ?_
  refine Cd.region rfl ?_
  refine Sq.vals [0, 1, 2] (rest := [3, 4, 5]) [pV b 0, pV b 0, pV b 3] (fun w => by kernel_rfl) ?_
  refine Sq.same [0] (l := [srlB b nb ab gb mb most target]) (o_load (i := 3) (v := pV ab 0) (by kernel_rfl) (by kernel_rfl) (by kernel_rfl)) (by kernel_rfl) rfl (by kernel_rfl) rfl ?_
  refine Sq.same [2] (l := [llR ab cs n]) (o_call (by kernel_rfl) Try.call61 (t_Len (ks := cs) (n := n))) (by kernel_rfl) rfl (by kernel_rfl) rfl ?_
  refine Sq.vals [5] (rest := []) [iV (cs.length : Int)] (fun w => by kernel_rfl) ?_
  refine Sq.done ?_
  refine Ex'.next ?_
  refine Cd.ret ?_
  refine Ex'.ret Try.results39 (RVs.tmp (v := iV (cs.length : Int)) (by kernel_rfl) (RVs.nil)) (fun w hw => ?_)
  have e : srlAgain0 most target ns cs gs ms = (cs.length : Int) := by unfold srlAgain0; rfl
  rw [e]
  exact ⟨_, ⟨rfl, rfl⟩, hw.pickB [0, 1, 2, 3, 4] (by kernel_rfl) (by kernel_rfl) (by kernel_rfl)⟩

def srlTarget (most : Int) (target : Int) (ns : List ByteArray) (cs : List ByteArray) (gs : List ByteArray) (ms : List (ByteArray × (Bool × Bool)))  : Int :=
  target

set_option maxHeartbeats 4000000 in
set_option maxRecDepth 100000 in
theorem srl_Target {b : Nat} {nb : Nat} {ab : Nat} {gb : Nat} {mb : Nat} {n : Nat} {most : Int} {target : Int} {ns : List ByteArray} {cs : List ByteArray} {gs : List ByteArray} {ms : List (ByteArray × (Bool × Bool))}  (hb : n ≤ 1000000000) : Tri Try.prog 43 #[pV b 0] (srlL b nb ab gb mb most target ns cs gs ms n) (Same (srlL b nb ab gb mb most target ns cs gs ms n) (iV (srlTarget most target ns cs gs ms))) := by
  refine Tri.enter (args := [pV b 0]) Try.func43 rfl rfl rfl (fun B wz => ?_)
  refine Cd.seq ?_
  refine Cd.region rfl ?_
  refine Sq.vals [0] (rest := []) [iV 0] (fun w => by kernel_rfl) ?_
  refine Sq.done ?_
  refine Ex'.next ?_
  refine Cd.seq ?_
  refine Cd.region rfl ?_
  refine Sq.vals [0, 1, 2] (rest := [3, 4]) [pV b 0, pV b 0, pV b 1] (fun w => by kernel_rfl) ?_
  refine Sq.same [0] (l := [srlB b nb ab gb mb most target]) (o_load (i := 1) (v := iV target) (by kernel_rfl) (by kernel_rfl) (by kernel_rfl)) (by kernel_rfl) rfl (by kernel_rfl) rfl ?_
  refine Sq.vals [4] (rest := []) [iV target] (fun w => by kernel_rfl) ?_
  refine Sq.done ?_
  refine Ex'.next ?_
  refine Cd.ret ?_
  refine Ex'.ret Try.results43 (RVs.tmp (v := iV target) (by kernel_rfl) (RVs.nil)) (fun w hw => ?_)
  have e : srlTarget most target ns cs gs ms = target := by unfold srlTarget; rfl
  rw [e]
  exact ⟨_, ⟨rfl, rfl⟩, hw.pickB [0, 1, 2, 3, 4] (by kernel_rfl) (by kernel_rfl) (by kernel_rfl)⟩

def srlHas (most : Int) (target : Int) (ns : List ByteArray) (cs : List ByteArray) (gs : List ByteArray) (ms : List (ByteArray × (Bool × Bool))) (key : ByteArray) : Bool :=
  if key ∈ ns then true else decide (key ∈ cs)

set_option maxHeartbeats 4000000 in
set_option maxRecDepth 100000 in
theorem srl_Has {b : Nat} {nb : Nat} {ab : Nat} {gb : Nat} {mb : Nat} {n : Nat} {most : Int} {target : Int} {ns : List ByteArray} {cs : List ByteArray} {gs : List ByteArray} {ms : List (ByteArray × (Bool × Bool))} (key : ByteArray) (hb : n ≤ 1000000000) : Tri Try.prog 42 #[pV b 0, sV key] (srlL b nb ab gb mb most target ns cs gs ms n) (Same (srlL b nb ab gb mb most target ns cs gs ms n) (bV (srlHas most target ns cs gs ms key))) := by
  refine Tri.enter (args := [pV b 0, sV key]) Try.func42 rfl rfl rfl (fun B wz => ?_)
  refine Cd.seq ?_
  refine Cd.region rfl ?_
  refine Sq.vals [0] (rest := []) [bV false] (fun w => by kernel_rfl) ?_
  refine Sq.done ?_
  refine Ex'.next ?_
  refine Cd.seq ?_
  refine Cd.region rfl ?_
  refine Sq.vals [0, 1, 2] (rest := [3, 4, 5, 6, 7, 8, 9, 10, 11, 12, 13, 14]) [pV b 0, pV b 0, pV b 2] (fun w => by kernel_rfl) ?_
  refine Sq.same [0] (l := [srlB b nb ab gb mb most target]) (o_load (i := 2) (v := pV nb 0) (by kernel_rfl) (by kernel_rfl) (by kernel_rfl)) (by kernel_rfl) rfl (by kernel_rfl) rfl ?_
  refine Sq.vals [4] (rest := [5, 6, 7, 8, 9, 10, 11, 12, 13, 14]) [sV key] (fun w => by kernel_rfl) ?_
  refine Sq.same [1] (l := [llR nb ns n]) (o_call (by kernel_rfl) Try.call60 (t_Has (ks := ns) (n := n) key)) (by kernel_rfl) rfl (by kernel_rfl) rfl ?_
  refine Sq.vals [6] (rest := [7, 8, 9, 10, 11, 12, 13, 14]) [bV (decide (key ∈ ns))] (fun w => by kernel_rfl) ?_
  refine Sq.case 11 (p := key ∈ ns) rfl (fun h1 => ?_) (fun h1 => ?_)
  ·
    refine Sq.vals [7, 8, 9, 10, 11, 12, 13, 14] (rest := []) [undef, undef, undef, undef, undef, undef, bV true, bV true] (fun w => by kernel_rfl) ?_
    refine Sq.done ?_
    refine Ex'.next ?_
    refine Cd.ret ?_
    refine Ex'.ret Try.results42 (RVs.tmp (v := bV true) (by kernel_rfl) (RVs.nil)) (fun w hw => ?_)
    have e : srlHas most target ns cs gs ms key = true := by unfold srlHas; rw [if_pos h1]
    rw [e]
    exact ⟨_, ⟨rfl, rfl⟩, hw.pickB [0, 1, 2, 3, 4] (by kernel_rfl) (by kernel_rfl) (by kernel_rfl)⟩
  ·
    refine Sq.vals [7, 8, 9] (rest := [10, 11, 12, 13, 14]) [pV b 0, pV b 0, pV b 3] (fun w => by kernel_rfl) ?_
    refine Sq.same [0] (l := [srlB b nb ab gb mb most target]) (o_load (i := 3) (v := pV ab 0) (by kernel_rfl) (by kernel_rfl) (by kernel_rfl)) (by kernel_rfl) rfl (by kernel_rfl) rfl ?_
    refine Sq.vals [11] (rest := [12, 13, 14]) [sV key] (fun w => by kernel_rfl) ?_
    refine Sq.same [2] (l := [llR ab cs n]) (o_call (by kernel_rfl) Try.call60 (t_Has (ks := cs) (n := n) key)) (by kernel_rfl) rfl (by kernel_rfl) rfl ?_
    refine Sq.vals [13, 14] (rest := []) [bV (decide (key ∈ cs)), bV (decide (key ∈ cs))] (fun w => by kernel_rfl) ?_
    refine Sq.done ?_
    refine Ex'.next ?_
    refine Cd.ret ?_
    refine Ex'.ret Try.results42 (RVs.tmp (v := bV (decide (key ∈ cs))) (by kernel_rfl) (RVs.nil)) (fun w hw => ?_)
    have e : srlHas most target ns cs gs ms key = decide (key ∈ cs) := by unfold srlHas; rw [if_neg h1]
    rw [e]
    exact ⟨_, ⟨rfl, rfl⟩, hw.pickB [0, 1, 2, 3, 4] (by kernel_rfl) (by kernel_rfl) (by kernel_rfl)⟩

def srlLen (most : Int) (target : Int) (ns : List ByteArray) (cs : List ByteArray) (gs : List ByteArray) (ms : List (ByteArray × (Bool × Bool)))  : Int :=
  (ns.length : Int) + (cs.length : Int)

set_option maxHeartbeats 4000000 in
set_option maxRecDepth 100000 in
theorem srl_Len {b : Nat} {nb : Nat} {ab : Nat} {gb : Nat} {mb : Nat} {n : Nat} {most : Int} {target : Int} {ns : List ByteArray} {cs : List ByteArray} {gs : List ByteArray} {ms : List (ByteArray × (Bool × Bool))}  (hb : n ≤ 1000000000) : Tri Try.prog 40 #[pV b 0] (srlL b nb ab gb mb most target ns cs gs ms n) (Same (srlL b nb ab gb mb most target ns cs gs ms n) (iV (srlLen most target ns cs gs ms))) := by
  refine Tri.enter (args := [pV b 0]) Try.func40 rfl rfl rfl (fun B wz => ?_)
  refine Cd.fact (i := 1) rfl llR.le ?_; rintro ⟨_, hl1⟩
  refine Cd.fact (i := 2) rfl llR.le ?_; rintro ⟨_, hl2⟩
  refine Cd.fact (i := 3) rfl llR.le ?_; rintro ⟨_, hl3⟩
  refine Cd.seq ?_
  refine Cd.region rfl ?_
  refine Sq.vals [0] (rest := []) [iV 0] (fun w => by kernel_rfl) ?_
  refine Sq.done ?_
  refine Ex'.next ?_
  refine Cd.seq ?_
  refine Cd.sub (subB_spec [0]) ?_
  refine Cd.plan [0, 1, 3, 7, 15, 0, 32, 96, 224, 511, 1023, 2047] [(3, [(0, false, 0)]), (4, [(1, false, 0)]), (8, [(0, false, 0)]), (9, [(2, false, 0)])] [] [] [] [fun g => pV b 0, fun g => pV b 0, fun g => pV b 2, fun g => pV nb 0, fun g => iV (ns.length : Int), fun g => pV b 0, fun g => pV b 0, fun g => pV b 3, fun g => pV ab 0, fun g => iV (cs.length : Int), fun g => iV ((ns.length : Int) + (cs.length : Int)), fun g => iV ((ns.length : Int) + (cs.length : Int))] (by kernel_rfl) (by kernel_rfl) rfl (trivial) ?_ ?_
  · exact ⟨ob_val fun g w => by kernel_rfl, ob_val fun g w => by kernel_rfl, ob_val fun g w => by kernel_rfl, ob_s (l := fun g => [srlB b nb ab gb mb most target]) (l' := fun g => [srlB b nb ab gb mb most target]) (v := fun g => pV nb 0) (fun g => o_load (i := 2) (v := pV nb 0) (by kernel_rfl) (by kernel_rfl) (by kernel_rfl)) (fun g => by kernel_rfl), ob_s (l := fun g => [llR nb ns n]) (l' := fun g => [llR nb ns n]) (v := fun g => iV (ns.length : Int)) (fun g => o_call (by kernel_rfl) Try.call61 (t_Len (ks := ns) (n := n))) (fun g => by kernel_rfl), ob_val fun g w => by kernel_rfl, ob_val fun g w => by kernel_rfl, ob_val fun g w => by kernel_rfl, ob_s (l := fun g => [srlB b nb ab gb mb most target]) (l' := fun g => [srlB b nb ab gb mb most target]) (v := fun g => pV ab 0) (fun g => o_load (i := 3) (v := pV ab 0) (by kernel_rfl) (by kernel_rfl) (by kernel_rfl)) (fun g => by kernel_rfl), ob_s (l := fun g => [llR ab cs n]) (l' := fun g => [llR ab cs n]) (v := fun g => iV (cs.length : Int)) (fun g => o_call (by kernel_rfl) Try.call61 (t_Len (ks := cs) (n := n))) (fun g => by kernel_rfl), ob_v (v := fun g => iV ((ns.length : Int) + (cs.length : Int))) (fun g => o_add (k := .i64) (a := (ns.length : Int)) (b := (cs.length : Int)) (c := (ns.length : Int) + (cs.length : Int)) (by kernel_rfl) (by kernel_rfl) (w64 rfl (by omega))) (fun g => by kernel_rfl), ob_val fun g w => by kernel_rfl, trivial⟩
  intro g
  refine Ex'.sub (subB_spec [2]) ?_
  refine Ex'.as [0, 1, 2, 3, 4] (σ' := [(2, iV ((ns.length : Int) + (cs.length : Int)))]) (Γ' := [srlB b nb ab gb mb most target, llR nb ns n, llR ab cs n, llR gb gs n, mapR Value.string markV mb ms]) (by kernel_rfl) rfl (by kernel_rfl) (by kernel_rfl) ?_
  refine Ex'.next ?_
  refine Cd.ret ?_
  refine Ex'.ret Try.results40 (RVs.tmp (v := iV ((ns.length : Int) + (cs.length : Int))) (by kernel_rfl) (RVs.nil)) (fun w hw => ?_)
  have e : srlLen most target ns cs gs ms = (ns.length : Int) + (cs.length : Int) := by unfold srlLen; rfl
  rw [e]
  exact ⟨_, ⟨rfl, rfl⟩, hw.pickB [0, 1, 2, 3, 4] (by kernel_rfl) (by kernel_rfl) (by kernel_rfl)⟩

set_option maxHeartbeats 4000000 in
set_option maxRecDepth 100000 in
theorem srl_rowN {b : Nat} {nb : Nat} {ab : Nat} {gb : Nat} {mb : Nat} {n : Nat} {most : Int} {target : Int} {ns : List ByteArray} {cs : List ByteArray} {gs : List ByteArray} {ms : List (ByteArray × (Bool × Bool))}  (hb : n ≤ 1000000000) (h0 : (ns.length : Int) > 0) : Tri Try.prog 72 #[pV b 0] (srlL b nb ab gb mb most target ns cs gs ms n) (Same (srlL b nb ab gb mb most target ns cs gs ms n) (pV nb 0)) := by
  refine Tri.enter (args := [pV b 0]) Try.func72 rfl rfl rfl (fun B wz => ?_)
  refine Cd.seq ?_
  refine Cd.region rfl ?_
  refine Sq.vals [0] (rest := []) [.pointer none] (fun w => by kernel_rfl) ?_
  refine Sq.done ?_
  refine Ex'.next ?_
  refine Cd.seq ?_
  refine Cd.seq ?_
  refine Cd.region rfl ?_
  refine Sq.vals [0, 1, 2] (rest := [3, 4, 5]) [pV b 0, pV b 0, pV b 2] (fun w => by kernel_rfl) ?_
  refine Sq.same [0] (l := [srlB b nb ab gb mb most target]) (o_load (i := 2) (v := pV nb 0) (by kernel_rfl) (by kernel_rfl) (by kernel_rfl)) (by kernel_rfl) rfl (by kernel_rfl) rfl ?_
  refine Sq.same [1] (l := [llR nb ns n]) (o_call (by kernel_rfl) Try.call61 (t_Len (ks := ns) (n := n))) (by kernel_rfl) rfl (by kernel_rfl) rfl ?_
  refine Sq.v (r := bV (decide ((ns.length : Int) > 0))) (pureV (by kernel_rfl) rfl fun w => by kernel_rfl) rfl (by kernel_rfl) ?_
  refine Sq.re 8 rfl (vT h0) ?_
  refine Sq.done ?_
  refine Ex'.next ?_
  refine Cd.condT (by kernel_rfl) ?_
  refine Cd.seq ?_
  refine Cd.region rfl ?_
  refine Sq.vals [0, 1, 2] (rest := [3, 4]) [pV b 0, pV b 0, pV b 2] (fun w => by kernel_rfl) ?_
  refine Sq.same [0] (l := [srlB b nb ab gb mb most target]) (o_load (i := 2) (v := pV nb 0) (by kernel_rfl) (by kernel_rfl) (by kernel_rfl)) (by kernel_rfl) rfl (by kernel_rfl) rfl ?_
  refine Sq.vals [4] (rest := []) [pV nb 0] (fun w => by kernel_rfl) ?_
  refine Sq.done ?_
  refine Ex'.next ?_
  refine Cd.ret ?_
  refine Ex'.thenRet ?_
  refine Ex'.ret Try.results72 (RVs.tmp (v := pV nb 0) (by kernel_rfl) (RVs.nil)) (fun w hw => ?_)
  exact ⟨_, ⟨rfl, rfl⟩, hw.pickB [0, 1, 2, 3, 4] (by kernel_rfl) (by kernel_rfl) (by kernel_rfl)⟩

set_option maxHeartbeats 4000000 in
set_option maxRecDepth 100000 in
theorem srl_rowA {b : Nat} {nb : Nat} {ab : Nat} {gb : Nat} {mb : Nat} {n : Nat} {most : Int} {target : Int} {ns : List ByteArray} {cs : List ByteArray} {gs : List ByteArray} {ms : List (ByteArray × (Bool × Bool))}  (hb : n ≤ 1000000000) (h0 : ¬ ((ns.length : Int) > 0)) : Tri Try.prog 72 #[pV b 0] (srlL b nb ab gb mb most target ns cs gs ms n) (Same (srlL b nb ab gb mb most target ns cs gs ms n) (pV ab 0)) := by
  refine Tri.enter (args := [pV b 0]) Try.func72 rfl rfl rfl (fun B wz => ?_)
  refine Cd.seq ?_
  refine Cd.region rfl ?_
  refine Sq.vals [0] (rest := []) [.pointer none] (fun w => by kernel_rfl) ?_
  refine Sq.done ?_
  refine Ex'.next ?_
  refine Cd.seq ?_
  refine Cd.seq ?_
  refine Cd.region rfl ?_
  refine Sq.vals [0, 1, 2] (rest := [3, 4, 5]) [pV b 0, pV b 0, pV b 2] (fun w => by kernel_rfl) ?_
  refine Sq.same [0] (l := [srlB b nb ab gb mb most target]) (o_load (i := 2) (v := pV nb 0) (by kernel_rfl) (by kernel_rfl) (by kernel_rfl)) (by kernel_rfl) rfl (by kernel_rfl) rfl ?_
  refine Sq.same [1] (l := [llR nb ns n]) (o_call (by kernel_rfl) Try.call61 (t_Len (ks := ns) (n := n))) (by kernel_rfl) rfl (by kernel_rfl) rfl ?_
  refine Sq.v (r := bV (decide ((ns.length : Int) > 0))) (pureV (by kernel_rfl) rfl fun w => by kernel_rfl) rfl (by kernel_rfl) ?_
  refine Sq.re 8 rfl (vF h0) ?_
  refine Sq.done ?_
  refine Ex'.next ?_
  refine Cd.condF (by kernel_rfl) ?_
  refine Cd.skip ?_
  refine Ex'.next ?_
  refine Cd.seq ?_
  refine Cd.region rfl ?_
  refine Sq.vals [0, 1, 2] (rest := [3, 4]) [pV b 0, pV b 0, pV b 3] (fun w => by kernel_rfl) ?_
  refine Sq.same [0] (l := [srlB b nb ab gb mb most target]) (o_load (i := 3) (v := pV ab 0) (by kernel_rfl) (by kernel_rfl) (by kernel_rfl)) (by kernel_rfl) rfl (by kernel_rfl) rfl ?_
  refine Sq.vals [4] (rest := []) [pV ab 0] (fun w => by kernel_rfl) ?_
  refine Sq.done ?_
  refine Ex'.next ?_
  refine Cd.ret ?_
  refine Ex'.ret Try.results72 (RVs.tmp (v := pV ab 0) (by kernel_rfl) (RVs.nil)) (fun w hw => ?_)
  exact ⟨_, ⟨rfl, rfl⟩, hw.pickB [0, 1, 2, 3, 4] (by kernel_rfl) (by kernel_rfl) (by kernel_rfl)⟩

def srlVictim (most : Int) (target : Int) (ns : List ByteArray) (cs : List ByteArray) (gs : List ByteArray) (ms : List (ByteArray × (Bool × Bool)))  : ByteArray × Bool :=
  if (ns.length : Int) > 0 then (ns.getLast?.getD ⟨#[]⟩, decide (0 < ns.length)) else (cs.getLast?.getD ⟨#[]⟩, decide (0 < cs.length))

set_option maxHeartbeats 4000000 in
set_option maxRecDepth 100000 in
theorem srl_Victim {b : Nat} {nb : Nat} {ab : Nat} {gb : Nat} {mb : Nat} {n : Nat} {most : Int} {target : Int} {ns : List ByteArray} {cs : List ByteArray} {gs : List ByteArray} {ms : List (ByteArray × (Bool × Bool))}  (hb : n ≤ 1000000000) : Tri Try.prog 55 #[pV b 0] (srlL b nb ab gb mb most target ns cs gs ms n) (Same (srlL b nb ab gb mb most target ns cs gs ms n) (.tuple #[sV ((srlVictim most target ns cs gs ms).1), bV ((srlVictim most target ns cs gs ms).2)])) := by
  refine Tri.enter (args := [pV b 0]) Try.func55 rfl rfl rfl (fun B wz => ?_)
  refine Cd.seq ?_
  refine Cd.region rfl ?_
  refine Sq.vals [0, 1] (rest := []) [sV ⟨#[]⟩, bV false] (fun w => by kernel_rfl) ?_
  refine Sq.done ?_
  refine Ex'.next ?_
  refine Cd.seq ?_
  refine Cd.region rfl ?_
  refine Sq.vals [0] (rest := [1, 2, 3, 4, 5, 6]) [pV b 0] (fun w => by kernel_rfl) ?_
  by_cases h1 : (ns.length : Int) > 0
  ·
    refine Sq.same [0, 1, 2, 3, 4] (l := srlL b nb ab gb mb most target ns cs gs ms n) (o_call (by kernel_rfl) Try.call72 (srl_rowN (n := n) (most := most) (target := target) (ns := ns) (cs := cs) (gs := gs) (ms := ms) (by omega) h1)) (by kernel_rfl) rfl (by kernel_rfl) rfl ?_
    refine Sq.same [1] (l := [llR nb ns n]) (o_call (by kernel_rfl) Try.call69 (t_Last (ks := ns) (n := n))) (by kernel_rfl) rfl (by kernel_rfl) rfl ?_
    refine Sq.vals [3, 4, 5, 6] (rest := []) [sV (ns.getLast?.getD ⟨#[]⟩), bV (decide (0 < ns.length)), sV (ns.getLast?.getD ⟨#[]⟩), bV (decide (0 < ns.length))] (fun w => by kernel_rfl) ?_
    refine Sq.done ?_
    refine Ex'.next ?_
    refine Cd.ret ?_
    refine Ex'.ret Try.results55 (RVs.tmp (v := sV (ns.getLast?.getD ⟨#[]⟩)) (by kernel_rfl) (RVs.tmp (v := bV (decide (0 < ns.length))) (by kernel_rfl) (RVs.nil))) (fun w hw => ?_)
    have e : srlVictim most target ns cs gs ms = (ns.getLast?.getD ⟨#[]⟩, decide (0 < ns.length)) := by unfold srlVictim; rw [if_pos h1]
    rw [e]
    exact ⟨_, ⟨rfl, rfl⟩, hw.pickB [0, 1, 2, 3, 4] (by kernel_rfl) (by kernel_rfl) (by kernel_rfl)⟩
  ·
    refine Sq.same [0, 1, 2, 3, 4] (l := srlL b nb ab gb mb most target ns cs gs ms n) (o_call (by kernel_rfl) Try.call72 (srl_rowA (n := n) (most := most) (target := target) (ns := ns) (cs := cs) (gs := gs) (ms := ms) (by omega) h1)) (by kernel_rfl) rfl (by kernel_rfl) rfl ?_
    refine Sq.same [2] (l := [llR ab cs n]) (o_call (by kernel_rfl) Try.call69 (t_Last (ks := cs) (n := n))) (by kernel_rfl) rfl (by kernel_rfl) rfl ?_
    refine Sq.vals [3, 4, 5, 6] (rest := []) [sV (cs.getLast?.getD ⟨#[]⟩), bV (decide (0 < cs.length)), sV (cs.getLast?.getD ⟨#[]⟩), bV (decide (0 < cs.length))] (fun w => by kernel_rfl) ?_
    refine Sq.done ?_
    refine Ex'.next ?_
    refine Cd.ret ?_
    refine Ex'.ret Try.results55 (RVs.tmp (v := sV (cs.getLast?.getD ⟨#[]⟩)) (by kernel_rfl) (RVs.tmp (v := bV (decide (0 < cs.length))) (by kernel_rfl) (RVs.nil))) (fun w hw => ?_)
    have e : srlVictim most target ns cs gs ms = (cs.getLast?.getD ⟨#[]⟩, decide (0 < cs.length)) := by unfold srlVictim; rw [if_neg h1]
    rw [e]
    exact ⟨_, ⟨rfl, rfl⟩, hw.pickB [0, 1, 2, 3, 4] (by kernel_rfl) (by kernel_rfl) (by kernel_rfl)⟩

def srlDrop (most : Int) (target : Int) (ns : List ByteArray) (cs : List ByteArray) (gs : List ByteArray) (ms : List (ByteArray × (Bool × Bool)))  : List ByteArray × List ByteArray × List (ByteArray × (Bool × Bool)) × ByteArray × Bool :=
  if (ns.length : Int) > 0 then if 0 < ns.length then (ns.dropLast, cs, del ms (ns.getLast?.getD ⟨#[]⟩), ns.getLast?.getD ⟨#[]⟩, decide (0 < ns.length)) else (ns.dropLast, cs, ms, ns.getLast?.getD ⟨#[]⟩, decide (0 < ns.length)) else if 0 < cs.length then (ns, cs.dropLast, del ms (cs.getLast?.getD ⟨#[]⟩), cs.getLast?.getD ⟨#[]⟩, decide (0 < cs.length)) else (ns, cs.dropLast, ms, cs.getLast?.getD ⟨#[]⟩, decide (0 < cs.length))

set_option maxHeartbeats 4000000 in
set_option maxRecDepth 100000 in
theorem srl_Drop {b : Nat} {nb : Nat} {ab : Nat} {gb : Nat} {mb : Nat} {n : Nat} {most : Int} {target : Int} {ns : List ByteArray} {cs : List ByteArray} {gs : List ByteArray} {ms : List (ByteArray × (Bool × Bool))}  (hb : n ≤ 1000000000) : Tri Try.prog 46 #[pV b 0] (srlL b nb ab gb mb most target ns cs gs ms n) (Same (srlL b nb ab gb mb most target ((srlDrop most target ns cs gs ms).1) ((srlDrop most target ns cs gs ms).2.1) gs ((srlDrop most target ns cs gs ms).2.2.1) n) (.tuple #[sV ((srlDrop most target ns cs gs ms).2.2.2.1), bV ((srlDrop most target ns cs gs ms).2.2.2.2)])) := by
  refine Tri.enter (args := [pV b 0]) Try.func46 rfl rfl rfl (fun B wz => ?_)
  refine Cd.seq ?_
  refine Cd.region rfl ?_
  refine Sq.vals [0, 1] (rest := []) [sV ⟨#[]⟩, bV false] (fun w => by kernel_rfl) ?_
  refine Sq.done ?_
  refine Ex'.next ?_
  refine Cd.seq ?_
  refine Cd.region rfl ?_
  refine Sq.vals [0] (rest := [1, 2, 3, 4, 5, 6, 7]) [pV b 0] (fun w => by kernel_rfl) ?_
  by_cases h1 : (ns.length : Int) > 0
  ·
    refine Sq.same [0, 1, 2, 3, 4] (l := srlL b nb ab gb mb most target ns cs gs ms n) (o_call (by kernel_rfl) Try.call72 (srl_rowN (n := n) (most := most) (target := target) (ns := ns) (cs := cs) (gs := gs) (ms := ms) (by omega) h1)) (by kernel_rfl) rfl (by kernel_rfl) rfl ?_
    refine Sq.same [1] (l := [llR nb ns n]) (o_call (by kernel_rfl) Try.call62 (t_Pop (ks := ns) (n := n) (by omega))) (by kernel_rfl) rfl (by kernel_rfl) rfl ?_
    refine Sq.vals [3, 4, 5, 6, 7] (rest := []) [.tuple #[sV (ns.getLast?.getD ⟨#[]⟩), bV (decide (0 < ns.length))], sV (ns.getLast?.getD ⟨#[]⟩), bV (decide (0 < ns.length)), sV (ns.getLast?.getD ⟨#[]⟩), bV (decide (0 < ns.length))] (fun w => by kernel_rfl) ?_
    refine Sq.done ?_
    refine Ex'.next ?_
    refine Cd.seq ?_
    refine Cd.seq ?_
    refine Cd.region rfl ?_
    refine Sq.vals [0] (rest := []) [bV (decide (0 < ns.length))] (fun w => by kernel_rfl) ?_
    refine Sq.done ?_
    refine Ex'.next ?_
    refine Cd.case (p := 0 < ns.length) (by kernel_rfl) (fun h2 => ?_) (fun h2 => ?_)
    ·
      refine Cd.region rfl ?_
      refine Sq.vals [0, 1, 2] (rest := [3, 4, 5]) [pV b 0, pV b 0, pV b 5] (fun w => by kernel_rfl) ?_
      refine Sq.same [0] (l := [srlB b nb ab gb mb most target]) (o_load (i := 5) (v := .map (some mb)) (by kernel_rfl) (by kernel_rfl) (by kernel_rfl)) (by kernel_rfl) rfl (by kernel_rfl) rfl ?_
      refine Sq.vals [4] (rest := [5]) [sV (ns.getLast?.getD ⟨#[]⟩)] (fun w => by kernel_rfl) ?_
      refine Sq.same [4] (l := [mapR Value.string markV mb ms]) (o_delete (ns.getLast?.getD ⟨#[]⟩) (by kernel_rfl) (by kernel_rfl) key_str Try.underlying81) (by kernel_rfl) rfl (by kernel_rfl) rfl ?_
      refine Sq.done ?_
      refine Ex'.next ?_
      refine Cd.seq ?_
      refine Cd.region rfl ?_
      refine Sq.vals [0, 1, 2, 3] (rest := []) [sV (ns.getLast?.getD ⟨#[]⟩), bV (decide (0 < ns.length)), sV (ns.getLast?.getD ⟨#[]⟩), bV (decide (0 < ns.length))] (fun w => by kernel_rfl) ?_
      refine Sq.done ?_
      refine Ex'.next ?_
      refine Cd.ret ?_
      refine Ex'.ret Try.results46 (RVs.tmp (v := sV (ns.getLast?.getD ⟨#[]⟩)) (by kernel_rfl) (RVs.tmp (v := bV (decide (0 < ns.length))) (by kernel_rfl) (RVs.nil))) (fun w hw => ?_)
      have e : srlDrop most target ns cs gs ms = (ns.dropLast, cs, del ms (ns.getLast?.getD ⟨#[]⟩), ns.getLast?.getD ⟨#[]⟩, decide (0 < ns.length)) := by unfold srlDrop; rw [if_pos h1, if_pos h2]
      rw [e]
      exact ⟨_, ⟨rfl, rfl⟩, hw.pickB [0, 1, 2, 3, 4] (by kernel_rfl) (by kernel_rfl) (by kernel_rfl)⟩
    ·
      refine Cd.skip ?_
      refine Ex'.next ?_
      refine Cd.seq ?_
      refine Cd.region rfl ?_
      refine Sq.vals [0, 1, 2, 3] (rest := []) [sV (ns.getLast?.getD ⟨#[]⟩), bV (decide (0 < ns.length)), sV (ns.getLast?.getD ⟨#[]⟩), bV (decide (0 < ns.length))] (fun w => by kernel_rfl) ?_
      refine Sq.done ?_
      refine Ex'.next ?_
      refine Cd.ret ?_
      refine Ex'.ret Try.results46 (RVs.tmp (v := sV (ns.getLast?.getD ⟨#[]⟩)) (by kernel_rfl) (RVs.tmp (v := bV (decide (0 < ns.length))) (by kernel_rfl) (RVs.nil))) (fun w hw => ?_)
      have e : srlDrop most target ns cs gs ms = (ns.dropLast, cs, ms, ns.getLast?.getD ⟨#[]⟩, decide (0 < ns.length)) := by unfold srlDrop; rw [if_pos h1, if_neg h2]
      rw [e]
      exact ⟨_, ⟨rfl, rfl⟩, hw.pickB [0, 1, 2, 3, 4] (by kernel_rfl) (by kernel_rfl) (by kernel_rfl)⟩
  ·
    refine Sq.same [0, 1, 2, 3, 4] (l := srlL b nb ab gb mb most target ns cs gs ms n) (o_call (by kernel_rfl) Try.call72 (srl_rowA (n := n) (most := most) (target := target) (ns := ns) (cs := cs) (gs := gs) (ms := ms) (by omega) h1)) (by kernel_rfl) rfl (by kernel_rfl) rfl ?_
    refine Sq.same [2] (l := [llR ab cs n]) (o_call (by kernel_rfl) Try.call62 (t_Pop (ks := cs) (n := n) (by omega))) (by kernel_rfl) rfl (by kernel_rfl) rfl ?_
    refine Sq.vals [3, 4, 5, 6, 7] (rest := []) [.tuple #[sV (cs.getLast?.getD ⟨#[]⟩), bV (decide (0 < cs.length))], sV (cs.getLast?.getD ⟨#[]⟩), bV (decide (0 < cs.length)), sV (cs.getLast?.getD ⟨#[]⟩), bV (decide (0 < cs.length))] (fun w => by kernel_rfl) ?_
    refine Sq.done ?_
    refine Ex'.next ?_
    refine Cd.seq ?_
    refine Cd.seq ?_
    refine Cd.region rfl ?_
    refine Sq.vals [0] (rest := []) [bV (decide (0 < cs.length))] (fun w => by kernel_rfl) ?_
    refine Sq.done ?_
    refine Ex'.next ?_
    refine Cd.case (p := 0 < cs.length) (by kernel_rfl) (fun h3 => ?_) (fun h3 => ?_)
    ·
      refine Cd.region rfl ?_
      refine Sq.vals [0, 1, 2] (rest := [3, 4, 5]) [pV b 0, pV b 0, pV b 5] (fun w => by kernel_rfl) ?_
      refine Sq.same [0] (l := [srlB b nb ab gb mb most target]) (o_load (i := 5) (v := .map (some mb)) (by kernel_rfl) (by kernel_rfl) (by kernel_rfl)) (by kernel_rfl) rfl (by kernel_rfl) rfl ?_
      refine Sq.vals [4] (rest := [5]) [sV (cs.getLast?.getD ⟨#[]⟩)] (fun w => by kernel_rfl) ?_
      refine Sq.same [4] (l := [mapR Value.string markV mb ms]) (o_delete (cs.getLast?.getD ⟨#[]⟩) (by kernel_rfl) (by kernel_rfl) key_str Try.underlying81) (by kernel_rfl) rfl (by kernel_rfl) rfl ?_
      refine Sq.done ?_
      refine Ex'.next ?_
      refine Cd.seq ?_
      refine Cd.region rfl ?_
      refine Sq.vals [0, 1, 2, 3] (rest := []) [sV (cs.getLast?.getD ⟨#[]⟩), bV (decide (0 < cs.length)), sV (cs.getLast?.getD ⟨#[]⟩), bV (decide (0 < cs.length))] (fun w => by kernel_rfl) ?_
      refine Sq.done ?_
      refine Ex'.next ?_
      refine Cd.ret ?_
      refine Ex'.ret Try.results46 (RVs.tmp (v := sV (cs.getLast?.getD ⟨#[]⟩)) (by kernel_rfl) (RVs.tmp (v := bV (decide (0 < cs.length))) (by kernel_rfl) (RVs.nil))) (fun w hw => ?_)
      have e : srlDrop most target ns cs gs ms = (ns, cs.dropLast, del ms (cs.getLast?.getD ⟨#[]⟩), cs.getLast?.getD ⟨#[]⟩, decide (0 < cs.length)) := by unfold srlDrop; rw [if_neg h1, if_pos h3]
      rw [e]
      exact ⟨_, ⟨rfl, rfl⟩, hw.pickB [0, 1, 2, 3, 4] (by kernel_rfl) (by kernel_rfl) (by kernel_rfl)⟩
    ·
      refine Cd.skip ?_
      refine Ex'.next ?_
      refine Cd.seq ?_
      refine Cd.region rfl ?_
      refine Sq.vals [0, 1, 2, 3] (rest := []) [sV (cs.getLast?.getD ⟨#[]⟩), bV (decide (0 < cs.length)), sV (cs.getLast?.getD ⟨#[]⟩), bV (decide (0 < cs.length))] (fun w => by kernel_rfl) ?_
      refine Sq.done ?_
      refine Ex'.next ?_
      refine Cd.ret ?_
      refine Ex'.ret Try.results46 (RVs.tmp (v := sV (cs.getLast?.getD ⟨#[]⟩)) (by kernel_rfl) (RVs.tmp (v := bV (decide (0 < cs.length))) (by kernel_rfl) (RVs.nil))) (fun w hw => ?_)
      have e : srlDrop most target ns cs gs ms = (ns, cs.dropLast, ms, cs.getLast?.getD ⟨#[]⟩, decide (0 < cs.length)) := by unfold srlDrop; rw [if_neg h1, if_neg h3]
      rw [e]
      exact ⟨_, ⟨rfl, rfl⟩, hw.pickB [0, 1, 2, 3, 4] (by kernel_rfl) (by kernel_rfl) (by kernel_rfl)⟩

def srlTrimL (most : Int) : Nat → List ByteArray → List (ByteArray × (Bool × Bool)) → List ByteArray × List (ByteArray × (Bool × Bool))
  | 0, gs, ms => (gs, ms)
  | k + 1, gs, ms => if (gs.length : Int) > most then srlTrimL most k gs.dropLast (del ms (gs.getLast?.getD ⟨#[]⟩)) else (gs, ms)
theorem srlTrimL_stop {most : Int} {gs : List ByteArray} {ms : List (ByteArray × (Bool × Bool))} (h : ¬ (gs.length : Int) > most) (k : Nat) : srlTrimL most k gs ms = (gs, ms) := by
  cases k with
  | zero => rfl
  | succ k => rw [srlTrimL, if_neg h]
theorem srlTrimL_go {most : Int} {gs : List ByteArray} {ms : List (ByteArray × (Bool × Bool))} (h : (gs.length : Int) > most) (h0 : 0 ≤ most) : srlTrimL most gs.length gs ms = srlTrimL most gs.dropLast.length gs.dropLast (del ms (gs.getLast?.getD ⟨#[]⟩)) := by
  obtain ⟨k, e⟩ : ∃ k, gs.length = k + 1 := ⟨gs.length - 1, by omega⟩
  rw [List.length_dropLast, e, srlTrimL, if_pos h]; rfl
def srlTrim (most : Int) (target : Int) (ns cs gs : List ByteArray) (ms : List (ByteArray × (Bool × Bool))) := srlTrimL most gs.length gs ms

set_option maxHeartbeats 4000000 in
set_option maxRecDepth 100000 in
theorem srl_trim {b : Nat} {nb : Nat} {ab : Nat} {gb : Nat} {mb : Nat} {n : Nat} {most : Int} {target : Int} {ns : List ByteArray} {cs : List ByteArray} {gs : List ByteArray} {ms : List (ByteArray × (Bool × Bool))}  (hb : n ≤ 1000000000) (h0 : 0 ≤ most) : Tri Try.prog 80 #[pV b 0] (srlL b nb ab gb mb most target ns cs gs ms n) (Same (srlL b nb ab gb mb most target ns cs ((srlTrim most target ns cs gs ms).1) ((srlTrim most target ns cs gs ms).2) n) (.tuple #[])) := by
  refine Tri.enter (args := [pV b 0]) Try.func80 rfl rfl rfl (fun B wz => ?_)
  refine Cd.block ?_
  refine Cd.loop (ι := (List ByteArray) × (List (ByteArray × (Bool × Bool)))) (fun ⟨gs2, ms2⟩ => srlTrimL most gs2.length gs2 ms2 = srlTrimL most gs.length gs ms) (fun ⟨gs2, ms2⟩ => gs2.length) (fun ⟨gs2, ms2⟩ => [(0, pV b 0)]) (fun ⟨gs2, ms2⟩ => [srlB b nb ab gb mb most target, llR nb ns n, llR ab cs n, llR gb gs2 n, mapR Value.string markV mb ms2]) (gs, ms) (rfl) (subB_eq (l := [0]) (by kernel_rfl)) (fun w hw => hw.pickB [0, 1, 2, 3, 4] (by kernel_rfl) (by kernel_rfl) (by kernel_rfl)) ?_
  rintro ⟨gs2, ms2⟩ hL1
  try dsimp only at hL1 ⊢
  have hi := hL1
  refine Cd.seq ?_
  refine Cd.seq ?_
  refine Cd.plan [0, 1, 3, 7, 15, 0, 32, 96, 224, 511] [(3, [(0, false, 0)]), (4, [(3, false, 0)]), (8, [(0, false, 0)])] [] [] [] [fun g => pV b 0, fun g => pV b 0, fun g => pV b 4, fun g => pV gb 0, fun g => iV (gs2.length : Int), fun g => pV b 0, fun g => pV b 0, fun g => pV b 0, fun g => iV most, fun g => bV (decide ((gs2.length : Int) > most))] (by kernel_rfl) (by kernel_rfl) rfl (trivial) ?_ ?_
  · exact ⟨ob_val fun g w => by kernel_rfl, ob_val fun g w => by kernel_rfl, ob_val fun g w => by kernel_rfl, ob_s (l := fun g => [srlB b nb ab gb mb most target]) (l' := fun g => [srlB b nb ab gb mb most target]) (v := fun g => pV gb 0) (fun g => o_load (i := 4) (v := pV gb 0) (by kernel_rfl) (by kernel_rfl) (by kernel_rfl)) (fun g => by kernel_rfl), ob_s (l := fun g => [llR gb gs2 n]) (l' := fun g => [llR gb gs2 n]) (v := fun g => iV (gs2.length : Int)) (fun g => o_call (by kernel_rfl) Try.call61 (t_Len (ks := gs2) (n := n))) (fun g => by kernel_rfl), ob_val fun g w => by kernel_rfl, ob_val fun g w => by kernel_rfl, ob_val fun g w => by kernel_rfl, ob_s (l := fun g => [srlB b nb ab gb mb most target]) (l' := fun g => [srlB b nb ab gb mb most target]) (v := fun g => iV most) (fun g => o_load (i := 0) (v := iV most) (by kernel_rfl) (by kernel_rfl) (by kernel_rfl)) (fun g => by kernel_rfl), ob_val fun g w => by kernel_rfl, trivial⟩
  intro g
  refine Ex'.sub (subB_spec [0, 13]) ?_
  refine Ex'.as [0, 1, 2, 3, 4] (σ' := [(0, pV b 0), (13, bV (decide ((gs2.length : Int) > most)))]) (Γ' := [srlB b nb ab gb mb most target, llR nb ns n, llR ab cs n, llR gb gs2 n, mapR Value.string markV mb ms2]) (by kernel_rfl) rfl (by kernel_rfl) (by kernel_rfl) ?_
  refine Ex'.next ?_
  refine Cd.case (p := (gs2.length : Int) > most) (by kernel_rfl) (fun h2 => ?_) (fun h2 => ?_)
  ·
    refine Cd.skip ?_
    refine Ex'.next ?_
    refine Cd.block ?_
    refine Cd.seq ?_
    refine Cd.region rfl ?_
    refine Sq.vals [0, 1, 2] (rest := [3, 4, 5, 6, 7, 8, 9]) [pV b 0, pV b 0, pV b 4] (fun w => by kernel_rfl) ?_
    refine Sq.same [0] (l := [srlB b nb ab gb mb most target]) (o_load (i := 4) (v := pV gb 0) (by kernel_rfl) (by kernel_rfl) (by kernel_rfl)) (by kernel_rfl) rfl (by kernel_rfl) rfl ?_
    refine Sq.same [3] (l := [llR gb gs2 n]) (o_call (by kernel_rfl) Try.call62 (t_Pop (ks := gs2) (n := n) (by omega))) (by kernel_rfl) rfl (by kernel_rfl) rfl ?_
    refine Sq.vals [5, 6, 7, 8, 9] (rest := []) [.tuple #[sV (gs2.getLast?.getD ⟨#[]⟩), bV (decide (0 < gs2.length))], sV (gs2.getLast?.getD ⟨#[]⟩), bV (decide (0 < gs2.length)), sV (gs2.getLast?.getD ⟨#[]⟩), bV (decide (0 < gs2.length))] (fun w => by kernel_rfl) ?_
    refine Sq.done ?_
    refine Ex'.next ?_
    refine Cd.region rfl ?_
    refine Sq.vals [0, 1, 2] (rest := [3, 4, 5]) [pV b 0, pV b 0, pV b 5] (fun w => by kernel_rfl) ?_
    refine Sq.same [0] (l := [srlB b nb ab gb mb most target]) (o_load (i := 5) (v := .map (some mb)) (by kernel_rfl) (by kernel_rfl) (by kernel_rfl)) (by kernel_rfl) rfl (by kernel_rfl) rfl ?_
    refine Sq.vals [4] (rest := [5]) [sV (gs2.getLast?.getD ⟨#[]⟩)] (fun w => by kernel_rfl) ?_
    refine Sq.same [4] (l := [mapR Value.string markV mb ms2]) (o_delete (gs2.getLast?.getD ⟨#[]⟩) (by kernel_rfl) (by kernel_rfl) key_str Try.underlying81) (by kernel_rfl) rfl (by kernel_rfl) rfl ?_
    refine Sq.done ?_
    refine Ex'.blockNormal ?_
    refine Ex'.round (g := (gs2, ms2)) (gs2.dropLast, del ms2 (gs2.getLast?.getD ⟨#[]⟩)) ?_ ?_ (subB_eq (l := [0]) (by kernel_rfl)) (fun w hw => hw.pickB [0, 1, 2, 3, 4] (by kernel_rfl) (by kernel_rfl) (by kernel_rfl))
    · (try dsimp only); exact (srlTrimL_go h2 h0).symm.trans hi
    · have := h2; show gs2.dropLast.length < gs2.length; rw [List.length_dropLast]; omega
  ·
    refine Cd.exit ?_
    refine Ex'.thenExit ?_
    refine Ex'.thenExit ?_
    refine Ex'.blockHit ?_
    refine Ex'.fin Try.results80 (RVs.nil) (fun w hw => ?_)
    have e : srlTrim most target ns cs gs ms = (gs2, ms2) := by unfold srlTrim; rw [← hi]; exact srlTrimL_stop h2 _
    rw [e]
    exact ⟨_, ⟨rfl, rfl⟩, hw.pickB [0, 1, 2, 3, 4] (by kernel_rfl) (by kernel_rfl) (by kernel_rfl)⟩

def srlEvict (most : Int) (target : Int) (ns : List ByteArray) (cs : List ByteArray) (gs : List ByteArray) (ms : List (ByteArray × (Bool × Bool)))  : List ByteArray × List ByteArray × List ByteArray × List (ByteArray × (Bool × Bool)) × ByteArray × Bool :=
  if (ns.length : Int) > 0 then if 0 < ns.length then (ns.dropLast, cs, (srlTrim most target ns.dropLast cs (fr gs (ns.getLast?.getD ⟨#[]⟩)) ms).1, (srlTrim most target ns.dropLast cs (fr gs (ns.getLast?.getD ⟨#[]⟩)) ms).2, ns.getLast?.getD ⟨#[]⟩, decide (0 < ns.length)) else (ns.dropLast, cs, gs, ms, ns.getLast?.getD ⟨#[]⟩, decide (0 < ns.length)) else if 0 < cs.length then (ns, cs.dropLast, (srlTrim most target ns cs.dropLast (fr gs (cs.getLast?.getD ⟨#[]⟩)) ms).1, (srlTrim most target ns cs.dropLast (fr gs (cs.getLast?.getD ⟨#[]⟩)) ms).2, cs.getLast?.getD ⟨#[]⟩, decide (0 < cs.length)) else (ns, cs.dropLast, gs, ms, cs.getLast?.getD ⟨#[]⟩, decide (0 < cs.length))

set_option maxHeartbeats 4000000 in
set_option maxRecDepth 100000 in
theorem srl_evict {b : Nat} {nb : Nat} {ab : Nat} {gb : Nat} {mb : Nat} {n : Nat} {most : Int} {target : Int} {ns : List ByteArray} {cs : List ByteArray} {gs : List ByteArray} {ms : List (ByteArray × (Bool × Bool))}  {n' : Nat} (hb : n + 1 ≤ 1000000000) (hn : n + 1 ≤ n') (h0 : 0 ≤ most) : Tri Try.prog 71 #[pV b 0] (srlL b nb ab gb mb most target ns cs gs ms n) (Same (srlL b nb ab gb mb most target ((srlEvict most target ns cs gs ms).1) ((srlEvict most target ns cs gs ms).2.1) ((srlEvict most target ns cs gs ms).2.2.1) ((srlEvict most target ns cs gs ms).2.2.2.1) n') (.tuple #[sV ((srlEvict most target ns cs gs ms).2.2.2.2.1), bV ((srlEvict most target ns cs gs ms).2.2.2.2.2)])) := by
  refine Tri.enter (args := [pV b 0]) Try.func71 rfl rfl rfl (fun B wz => ?_)
  refine Cd.seq ?_
  refine Cd.region rfl ?_
  refine Sq.vals [0, 1] (rest := []) [sV ⟨#[]⟩, bV false] (fun w => by kernel_rfl) ?_
  refine Sq.done ?_
  refine Ex'.next ?_
  refine Cd.seq ?_
  refine Cd.region rfl ?_
  refine Sq.vals [0] (rest := [1, 2, 3, 4, 5, 6, 7]) [pV b 0] (fun w => by kernel_rfl) ?_
  by_cases h1 : (ns.length : Int) > 0
  ·
    refine Sq.same [0, 1, 2, 3, 4] (l := srlL b nb ab gb mb most target ns cs gs ms n) (o_call (by kernel_rfl) Try.call72 (srl_rowN (n := n) (most := most) (target := target) (ns := ns) (cs := cs) (gs := gs) (ms := ms) (by omega) h1)) (by kernel_rfl) rfl (by kernel_rfl) rfl ?_
    refine Sq.same [1] (l := [llR nb ns n]) (o_call (by kernel_rfl) Try.call62 (t_Pop (ks := ns) (n := n) (by omega))) (by kernel_rfl) rfl (by kernel_rfl) rfl ?_
    refine Sq.vals [3, 4, 5, 6, 7] (rest := []) [.tuple #[sV (ns.getLast?.getD ⟨#[]⟩), bV (decide (0 < ns.length))], sV (ns.getLast?.getD ⟨#[]⟩), bV (decide (0 < ns.length)), sV (ns.getLast?.getD ⟨#[]⟩), bV (decide (0 < ns.length))] (fun w => by kernel_rfl) ?_
    refine Sq.done ?_
    refine Ex'.next ?_
    refine Cd.seq ?_
    refine Cd.seq ?_
    refine Cd.region rfl ?_
    refine Sq.vals [0] (rest := []) [bV (decide (0 < ns.length))] (fun w => by kernel_rfl) ?_
    refine Sq.done ?_
    refine Ex'.next ?_
    refine Cd.case (p := 0 < ns.length) (by kernel_rfl) (fun h2 => ?_) (fun h2 => ?_)
    ·
      refine Cd.seq ?_
      refine Cd.region rfl ?_
      refine Sq.vals [0, 1, 2] (rest := [3, 4, 5]) [pV b 0, pV b 0, pV b 4] (fun w => by kernel_rfl) ?_
      refine Sq.same [0] (l := [srlB b nb ab gb mb most target]) (o_load (i := 4) (v := pV gb 0) (by kernel_rfl) (by kernel_rfl) (by kernel_rfl)) (by kernel_rfl) rfl (by kernel_rfl) rfl ?_
      refine Sq.vals [4] (rest := [5]) [sV (ns.getLast?.getD ⟨#[]⟩)] (fun w => by kernel_rfl) ?_
      refine Sq.same [3] (l := [llR gb gs n]) (o_call (by kernel_rfl) Try.call63 (t_Front (ks := gs) (n := n) (ns.getLast?.getD ⟨#[]⟩) (by omega))) (by kernel_rfl) rfl (by kernel_rfl) rfl ?_
      refine Sq.done ?_
      refine Ex'.next ?_
      refine Cd.region rfl ?_
      refine Sq.vals [0] (rest := [1]) [pV b 0] (fun w => by kernel_rfl) ?_
      refine Sq.res 1 (R := llR nb ns.dropLast n) (R' := llR nb ns.dropLast (n + 1)) (by kernel_rfl) (llR.up (by omega)) ?_
      refine Sq.res 2 (R := llR ab cs n) (R' := llR ab cs (n + 1)) (by kernel_rfl) (llR.up (by omega)) ?_
      refine Sq.same [0, 1, 2, 3, 4] (l := srlL b nb ab gb mb most target ns.dropLast cs (fr gs (ns.getLast?.getD ⟨#[]⟩)) ms (n + 1)) (o_call (by kernel_rfl) Try.call80 (srl_trim (n := n + 1) (most := most) (target := target) (ns := ns.dropLast) (cs := cs) (gs := fr gs (ns.getLast?.getD ⟨#[]⟩)) (ms := ms) (by omega) (by omega))) (by kernel_rfl) rfl (by kernel_rfl) rfl ?_
      refine Sq.done ?_
      refine Ex'.next ?_
      refine Cd.seq ?_
      refine Cd.region rfl ?_
      refine Sq.vals [0, 1, 2, 3] (rest := []) [sV (ns.getLast?.getD ⟨#[]⟩), bV (decide (0 < ns.length)), sV (ns.getLast?.getD ⟨#[]⟩), bV (decide (0 < ns.length))] (fun w => by kernel_rfl) ?_
      refine Sq.done ?_
      refine Ex'.next ?_
      refine Cd.ret ?_
      refine Ex'.ret Try.results71 (RVs.tmp (v := sV (ns.getLast?.getD ⟨#[]⟩)) (by kernel_rfl) (RVs.tmp (v := bV (decide (0 < ns.length))) (by kernel_rfl) (RVs.nil))) (fun w hw => ?_)
      have e : srlEvict most target ns cs gs ms = (ns.dropLast, cs, (srlTrim most target ns.dropLast cs (fr gs (ns.getLast?.getD ⟨#[]⟩)) ms).1, (srlTrim most target ns.dropLast cs (fr gs (ns.getLast?.getD ⟨#[]⟩)) ms).2, ns.getLast?.getD ⟨#[]⟩, decide (0 < ns.length)) := by unfold srlEvict; rw [if_pos h1, if_pos h2]
      rw [e]
      exact ⟨_, ⟨rfl, rfl⟩, (((hw.conv 1 (R := llR nb ns.dropLast (n + 1)) (R' := llR nb ns.dropLast n') (by kernel_rfl) (llR.up (by omega))).conv 2 (R := llR ab cs (n + 1)) (R' := llR ab cs n') (by kernel_rfl) (llR.up (by omega))).conv 3 (R := llR gb ((srlTrim most target ns.dropLast cs (fr gs (ns.getLast?.getD ⟨#[]⟩)) ms).1) (n + 1)) (R' := llR gb ((srlTrim most target ns.dropLast cs (fr gs (ns.getLast?.getD ⟨#[]⟩)) ms).1) n') (by kernel_rfl) (llR.up (by omega))).pickB [0, 1, 2, 3, 4] (by kernel_rfl) (by kernel_rfl) (by kernel_rfl)⟩
    ·
      refine Cd.skip ?_
      refine Ex'.next ?_
      refine Cd.seq ?_
      refine Cd.region rfl ?_
      refine Sq.vals [0, 1, 2, 3] (rest := []) [sV (ns.getLast?.getD ⟨#[]⟩), bV (decide (0 < ns.length)), sV (ns.getLast?.getD ⟨#[]⟩), bV (decide (0 < ns.length))] (fun w => by kernel_rfl) ?_
      refine Sq.done ?_
      refine Ex'.next ?_
      refine Cd.ret ?_
      refine Ex'.ret Try.results71 (RVs.tmp (v := sV (ns.getLast?.getD ⟨#[]⟩)) (by kernel_rfl) (RVs.tmp (v := bV (decide (0 < ns.length))) (by kernel_rfl) (RVs.nil))) (fun w hw => ?_)
      have e : srlEvict most target ns cs gs ms = (ns.dropLast, cs, gs, ms, ns.getLast?.getD ⟨#[]⟩, decide (0 < ns.length)) := by unfold srlEvict; rw [if_pos h1, if_neg h2]
      rw [e]
      exact ⟨_, ⟨rfl, rfl⟩, (((hw.conv 1 (R := llR nb ns.dropLast n) (R' := llR nb ns.dropLast n') (by kernel_rfl) (llR.up (by omega))).conv 2 (R := llR ab cs n) (R' := llR ab cs n') (by kernel_rfl) (llR.up (by omega))).conv 3 (R := llR gb gs n) (R' := llR gb gs n') (by kernel_rfl) (llR.up (by omega))).pickB [0, 1, 2, 3, 4] (by kernel_rfl) (by kernel_rfl) (by kernel_rfl)⟩
  ·
    refine Sq.same [0, 1, 2, 3, 4] (l := srlL b nb ab gb mb most target ns cs gs ms n) (o_call (by kernel_rfl) Try.call72 (srl_rowA (n := n) (most := most) (target := target) (ns := ns) (cs := cs) (gs := gs) (ms := ms) (by omega) h1)) (by kernel_rfl) rfl (by kernel_rfl) rfl ?_
    refine Sq.same [2] (l := [llR ab cs n]) (o_call (by kernel_rfl) Try.call62 (t_Pop (ks := cs) (n := n) (by omega))) (by kernel_rfl) rfl (by kernel_rfl) rfl ?_
    refine Sq.vals [3, 4, 5, 6, 7] (rest := []) [.tuple #[sV (cs.getLast?.getD ⟨#[]⟩), bV (decide (0 < cs.length))], sV (cs.getLast?.getD ⟨#[]⟩), bV (decide (0 < cs.length)), sV (cs.getLast?.getD ⟨#[]⟩), bV (decide (0 < cs.length))] (fun w => by kernel_rfl) ?_
    refine Sq.done ?_
    refine Ex'.next ?_
    refine Cd.seq ?_
    refine Cd.seq ?_
    refine Cd.region rfl ?_
    refine Sq.vals [0] (rest := []) [bV (decide (0 < cs.length))] (fun w => by kernel_rfl) ?_
    refine Sq.done ?_
    refine Ex'.next ?_
    refine Cd.case (p := 0 < cs.length) (by kernel_rfl) (fun h3 => ?_) (fun h3 => ?_)
    ·
      refine Cd.seq ?_
      refine Cd.region rfl ?_
      refine Sq.vals [0, 1, 2] (rest := [3, 4, 5]) [pV b 0, pV b 0, pV b 4] (fun w => by kernel_rfl) ?_
      refine Sq.same [0] (l := [srlB b nb ab gb mb most target]) (o_load (i := 4) (v := pV gb 0) (by kernel_rfl) (by kernel_rfl) (by kernel_rfl)) (by kernel_rfl) rfl (by kernel_rfl) rfl ?_
      refine Sq.vals [4] (rest := [5]) [sV (cs.getLast?.getD ⟨#[]⟩)] (fun w => by kernel_rfl) ?_
      refine Sq.same [3] (l := [llR gb gs n]) (o_call (by kernel_rfl) Try.call63 (t_Front (ks := gs) (n := n) (cs.getLast?.getD ⟨#[]⟩) (by omega))) (by kernel_rfl) rfl (by kernel_rfl) rfl ?_
      refine Sq.done ?_
      refine Ex'.next ?_
      refine Cd.region rfl ?_
      refine Sq.vals [0] (rest := [1]) [pV b 0] (fun w => by kernel_rfl) ?_
      refine Sq.res 1 (R := llR nb ns n) (R' := llR nb ns (n + 1)) (by kernel_rfl) (llR.up (by omega)) ?_
      refine Sq.res 2 (R := llR ab cs.dropLast n) (R' := llR ab cs.dropLast (n + 1)) (by kernel_rfl) (llR.up (by omega)) ?_
      refine Sq.same [0, 1, 2, 3, 4] (l := srlL b nb ab gb mb most target ns cs.dropLast (fr gs (cs.getLast?.getD ⟨#[]⟩)) ms (n + 1)) (o_call (by kernel_rfl) Try.call80 (srl_trim (n := n + 1) (most := most) (target := target) (ns := ns) (cs := cs.dropLast) (gs := fr gs (cs.getLast?.getD ⟨#[]⟩)) (ms := ms) (by omega) (by omega))) (by kernel_rfl) rfl (by kernel_rfl) rfl ?_
      refine Sq.done ?_
      refine Ex'.next ?_
      refine Cd.seq ?_
      refine Cd.region rfl ?_
      refine Sq.vals [0, 1, 2, 3] (rest := []) [sV (cs.getLast?.getD ⟨#[]⟩), bV (decide (0 < cs.length)), sV (cs.getLast?.getD ⟨#[]⟩), bV (decide (0 < cs.length))] (fun w => by kernel_rfl) ?_
      refine Sq.done ?_
      refine Ex'.next ?_
      refine Cd.ret ?_
      refine Ex'.ret Try.results71 (RVs.tmp (v := sV (cs.getLast?.getD ⟨#[]⟩)) (by kernel_rfl) (RVs.tmp (v := bV (decide (0 < cs.length))) (by kernel_rfl) (RVs.nil))) (fun w hw => ?_)
      have e : srlEvict most target ns cs gs ms = (ns, cs.dropLast, (srlTrim most target ns cs.dropLast (fr gs (cs.getLast?.getD ⟨#[]⟩)) ms).1, (srlTrim most target ns cs.dropLast (fr gs (cs.getLast?.getD ⟨#[]⟩)) ms).2, cs.getLast?.getD ⟨#[]⟩, decide (0 < cs.length)) := by unfold srlEvict; rw [if_neg h1, if_pos h3]
      rw [e]
      exact ⟨_, ⟨rfl, rfl⟩, (((hw.conv 1 (R := llR nb ns (n + 1)) (R' := llR nb ns n') (by kernel_rfl) (llR.up (by omega))).conv 2 (R := llR ab cs.dropLast (n + 1)) (R' := llR ab cs.dropLast n') (by kernel_rfl) (llR.up (by omega))).conv 3 (R := llR gb ((srlTrim most target ns cs.dropLast (fr gs (cs.getLast?.getD ⟨#[]⟩)) ms).1) (n + 1)) (R' := llR gb ((srlTrim most target ns cs.dropLast (fr gs (cs.getLast?.getD ⟨#[]⟩)) ms).1) n') (by kernel_rfl) (llR.up (by omega))).pickB [0, 1, 2, 3, 4] (by kernel_rfl) (by kernel_rfl) (by kernel_rfl)⟩
    ·
      refine Cd.skip ?_
      refine Ex'.next ?_
      refine Cd.seq ?_
      refine Cd.region rfl ?_
      refine Sq.vals [0, 1, 2, 3] (rest := []) [sV (cs.getLast?.getD ⟨#[]⟩), bV (decide (0 < cs.length)), sV (cs.getLast?.getD ⟨#[]⟩), bV (decide (0 < cs.length))] (fun w => by kernel_rfl) ?_
      refine Sq.done ?_
      refine Ex'.next ?_
      refine Cd.ret ?_
      refine Ex'.ret Try.results71 (RVs.tmp (v := sV (cs.getLast?.getD ⟨#[]⟩)) (by kernel_rfl) (RVs.tmp (v := bV (decide (0 < cs.length))) (by kernel_rfl) (RVs.nil))) (fun w hw => ?_)
      have e : srlEvict most target ns cs gs ms = (ns, cs.dropLast, gs, ms, cs.getLast?.getD ⟨#[]⟩, decide (0 < cs.length)) := by unfold srlEvict; rw [if_neg h1, if_neg h3]
      rw [e]
      exact ⟨_, ⟨rfl, rfl⟩, (((hw.conv 1 (R := llR nb ns n) (R' := llR nb ns n') (by kernel_rfl) (llR.up (by omega))).conv 2 (R := llR ab cs.dropLast n) (R' := llR ab cs.dropLast n') (by kernel_rfl) (llR.up (by omega))).conv 3 (R := llR gb gs n) (R' := llR gb gs n') (by kernel_rfl) (llR.up (by omega))).pickB [0, 1, 2, 3, 4] (by kernel_rfl) (by kernel_rfl) (by kernel_rfl)⟩

theorem srlEvict_cs (most target : Int) (ns cs gs : List ByteArray) (ms : List (ByteArray × (Bool × Bool))) : (srlEvict most target ns cs gs ms).2.1.length ≤ cs.length := by
  unfold srlEvict; repeat' split
  all_goals simp

def srlDem (t : Int) : Nat → List ByteArray → List ByteArray → List (ByteArray × (Bool × Bool)) → List ByteArray × List ByteArray × List (ByteArray × (Bool × Bool))
  | 0, ns, cs, ms => (ns, cs, ms)
  | k + 1, ns, cs, ms => if (cs.length : Int) > (if (1 : Int) > t then 1 else t) then srlDem t k (fr ns (cs.getLast?.getD ⟨#[]⟩)) cs.dropLast (put ms (cs.getLast?.getD ⟨#[]⟩) (true, true)) else (ns, cs, ms)
theorem srlDem_stop {t : Int} {ns cs : List ByteArray} {ms : List (ByteArray × (Bool × Bool))} (h : ¬ (cs.length : Int) > (if (1 : Int) > t then 1 else t)) (k : Nat) : srlDem t k ns cs ms = (ns, cs, ms) := by
  cases k with
  | zero => rfl
  | succ k => rw [srlDem, if_neg h]
theorem srlDem_pos {t : Int} {cs : List ByteArray} (h : (cs.length : Int) > (if (1 : Int) > t then 1 else t)) : 0 < cs.length := by
  have : (0 : Int) < cs.length := by split at h <;> omega
  omega
theorem srlDem_go {t : Int} {ns cs : List ByteArray} {ms : List (ByteArray × (Bool × Bool))} (h : (cs.length : Int) > (if (1 : Int) > t then 1 else t)) : srlDem t cs.length ns cs ms = srlDem t cs.dropLast.length (fr ns (cs.getLast?.getD ⟨#[]⟩)) cs.dropLast (put ms (cs.getLast?.getD ⟨#[]⟩) (true, true)) := by
  obtain ⟨k, e⟩ : ∃ k, cs.length = k + 1 := ⟨cs.length - 1, by have := srlDem_pos h; omega⟩
  rw [List.length_dropLast, e, srlDem, if_pos h]; rfl
def srlAgain (most target : Int) (ns cs gs : List ByteArray) (ms : List (ByteArray × (Bool × Bool))) (key : ByteArray) := srlDem target (fr cs key).length ns (fr cs key) (put ms key (true, false))

def srlDem1 (most : Int) (target : Int) (ns : List ByteArray) (cs : List ByteArray) (gs : List ByteArray) (ms : List (ByteArray × (Bool × Bool)))  : List ByteArray × List ByteArray × List (ByteArray × (Bool × Bool)) :=
  (fr ns (cs.getLast?.getD ⟨#[]⟩), cs.dropLast, put ms (cs.getLast?.getD ⟨#[]⟩) (true, true))

set_option maxHeartbeats 4000000 in
set_option maxRecDepth 100000 in
theorem srl_demote {b : Nat} {nb : Nat} {ab : Nat} {gb : Nat} {mb : Nat} {n : Nat} {most : Int} {target : Int} {ns : List ByteArray} {cs : List ByteArray} {gs : List ByteArray} {ms : List (ByteArray × (Bool × Bool))} {bx : Nat}  {n' : Nat} (hb : n ≤ 1000000000) (hn : n + 1 ≤ n') : Tri Try.prog 83 #[pV bx 0] (srlL b nb ab gb mb most target ns cs gs ms n ++ [blkR bx [pV b 0] 55]) (Same (srlL b nb ab gb mb most target ((srlDem1 most target ns cs gs ms).1) ((srlDem1 most target ns cs gs ms).2.1) gs ((srlDem1 most target ns cs gs ms).2.2) n' ++ [blkR bx [pV b 0] 55]) (.tuple #[])) := by
  refine Tri.enter (args := [pV bx 0]) Try.func83 rfl rfl rfl (fun B wz => ?_)
  refine Cd.seq ?_
  refine Cd.region rfl ?_
  refine Sq.same [5] (l := [blkR bx [pV b 0] 55]) (o_load (i := 0) (v := pV b 0) (by kernel_rfl) (by kernel_rfl) (by kernel_rfl)) (by kernel_rfl) rfl (by kernel_rfl) rfl ?_
  refine Sq.vals [1, 2] (rest := [3, 4, 5, 6, 7, 8, 9]) [pV b 0, pV b 3] (fun w => by kernel_rfl) ?_
  refine Sq.same [0] (l := [srlB b nb ab gb mb most target]) (o_load (i := 3) (v := pV ab 0) (by kernel_rfl) (by kernel_rfl) (by kernel_rfl)) (by kernel_rfl) rfl (by kernel_rfl) rfl ?_
  refine Sq.same [2] (l := [llR ab cs n]) (o_call (by kernel_rfl) Try.call62 (t_Pop (ks := cs) (n := n) (by omega))) (by kernel_rfl) rfl (by kernel_rfl) rfl ?_
  refine Sq.vals [5, 6, 7, 8, 9] (rest := []) [.tuple #[sV (cs.getLast?.getD ⟨#[]⟩), bV (decide (0 < cs.length))], sV (cs.getLast?.getD ⟨#[]⟩), bV (decide (0 < cs.length)), sV (cs.getLast?.getD ⟨#[]⟩), bV (decide (0 < cs.length))] (fun w => by kernel_rfl) ?_
  refine Sq.done ?_
  refine Ex'.next ?_
  refine Cd.seq ?_
  refine Cd.region rfl ?_
  refine Sq.same [5] (l := [blkR bx [pV b 0] 55]) (o_load (i := 0) (v := pV b 0) (by kernel_rfl) (by kernel_rfl) (by kernel_rfl)) (by kernel_rfl) rfl (by kernel_rfl) rfl ?_
  refine Sq.vals [1, 2] (rest := [3, 4, 5]) [pV b 0, pV b 2] (fun w => by kernel_rfl) ?_
  refine Sq.same [0] (l := [srlB b nb ab gb mb most target]) (o_load (i := 2) (v := pV nb 0) (by kernel_rfl) (by kernel_rfl) (by kernel_rfl)) (by kernel_rfl) rfl (by kernel_rfl) rfl ?_
  refine Sq.vals [4] (rest := [5]) [sV (cs.getLast?.getD ⟨#[]⟩)] (fun w => by kernel_rfl) ?_
  refine Sq.same [1] (l := [llR nb ns n]) (o_call (by kernel_rfl) Try.call63 (t_Front (ks := ns) (n := n) (cs.getLast?.getD ⟨#[]⟩) (by omega))) (by kernel_rfl) rfl (by kernel_rfl) rfl ?_
  refine Sq.done ?_
  refine Ex'.next ?_
  refine Cd.region rfl ?_
  refine Sq.same [5] (l := [blkR bx [pV b 0] 55]) (o_load (i := 0) (v := pV b 0) (by kernel_rfl) (by kernel_rfl) (by kernel_rfl)) (by kernel_rfl) rfl (by kernel_rfl) rfl ?_
  refine Sq.vals [1, 2] (rest := [3, 4, 5, 6]) [pV b 0, pV b 5] (fun w => by kernel_rfl) ?_
  refine Sq.same [0] (l := [srlB b nb ab gb mb most target]) (o_load (i := 5) (v := .map (some mb)) (by kernel_rfl) (by kernel_rfl) (by kernel_rfl)) (by kernel_rfl) rfl (by kernel_rfl) rfl ?_
  refine Sq.vals [4, 5] (rest := [6]) [sV (cs.getLast?.getD ⟨#[]⟩), .agg #[bV true, bV true]] (fun w => by kernel_rfl) ?_
  refine Sq.same [4] (l := [mapR Value.string markV mb ms]) (o_mapUpdate (cs.getLast?.getD ⟨#[]⟩) (true, true) (by kernel_rfl) (by kernel_rfl) (by kernel_rfl) key_str Try.underlying81) (by kernel_rfl) rfl (by kernel_rfl) rfl ?_
  refine Sq.done ?_
  refine Ex'.fin Try.results83 (RVs.nil) (fun w hw => ?_)
  have e : srlDem1 most target ns cs gs ms = (fr ns (cs.getLast?.getD ⟨#[]⟩), cs.dropLast, put ms (cs.getLast?.getD ⟨#[]⟩) (true, true)) := by unfold srlDem1; rfl
  rw [e]
  exact ⟨_, ⟨rfl, rfl⟩, (((hw.conv 1 (R := llR nb (fr ns (cs.getLast?.getD ⟨#[]⟩)) (n + 1)) (R' := llR nb (fr ns (cs.getLast?.getD ⟨#[]⟩)) n') (by kernel_rfl) (llR.up (by omega))).conv 2 (R := llR ab cs.dropLast n) (R' := llR ab cs.dropLast n') (by kernel_rfl) (llR.up (by omega))).conv 3 (R := llR gb gs n) (R' := llR gb gs n') (by kernel_rfl) (llR.up (by omega))).pickB [0, 1, 2, 3, 4, 5] (by kernel_rfl) (by kernel_rfl) (by kernel_rfl)⟩

set_option maxHeartbeats 4000000 in
set_option maxRecDepth 100000 in
theorem srl_again {b : Nat} {nb : Nat} {ab : Nat} {gb : Nat} {mb : Nat} {n : Nat} {most : Int} {target : Int} {ns : List ByteArray} {cs : List ByteArray} {gs : List ByteArray} {ms : List (ByteArray × (Bool × Bool))} (key : ByteArray) {n' : Nat} (hb : n + cs.length + 4 ≤ 1000000000) (hn : n + cs.length + 2 ≤ n') : Tri Try.prog 70 #[pV b 0, sV key] (srlL b nb ab gb mb most target ns cs gs ms n) (Same (srlL b nb ab gb mb most target ((srlAgain most target ns cs gs ms key).1) ((srlAgain most target ns cs gs ms key).2.1) gs ((srlAgain most target ns cs gs ms key).2.2) n') (.tuple #[])) := by
  have hfr := fr_le cs key
  refine Tri.enter (args := [pV b 0, sV key]) Try.func70 rfl rfl rfl (fun B wz => ?_)
  refine Cd.seq ?_
  refine Cd.region rfl ?_
  refine Sq.ex [] (l := []) (o_newBox (v := pV b 0) [pV b 0] (by kernel_rfl) rfl) (by kernel_rfl) rfl (by kernel_rfl) (fun _ => Nat.zero_le _) ?_; intro b1 _
  refine Sq.done ?_
  refine Ex'.next ?_
  refine Cd.seq ?_
  refine Cd.region rfl ?_
  refine Sq.same [5] (l := [blkR b1 [pV b 0] 55]) (o_load (i := 0) (v := pV b 0) (by kernel_rfl) (by kernel_rfl) (by kernel_rfl)) (by kernel_rfl) rfl (by kernel_rfl) rfl ?_
  refine Sq.vals [1, 2] (rest := [3, 4, 5]) [pV b 0, pV b 3] (fun w => by kernel_rfl) ?_
  refine Sq.same [0] (l := [srlB b nb ab gb mb most target]) (o_load (i := 3) (v := pV ab 0) (by kernel_rfl) (by kernel_rfl) (by kernel_rfl)) (by kernel_rfl) rfl (by kernel_rfl) rfl ?_
  refine Sq.vals [4] (rest := [5]) [sV key] (fun w => by kernel_rfl) ?_
  refine Sq.same [2] (l := [llR ab cs n]) (o_call (by kernel_rfl) Try.call63 (t_Front (ks := cs) (n := n) key (by omega))) (by kernel_rfl) rfl (by kernel_rfl) rfl ?_
  refine Sq.done ?_
  refine Ex'.next ?_
  refine Cd.seq ?_
  refine Cd.region rfl ?_
  refine Sq.same [5] (l := [blkR b1 [pV b 0] 55]) (o_load (i := 0) (v := pV b 0) (by kernel_rfl) (by kernel_rfl) (by kernel_rfl)) (by kernel_rfl) rfl (by kernel_rfl) rfl ?_
  refine Sq.vals [1, 2] (rest := [3, 4, 5, 6]) [pV b 0, pV b 5] (fun w => by kernel_rfl) ?_
  refine Sq.same [0] (l := [srlB b nb ab gb mb most target]) (o_load (i := 5) (v := .map (some mb)) (by kernel_rfl) (by kernel_rfl) (by kernel_rfl)) (by kernel_rfl) rfl (by kernel_rfl) rfl ?_
  refine Sq.vals [4, 5] (rest := [6]) [sV key, .agg #[bV true, bV false]] (fun w => by kernel_rfl) ?_
  refine Sq.same [4] (l := [mapR Value.string markV mb ms]) (o_mapUpdate key (true, false) (by kernel_rfl) (by kernel_rfl) (by kernel_rfl) key_str Try.underlying81) (by kernel_rfl) rfl (by kernel_rfl) rfl ?_
  refine Sq.done ?_
  refine Ex'.next ?_
  refine Cd.seq ?_
  refine Cd.region rfl ?_
  refine Sq.vals [0, 1] (rest := []) [.func (.func 83) #[] #[pV b1 0], .func (.func 83) #[] #[pV b1 0]] (fun w => by kernel_rfl) ?_
  refine Sq.done ?_
  refine Ex'.next ?_
  refine Cd.block ?_
  refine Cd.loop (ι := (List ByteArray) × (List ByteArray) × (List (ByteArray × (Bool × Bool))) × Nat) (fun ⟨ns2, cs2, ms2, m2⟩ => srlDem target cs2.length ns2 cs2 ms2 = srlDem target (fr cs key).length ns (fr cs key) (put ms key (true, false)) ∧ m2 + cs2.length ≤ n + 1 + (fr cs key).length) (fun ⟨ns2, cs2, ms2, m2⟩ => cs2.length) (fun ⟨ns2, cs2, ms2, m2⟩ => [(2, pV b1 0), (4, .func (.func 83) #[] #[pV b1 0])]) (fun ⟨ns2, cs2, ms2, m2⟩ => [srlB b nb ab gb mb most target, llR nb ns2 m2, llR ab cs2 m2, llR gb gs m2, mapR Value.string markV mb ms2, blkR b1 [pV b 0] 55]) (ns, fr cs key, put ms key (true, false), n + 1) (⟨rfl, by omega⟩) (subB_eq (l := [2, 4]) (by kernel_rfl)) (fun w hw => ((hw.conv 1 (R := llR nb ns n) (R' := llR nb ns (n + 1)) (by kernel_rfl) (llR.up (by omega))).conv 3 (R := llR gb gs n) (R' := llR gb gs (n + 1)) (by kernel_rfl) (llR.up (by omega))).pickB [0, 1, 2, 3, 4, 5] (by kernel_rfl) (by kernel_rfl) (by kernel_rfl)) ?_
  rintro ⟨ns2, cs2, ms2, m2⟩ hL2
  try dsimp only at hL2 ⊢
  obtain ⟨hi, hm⟩ := hL2
  refine Cd.seq ?_
  refine Cd.seq ?_
  refine Cd.plan [0, 1, 3, 7, 15, 0, 32, 96, 224, 480, 1023] [(0, [(5, false, 0)]), (3, [(0, false, 0)]), (4, [(2, false, 0)]), (5, [(5, false, 0)]), (8, [(0, false, 0)])] [] [] [] [fun g => pV b 0, fun g => pV b 0, fun g => pV b 3, fun g => pV ab 0, fun g => iV (cs2.length : Int), fun g => pV b 0, fun g => pV b 0, fun g => pV b 1, fun g => iV target, fun g => iV (if (1 : Int) > target then 1 else target), fun g => bV (decide ((cs2.length : Int) > (if (1 : Int) > target then 1 else target)))] (by kernel_rfl) (by kernel_rfl) rfl (trivial) ?_ ?_
  · exact ⟨ob_s (l := fun g => [blkR b1 [pV b 0] 55]) (l' := fun g => [blkR b1 [pV b 0] 55]) (v := fun g => pV b 0) (fun g => o_load (i := 0) (v := pV b 0) (by kernel_rfl) (by kernel_rfl) (by kernel_rfl)) (fun g => by kernel_rfl), ob_val fun g w => by kernel_rfl, ob_val fun g w => by kernel_rfl, ob_s (l := fun g => [srlB b nb ab gb mb most target]) (l' := fun g => [srlB b nb ab gb mb most target]) (v := fun g => pV ab 0) (fun g => o_load (i := 3) (v := pV ab 0) (by kernel_rfl) (by kernel_rfl) (by kernel_rfl)) (fun g => by kernel_rfl), ob_s (l := fun g => [llR ab cs2 m2]) (l' := fun g => [llR ab cs2 m2]) (v := fun g => iV (cs2.length : Int)) (fun g => o_call (by kernel_rfl) Try.call61 (t_Len (ks := cs2) (n := m2))) (fun g => by kernel_rfl), ob_s (l := fun g => [blkR b1 [pV b 0] 55]) (l' := fun g => [blkR b1 [pV b 0] 55]) (v := fun g => pV b 0) (fun g => o_load (i := 0) (v := pV b 0) (by kernel_rfl) (by kernel_rfl) (by kernel_rfl)) (fun g => by kernel_rfl), ob_val fun g w => by kernel_rfl, ob_val fun g w => by kernel_rfl, ob_s (l := fun g => [srlB b nb ab gb mb most target]) (l' := fun g => [srlB b nb ab gb mb most target]) (v := fun g => iV target) (fun g => o_load (i := 1) (v := iV target) (by kernel_rfl) (by kernel_rfl) (by kernel_rfl)) (fun g => by kernel_rfl), ob_val fun g w => by kernel_rfl, ob_val fun g w => by kernel_rfl, trivial⟩
  intro g
  refine Ex'.sub (subB_spec [2, 4, 28]) ?_
  refine Ex'.as [0, 1, 2, 3, 4, 5] (σ' := [(2, pV b1 0), (4, .func (.func 83) #[] #[pV b1 0]), (28, bV (decide ((cs2.length : Int) > (if (1 : Int) > target then 1 else target))))]) (Γ' := [srlB b nb ab gb mb most target, llR nb ns2 m2, llR ab cs2 m2, llR gb gs m2, mapR Value.string markV mb ms2, blkR b1 [pV b 0] 55]) (by kernel_rfl) rfl (by kernel_rfl) (by kernel_rfl) ?_
  refine Ex'.next ?_
  refine Cd.case (p := (cs2.length : Int) > (if (1 : Int) > target then 1 else target)) (by kernel_rfl) (fun h3 => ?_) (fun h3 => ?_)
  ·
    refine Cd.skip ?_
    refine Ex'.next ?_
    refine Cd.block ?_
    refine Cd.region rfl ?_
    refine Sq.vals [0] (rest := [1]) [.func (.func 83) #[] #[pV b1 0]] (fun w => by kernel_rfl) ?_
    refine Sq.same [0, 1, 2, 3, 4, 5] (l := srlL b nb ab gb mb most target ns2 cs2 gs ms2 m2 ++ [blkR b1 [pV b 0] 55]) (o_calld (first := []) (captured := [pV b1 0]) (args := []) (by kernel_rfl) (by kernel_rfl) rfl Try.call83 (srl_demote (n := m2) (n' := m2 + 1) (most := most) (target := target) (ns := ns2) (cs := cs2) (gs := gs) (ms := ms2) (by omega) (by omega))) (by kernel_rfl) rfl (by kernel_rfl) rfl ?_
    refine Sq.done ?_
    refine Ex'.blockNormal ?_
    refine Ex'.round (g := (ns2, cs2, ms2, m2)) ((srlDem1 most target ns2 cs2 gs ms2).1, (srlDem1 most target ns2 cs2 gs ms2).2.1, (srlDem1 most target ns2 cs2 gs ms2).2.2, m2 + 1) ?_ ?_ (subB_eq (l := [2, 4]) (by kernel_rfl)) (fun w hw => hw.pickB [0, 1, 2, 3, 4, 5] (by kernel_rfl) (by kernel_rfl) (by kernel_rfl))
    · (try dsimp only); exact ⟨(srlDem_go h3).symm.trans hi, by have := srlDem_pos h3; show m2 + 1 + cs2.dropLast.length ≤ n + 1 + (fr cs key).length; rw [List.length_dropLast]; omega⟩
    · have := srlDem_pos h3; show cs2.dropLast.length < cs2.length; rw [List.length_dropLast]; omega
  ·
    refine Cd.exit ?_
    refine Ex'.thenExit ?_
    refine Ex'.thenExit ?_
    refine Ex'.blockHit ?_
    refine Ex'.fin Try.results70 (RVs.nil) (fun w hw => ?_)
    have e : srlAgain most target ns cs gs ms key = (ns2, cs2, ms2) := by unfold srlAgain; rw [← hi]; exact srlDem_stop h3 _
    rw [e]
    exact ⟨_, ⟨rfl, rfl⟩, (((hw.conv 1 (R := llR nb ns2 m2) (R' := llR nb ns2 n') (by kernel_rfl) (llR.up (by omega))).conv 2 (R := llR ab cs2 m2) (R' := llR ab cs2 n') (by kernel_rfl) (llR.up (by omega))).conv 3 (R := llR gb gs m2) (R' := llR gb gs n') (by kernel_rfl) (llR.up (by omega))).pickB [0, 1, 2, 3, 4] (by kernel_rfl) (by kernel_rfl) (by kernel_rfl)⟩

def srlReq (most : Int) (target : Int) (ns : List ByteArray) (cs : List ByteArray) (gs : List ByteArray) (ms : List (ByteArray × (Bool × Bool))) (key : ByteArray) : Int × List ByteArray × List ByteArray × List ByteArray × List (ByteArray × (Bool × Bool)) × Bool × ByteArray × Bool :=
  if most = 0 then (target, ns, cs, gs, ms, srlHas most target ns cs gs ms key, ⟨#[]⟩, false) else if key ∈ cs then (target, ns, fr cs key, gs, ms, srlHas most target ns cs gs ms key, ⟨#[]⟩, false) else if srlHas most target ns cs gs ms key = true then if ((lk ms key).getD (false, false)).2 = true then ((if most < target + 1 then most else target + 1), (srlAgain most (if most < target + 1 then most else target + 1) (rm ns key) cs gs ms key).1, (srlAgain most (if most < target + 1 then most else target + 1) (rm ns key) cs gs ms key).2.1, gs, (srlAgain most (if most < target + 1 then most else target + 1) (rm ns key) cs gs ms key).2.2, srlHas most target ns cs gs ms key, ⟨#[]⟩, false) else (target, (srlAgain most target (rm ns key) cs gs ms key).1, (srlAgain most target (rm ns key) cs gs ms key).2.1, gs, (srlAgain most target (rm ns key) cs gs ms key).2.2, srlHas most target ns cs gs ms key, ⟨#[]⟩, false) else if (lk ms key).isSome = true then if (!(((lk ms key).getD (false, false)).1)) = true then if target > 1 then if srlLen most (target - 1) ns cs (rm gs key) ms ≥ most then (target - 1, (srlAgain most (target - 1) ((srlEvict most (target - 1) ns cs (rm gs key) ms).1) ((srlEvict most (target - 1) ns cs (rm gs key) ms).2.1) ((srlEvict most (target - 1) ns cs (rm gs key) ms).2.2.1) ((srlEvict most (target - 1) ns cs (rm gs key) ms).2.2.2.1) key).1, (srlAgain most (target - 1) ((srlEvict most (target - 1) ns cs (rm gs key) ms).1) ((srlEvict most (target - 1) ns cs (rm gs key) ms).2.1) ((srlEvict most (target - 1) ns cs (rm gs key) ms).2.2.1) ((srlEvict most (target - 1) ns cs (rm gs key) ms).2.2.2.1) key).2.1, (srlEvict most (target - 1) ns cs (rm gs key) ms).2.2.1, (srlAgain most (target - 1) ((srlEvict most (target - 1) ns cs (rm gs key) ms).1) ((srlEvict most (target - 1) ns cs (rm gs key) ms).2.1) ((srlEvict most (target - 1) ns cs (rm gs key) ms).2.2.1) ((srlEvict most (target - 1) ns cs (rm gs key) ms).2.2.2.1) key).2.2, srlHas most target ns cs gs ms key, (srlEvict most (target - 1) ns cs (rm gs key) ms).2.2.2.2.1, (srlEvict most (target - 1) ns cs (rm gs key) ms).2.2.2.2.2) else (target - 1, (srlAgain most (target - 1) ns cs (rm gs key) ms key).1, (srlAgain most (target - 1) ns cs (rm gs key) ms key).2.1, rm gs key, (srlAgain most (target - 1) ns cs (rm gs key) ms key).2.2, srlHas most target ns cs gs ms key, ⟨#[]⟩, false) else if srlLen most target ns cs (rm gs key) ms ≥ most then (target, (srlAgain most target ((srlEvict most target ns cs (rm gs key) ms).1) ((srlEvict most target ns cs (rm gs key) ms).2.1) ((srlEvict most target ns cs (rm gs key) ms).2.2.1) ((srlEvict most target ns cs (rm gs key) ms).2.2.2.1) key).1, (srlAgain most target ((srlEvict most target ns cs (rm gs key) ms).1) ((srlEvict most target ns cs (rm gs key) ms).2.1) ((srlEvict most target ns cs (rm gs key) ms).2.2.1) ((srlEvict most target ns cs (rm gs key) ms).2.2.2.1) key).2.1, (srlEvict most target ns cs (rm gs key) ms).2.2.1, (srlAgain most target ((srlEvict most target ns cs (rm gs key) ms).1) ((srlEvict most target ns cs (rm gs key) ms).2.1) ((srlEvict most target ns cs (rm gs key) ms).2.2.1) ((srlEvict most target ns cs (rm gs key) ms).2.2.2.1) key).2.2, srlHas most target ns cs gs ms key, (srlEvict most target ns cs (rm gs key) ms).2.2.2.2.1, (srlEvict most target ns cs (rm gs key) ms).2.2.2.2.2) else (target, (srlAgain most target ns cs (rm gs key) ms key).1, (srlAgain most target ns cs (rm gs key) ms key).2.1, rm gs key, (srlAgain most target ns cs (rm gs key) ms key).2.2, srlHas most target ns cs gs ms key, ⟨#[]⟩, false) else if srlLen most target ns cs (rm gs key) ms ≥ most then (target, (srlAgain most target ((srlEvict most target ns cs (rm gs key) ms).1) ((srlEvict most target ns cs (rm gs key) ms).2.1) ((srlEvict most target ns cs (rm gs key) ms).2.2.1) ((srlEvict most target ns cs (rm gs key) ms).2.2.2.1) key).1, (srlAgain most target ((srlEvict most target ns cs (rm gs key) ms).1) ((srlEvict most target ns cs (rm gs key) ms).2.1) ((srlEvict most target ns cs (rm gs key) ms).2.2.1) ((srlEvict most target ns cs (rm gs key) ms).2.2.2.1) key).2.1, (srlEvict most target ns cs (rm gs key) ms).2.2.1, (srlAgain most target ((srlEvict most target ns cs (rm gs key) ms).1) ((srlEvict most target ns cs (rm gs key) ms).2.1) ((srlEvict most target ns cs (rm gs key) ms).2.2.1) ((srlEvict most target ns cs (rm gs key) ms).2.2.2.1) key).2.2, srlHas most target ns cs gs ms key, (srlEvict most target ns cs (rm gs key) ms).2.2.2.2.1, (srlEvict most target ns cs (rm gs key) ms).2.2.2.2.2) else (target, (srlAgain most target ns cs (rm gs key) ms key).1, (srlAgain most target ns cs (rm gs key) ms key).2.1, rm gs key, (srlAgain most target ns cs (rm gs key) ms key).2.2, srlHas most target ns cs gs ms key, ⟨#[]⟩, false) else if srlLen most target ns cs (rm gs key) ms ≥ most then (target, fr ((srlEvict most target ns cs (rm gs key) ms).1) key, (srlEvict most target ns cs (rm gs key) ms).2.1, (srlEvict most target ns cs (rm gs key) ms).2.2.1, put ((srlEvict most target ns cs (rm gs key) ms).2.2.2.1) key (false, false), srlHas most target ns cs gs ms key, (srlEvict most target ns cs (rm gs key) ms).2.2.2.2.1, (srlEvict most target ns cs (rm gs key) ms).2.2.2.2.2) else (target, fr ns key, cs, rm gs key, put ms key (false, false), srlHas most target ns cs gs ms key, ⟨#[]⟩, false)

set_option maxHeartbeats 4000000 in
set_option maxRecDepth 100000 in
theorem srl_Request {b : Nat} {nb : Nat} {ab : Nat} {gb : Nat} {mb : Nat} {n : Nat} {most : Int} {target : Int} {ns : List ByteArray} {cs : List ByteArray} {gs : List ByteArray} {ms : List (ByteArray × (Bool × Bool))} (key : ByteArray) {n' : Nat} (hb : n + cs.length + 7 ≤ 1000000000) (hn : n + cs.length + 3 ≤ n') (h0 : 0 ≤ most) (ht : 0 ≤ target ∧ target ≤ 9223372036854775806) : Tri Try.prog 37 #[pV b 0, sV key] (srlL b nb ab gb mb most target ns cs gs ms n) (Same (srlL b nb ab gb mb most ((srlReq most target ns cs gs ms key).1) ((srlReq most target ns cs gs ms key).2.1) ((srlReq most target ns cs gs ms key).2.2.1) ((srlReq most target ns cs gs ms key).2.2.2.1) ((srlReq most target ns cs gs ms key).2.2.2.2.1) n') (.agg #[bV ((srlReq most target ns cs gs ms key).2.2.2.2.2.1), sV ((srlReq most target ns cs gs ms key).2.2.2.2.2.2.1), bV ((srlReq most target ns cs gs ms key).2.2.2.2.2.2.2)])) := by
  refine Tri.enter (args := [pV b 0, sV key]) Try.func37 rfl rfl rfl (fun B wz => ?_)
  refine Cd.seq ?_
  refine Cd.region rfl ?_
  refine Sq.ex [] (l := []) (o_new [bV false, sV ⟨#[]⟩, bV false] (fun w => by kernel_rfl)) (by kernel_rfl) rfl (by kernel_rfl) (fun _ => Nat.zero_le _) ?_; intro b1 _
  refine Sq.done ?_
  refine Ex'.next ?_
  refine Cd.seq ?_
  refine Cd.region rfl ?_
  refine Sq.vals [0, 1] (rest := [2, 3, 4, 5]) [pV b 0, sV key] (fun w => by kernel_rfl) ?_
  refine Sq.same [0, 1, 2, 3, 4] (l := srlL b nb ab gb mb most target ns cs gs ms n) (o_call (by kernel_rfl) Try.call42 (srl_Has (n := n) (most := most) (target := target) (ns := ns) (cs := cs) (gs := gs) (ms := ms) key (by omega))) (by kernel_rfl) rfl (by kernel_rfl) rfl ?_
  refine Sq.vals [3] (rest := [4, 5]) [.agg #[bV (srlHas most target ns cs gs ms key), sV ⟨#[]⟩, bV false]] (fun w => by kernel_rfl) ?_
  refine Sq.ex [] (l := []) (o_new [bV false, sV ⟨#[]⟩, bV false] (fun w => by kernel_rfl)) (by kernel_rfl) rfl (by kernel_rfl) (fun _ => Nat.zero_le _) ?_; intro b2 _
  refine Sq.same [6] (l := [blkR b2 [bV false, sV ⟨#[]⟩, bV false] 27]) (o_store (i := 0) (v := .agg #[bV (srlHas most target ns cs gs ms key), sV ⟨#[]⟩, bV false]) (by kernel_rfl) (by kernel_rfl) (by kernel_rfl) (by kernel_rfl) (by kernel_rfl)) (by kernel_rfl) rfl (by kernel_rfl) rfl ?_
  refine Sq.done ?_
  refine Ex'.next ?_
  refine Cd.seq ?_
  refine Cd.region rfl ?_
  refine Sq.vals [0, 1, 2] (rest := [3, 4, 5, 6, 7, 8, 9, 10, 11]) [pV b 0, pV b 0, pV b 5] (fun w => by kernel_rfl) ?_
  refine Sq.same [0] (l := [srlB b nb ab gb mb most target]) (o_load (i := 5) (v := .map (some mb)) (by kernel_rfl) (by kernel_rfl) (by kernel_rfl)) (by kernel_rfl) rfl (by kernel_rfl) rfl ?_
  refine Sq.vals [4] (rest := [5, 6, 7, 8, 9, 10, 11]) [sV key] (fun w => by kernel_rfl) ?_
  refine Sq.same [4] (l := [mapR Value.string markV mb ms]) (o_lookOk (fv := markV) (l := ms) (false, false) key (by kernel_rfl) (by kernel_rfl) key_str Try.underlying81 (fun w => by kernel_rfl)) (by kernel_rfl) rfl (by kernel_rfl) rfl ?_
  refine Sq.vals [6, 7, 8] (rest := [9, 10, 11]) [.tuple #[.agg #[bV (((lk ms key).getD (false, false)).1), bV (((lk ms key).getD (false, false)).2)], bV ((lk ms key).isSome)], .agg #[bV (((lk ms key).getD (false, false)).1), bV (((lk ms key).getD (false, false)).2)], bV ((lk ms key).isSome)] (fun w => by kernel_rfl) ?_
  refine Sq.ex [] (l := []) (o_new [bV false, bV false] (fun w => by kernel_rfl)) (by kernel_rfl) rfl (by kernel_rfl) (fun _ => Nat.zero_le _) ?_; intro b3 _
  refine Sq.same [7] (l := [blkR b3 [bV false, bV false] 85]) (o_store (i := 0) (v := .agg #[bV (((lk ms key).getD (false, false)).1), bV (((lk ms key).getD (false, false)).2)]) (by kernel_rfl) (by kernel_rfl) (by kernel_rfl) (by kernel_rfl) (by kernel_rfl)) (by kernel_rfl) rfl (by kernel_rfl) rfl ?_
  refine Sq.vals [11] (rest := []) [bV ((lk ms key).isSome)] (fun w => by kernel_rfl) ?_
  refine Sq.done ?_
  refine Ex'.next ?_
  refine Cd.seq ?_
  refine Cd.block ?_
  refine Cd.seq ?_
  refine Cd.region rfl ?_
  refine Sq.vals [0, 1, 2] (rest := [3, 4, 5]) [pV b 0, pV b 0, pV b 0] (fun w => by kernel_rfl) ?_
  refine Sq.same [0] (l := [srlB b nb ab gb mb most target]) (o_load (i := 0) (v := iV most) (by kernel_rfl) (by kernel_rfl) (by kernel_rfl)) (by kernel_rfl) rfl (by kernel_rfl) rfl ?_
  refine Sq.v (r := bV (decide (most = 0))) (o_eqI (k := .i64) (a := most) (b := 0) (by kernel_rfl) (by kernel_rfl)) rfl (by kernel_rfl) ?_
  refine Sq.vals [5] (rest := []) [bV (decide (most = 0))] (fun w => by kernel_rfl) ?_
  refine Sq.done ?_
  refine Ex'.next ?_
  refine Cd.case (p := most = 0) (by kernel_rfl) (fun h4 => ?_) (fun h4 => ?_)
  ·
    refine Cd.seq ?_
    refine Cd.region rfl ?_
    refine Sq.same [6] (l := [blkR b2 [bV (srlHas most target ns cs gs ms key), sV ⟨#[]⟩, bV false] 27]) (o_loadN (i := 0) [bV (srlHas most target ns cs gs ms key), sV ⟨#[]⟩, bV false] (by kernel_rfl) (by kernel_rfl) (by kernel_rfl)) (by kernel_rfl) rfl (by kernel_rfl) rfl ?_
    refine Sq.same [5] (l := [blkR b1 [bV false, sV ⟨#[]⟩, bV false] 27]) (o_store (i := 0) (v := .agg #[bV (srlHas most target ns cs gs ms key), sV ⟨#[]⟩, bV false]) (by kernel_rfl) (by kernel_rfl) (by kernel_rfl) (by kernel_rfl) (by kernel_rfl)) (by kernel_rfl) rfl (by kernel_rfl) rfl ?_
    refine Sq.done ?_
    refine Ex'.next ?_
    refine Cd.ret ?_
    refine Ex'.blockRet ?_
    refine Ex'.thenRet ?_
    refine Ex'.ret Try.results37 (RVs.cellN (i := 0) (b := b1) (l := [bV (srlHas most target ns cs gs ms key), sV ⟨#[]⟩, bV false]) (E := 27) [bV (srlHas most target ns cs gs ms key), sV ⟨#[]⟩, bV false] 5 (by kernel_rfl) (by kernel_rfl) (by kernel_rfl) (by kernel_rfl) (RVs.nil)) (fun w hw => ?_)
    have e : srlReq most target ns cs gs ms key = (target, ns, cs, gs, ms, srlHas most target ns cs gs ms key, ⟨#[]⟩, false) := by unfold srlReq; rw [if_pos h4]
    rw [e]
    exact ⟨_, ⟨rfl, rfl⟩, (((hw.conv 1 (R := llR nb ns n) (R' := llR nb ns n') (by kernel_rfl) (llR.up (by omega))).conv 2 (R := llR ab cs n) (R' := llR ab cs n') (by kernel_rfl) (llR.up (by omega))).conv 3 (R := llR gb gs n) (R' := llR gb gs n') (by kernel_rfl) (llR.up (by omega))).pickB [0, 1, 2, 3, 4] (by kernel_rfl) (by kernel_rfl) (by kernel_rfl)⟩
  ·
    refine Cd.seq ?_
    refine Cd.region rfl ?_
    refine Sq.vals [0, 1, 2] (rest := [3, 4, 5, 6]) [pV b 0, pV b 0, pV b 3] (fun w => by kernel_rfl) ?_
    refine Sq.same [0] (l := [srlB b nb ab gb mb most target]) (o_load (i := 3) (v := pV ab 0) (by kernel_rfl) (by kernel_rfl) (by kernel_rfl)) (by kernel_rfl) rfl (by kernel_rfl) rfl ?_
    refine Sq.vals [4] (rest := [5, 6]) [sV key] (fun w => by kernel_rfl) ?_
    refine Sq.same [2] (l := [llR ab cs n]) (o_call (by kernel_rfl) Try.call60 (t_Has (ks := cs) (n := n) key)) (by kernel_rfl) rfl (by kernel_rfl) rfl ?_
    refine Sq.vals [6] (rest := []) [bV (decide (key ∈ cs))] (fun w => by kernel_rfl) ?_
    refine Sq.done ?_
    refine Ex'.next ?_
    refine Cd.case (p := key ∈ cs) (by kernel_rfl) (fun h5 => ?_) (fun h5 => ?_)
    ·
      refine Cd.seq ?_
      refine Cd.region rfl ?_
      refine Sq.vals [0, 1, 2] (rest := [3, 4, 5]) [pV b 0, pV b 0, pV b 3] (fun w => by kernel_rfl) ?_
      refine Sq.same [0] (l := [srlB b nb ab gb mb most target]) (o_load (i := 3) (v := pV ab 0) (by kernel_rfl) (by kernel_rfl) (by kernel_rfl)) (by kernel_rfl) rfl (by kernel_rfl) rfl ?_
      refine Sq.vals [4] (rest := [5]) [sV key] (fun w => by kernel_rfl) ?_
      refine Sq.same [2] (l := [llR ab cs n]) (o_call (by kernel_rfl) Try.call63 (t_Front (ks := cs) (n := n) key (by omega))) (by kernel_rfl) rfl (by kernel_rfl) rfl ?_
      refine Sq.done ?_
      refine Ex'.next ?_
      refine Cd.seq ?_
      refine Cd.region rfl ?_
      refine Sq.same [6] (l := [blkR b2 [bV (srlHas most target ns cs gs ms key), sV ⟨#[]⟩, bV false] 27]) (o_loadN (i := 0) [bV (srlHas most target ns cs gs ms key), sV ⟨#[]⟩, bV false] (by kernel_rfl) (by kernel_rfl) (by kernel_rfl)) (by kernel_rfl) rfl (by kernel_rfl) rfl ?_
      refine Sq.same [5] (l := [blkR b1 [bV false, sV ⟨#[]⟩, bV false] 27]) (o_store (i := 0) (v := .agg #[bV (srlHas most target ns cs gs ms key), sV ⟨#[]⟩, bV false]) (by kernel_rfl) (by kernel_rfl) (by kernel_rfl) (by kernel_rfl) (by kernel_rfl)) (by kernel_rfl) rfl (by kernel_rfl) rfl ?_
      refine Sq.done ?_
      refine Ex'.next ?_
      refine Cd.ret ?_
      refine Ex'.blockRet ?_
      refine Ex'.thenRet ?_
      refine Ex'.ret Try.results37 (RVs.cellN (i := 0) (b := b1) (l := [bV (srlHas most target ns cs gs ms key), sV ⟨#[]⟩, bV false]) (E := 27) [bV (srlHas most target ns cs gs ms key), sV ⟨#[]⟩, bV false] 5 (by kernel_rfl) (by kernel_rfl) (by kernel_rfl) (by kernel_rfl) (RVs.nil)) (fun w hw => ?_)
      have e : srlReq most target ns cs gs ms key = (target, ns, fr cs key, gs, ms, srlHas most target ns cs gs ms key, ⟨#[]⟩, false) := by unfold srlReq; rw [if_neg h4, if_pos h5]
      rw [e]
      exact ⟨_, ⟨rfl, rfl⟩, (((hw.conv 1 (R := llR nb ns n) (R' := llR nb ns n') (by kernel_rfl) (llR.up (by omega))).conv 2 (R := llR ab (fr cs key) (n + 1)) (R' := llR ab (fr cs key) n') (by kernel_rfl) (llR.up (by omega))).conv 3 (R := llR gb gs n) (R' := llR gb gs n') (by kernel_rfl) (llR.up (by omega))).pickB [0, 1, 2, 3, 4] (by kernel_rfl) (by kernel_rfl) (by kernel_rfl)⟩
    ·
      refine Cd.seq ?_
      refine Cd.region rfl ?_
      refine Sq.vals [0] (rest := [1, 2]) [pV b2 0] (fun w => by kernel_rfl) ?_
      refine Sq.same [6] (l := [blkR b2 [bV (srlHas most target ns cs gs ms key), sV ⟨#[]⟩, bV false] 27]) (o_load (i := 0) (v := bV (srlHas most target ns cs gs ms key)) (by kernel_rfl) (by kernel_rfl) (by kernel_rfl)) (by kernel_rfl) rfl (by kernel_rfl) rfl ?_
      refine Sq.vals [2] (rest := []) [bV (srlHas most target ns cs gs ms key)] (fun w => by kernel_rfl) ?_
      refine Sq.done ?_
      refine Ex'.next ?_
      refine Cd.cond (t := srlHas most target ns cs gs ms key) (by kernel_rfl) (fun h6 => ?_) (fun h6 => ?_)
      ·
        refine Cd.seq ?_
        refine Cd.seq ?_
        refine Cd.region rfl ?_
        refine Sq.vals [0] (rest := [1]) [pV b3 1] (fun w => by kernel_rfl) ?_
        refine Sq.same [7] (l := [blkR b3 [bV (((lk ms key).getD (false, false)).1), bV (((lk ms key).getD (false, false)).2)] 85]) (o_load (i := 1) (v := bV (((lk ms key).getD (false, false)).2)) (by kernel_rfl) (by kernel_rfl) (by kernel_rfl)) (by kernel_rfl) rfl (by kernel_rfl) rfl ?_
        refine Sq.done ?_
        refine Ex'.next ?_
        refine Cd.cond (t := ((lk ms key).getD (false, false)).2) (by kernel_rfl) (fun h7 => ?_) (fun h7 => ?_)
        ·
          refine Cd.plan [0, 0, 2, 6, 14, 30, 0, 64, 192, 448, 1022, 2047, 4095, 8191] [(4, [(0, false, 0)]), (9, [(0, false, 0)]), (13, [(0, true, 0)])] [] [] [(0, 13, fun g => srlB b nb ab gb mb most (if most < target + 1 then most else target + 1))] [fun g => pV b 0, fun g => pV b 0, fun g => pV b 0, fun g => pV b 1, fun g => iV target, fun g => iV (target + 1), fun g => pV b 0, fun g => pV b 0, fun g => pV b 0, fun g => iV most, fun g => iV (if most < target + 1 then most else target + 1), fun g => pV b 0, fun g => pV b 1, fun g => undef] (by kernel_rfl) (by kernel_rfl) rfl (trivial) ?_ ?_
          · exact ⟨ob_val fun g w => by kernel_rfl, ob_val fun g w => by kernel_rfl, ob_val fun g w => by kernel_rfl, ob_val fun g w => by kernel_rfl, ob_s (l := fun g => [srlB b nb ab gb mb most target]) (l' := fun g => [srlB b nb ab gb mb most target]) (v := fun g => iV target) (fun g => o_load (i := 1) (v := iV target) (by kernel_rfl) (by kernel_rfl) (by kernel_rfl)) (fun g => by kernel_rfl), ob_v (v := fun g => iV (target + 1)) (fun g => o_add (k := .i64) (a := target) (b := 1) (c := target + 1) (by kernel_rfl) (by kernel_rfl) (w64 rfl (by omega))) (fun g => by kernel_rfl), ob_val fun g w => by kernel_rfl, ob_val fun g w => by kernel_rfl, ob_val fun g w => by kernel_rfl, ob_s (l := fun g => [srlB b nb ab gb mb most target]) (l' := fun g => [srlB b nb ab gb mb most target]) (v := fun g => iV most) (fun g => o_load (i := 0) (v := iV most) (by kernel_rfl) (by kernel_rfl) (by kernel_rfl)) (fun g => by kernel_rfl), ob_val fun g w => by kernel_rfl, ob_val fun g w => by kernel_rfl, ob_val fun g w => by kernel_rfl, ob_s (l := fun g => [srlB b nb ab gb mb most target]) (l' := fun g => [srlB b nb ab gb mb most (if most < target + 1 then most else target + 1)]) (v := fun g => undef) (fun g => o_store (i := 1) (v := iV (if most < target + 1 then most else target + 1)) (by kernel_rfl) (by kernel_rfl) (by kernel_rfl) (by kernel_rfl) (by kernel_rfl)) (fun g => by kernel_rfl), trivial⟩
          intro g
          refine Ex'.sub (subB_spec [0, 1, 4, 5, 7]) ?_
          refine Ex'.as [0, 1, 2, 3, 4, 5, 6, 7] (σ' := [(0, pV b 0), (1, sV key), (4, pV b1 0), (5, pV b2 0), (7, bV ((lk ms key).isSome))]) (Γ' := [srlB b nb ab gb mb most (if most < target + 1 then most else target + 1), llR nb ns n, llR ab cs n, llR gb gs n, mapR Value.string markV mb ms, blkR b1 [bV false, sV ⟨#[]⟩, bV false] 27, blkR b2 [bV (srlHas most target ns cs gs ms key), sV ⟨#[]⟩, bV false] 27, blkR b3 [bV (((lk ms key).getD (false, false)).1), bV (((lk ms key).getD (false, false)).2)] 85]) (by kernel_rfl) rfl (by kernel_rfl) (by kernel_rfl) ?_
          refine Ex'.next ?_
          refine Cd.seq ?_
          refine Cd.region rfl ?_
          refine Sq.vals [0, 1, 2] (rest := [3, 4, 5]) [pV b 0, pV b 0, pV b 2] (fun w => by kernel_rfl) ?_
          refine Sq.same [0] (l := [srlB b nb ab gb mb most (if most < target + 1 then most else target + 1)]) (o_load (i := 2) (v := pV nb 0) (by kernel_rfl) (by kernel_rfl) (by kernel_rfl)) (by kernel_rfl) rfl (by kernel_rfl) rfl ?_
          refine Sq.vals [4] (rest := [5]) [sV key] (fun w => by kernel_rfl) ?_
          refine Sq.same [1] (l := [llR nb ns n]) (o_call (by kernel_rfl) Try.call68 (t_Remove (ks := ns) (n := n) key (by omega))) (by kernel_rfl) rfl (by kernel_rfl) rfl ?_
          refine Sq.done ?_
          refine Ex'.next ?_
          refine Cd.seq ?_
          refine Cd.region rfl ?_
          refine Sq.vals [0, 1] (rest := [2]) [pV b 0, sV key] (fun w => by kernel_rfl) ?_
          refine Sq.same [0, 1, 2, 3, 4] (l := srlL b nb ab gb mb most (if most < target + 1 then most else target + 1) (rm ns key) cs gs ms n) (o_call (by kernel_rfl) Try.call70 (srl_again (n := n) (n' := n + cs.length + 2) (most := most) (target := (if most < target + 1 then most else target + 1)) (ns := rm ns key) (cs := cs) (gs := gs) (ms := ms) key (by omega) (by omega))) (by kernel_rfl) rfl (by kernel_rfl) rfl ?_
          refine Sq.done ?_
          refine Ex'.next ?_
          refine Cd.seq ?_
          refine Cd.region rfl ?_
          refine Sq.same [6] (l := [blkR b2 [bV (srlHas most target ns cs gs ms key), sV ⟨#[]⟩, bV false] 27]) (o_loadN (i := 0) [bV (srlHas most target ns cs gs ms key), sV ⟨#[]⟩, bV false] (by kernel_rfl) (by kernel_rfl) (by kernel_rfl)) (by kernel_rfl) rfl (by kernel_rfl) rfl ?_
          refine Sq.same [5] (l := [blkR b1 [bV false, sV ⟨#[]⟩, bV false] 27]) (o_store (i := 0) (v := .agg #[bV (srlHas most target ns cs gs ms key), sV ⟨#[]⟩, bV false]) (by kernel_rfl) (by kernel_rfl) (by kernel_rfl) (by kernel_rfl) (by kernel_rfl)) (by kernel_rfl) rfl (by kernel_rfl) rfl ?_
          refine Sq.done ?_
          refine Ex'.next ?_
          refine Cd.ret ?_
          refine Ex'.blockRet ?_
          refine Ex'.thenRet ?_
          refine Ex'.ret Try.results37 (RVs.cellN (i := 0) (b := b1) (l := [bV (srlHas most target ns cs gs ms key), sV ⟨#[]⟩, bV false]) (E := 27) [bV (srlHas most target ns cs gs ms key), sV ⟨#[]⟩, bV false] 5 (by kernel_rfl) (by kernel_rfl) (by kernel_rfl) (by kernel_rfl) (RVs.nil)) (fun w hw => ?_)
          have e : srlReq most target ns cs gs ms key = ((if most < target + 1 then most else target + 1), (srlAgain most (if most < target + 1 then most else target + 1) (rm ns key) cs gs ms key).1, (srlAgain most (if most < target + 1 then most else target + 1) (rm ns key) cs gs ms key).2.1, gs, (srlAgain most (if most < target + 1 then most else target + 1) (rm ns key) cs gs ms key).2.2, srlHas most target ns cs gs ms key, ⟨#[]⟩, false) := by unfold srlReq; rw [if_neg h4, if_neg h5, if_pos h6, if_pos h7]
          rw [e]
          exact ⟨_, ⟨rfl, rfl⟩, (((hw.conv 1 (R := llR nb ((srlAgain most (if most < target + 1 then most else target + 1) (rm ns key) cs gs ms key).1) (n + cs.length + 2)) (R' := llR nb ((srlAgain most (if most < target + 1 then most else target + 1) (rm ns key) cs gs ms key).1) n') (by kernel_rfl) (llR.up (by omega))).conv 2 (R := llR ab ((srlAgain most (if most < target + 1 then most else target + 1) (rm ns key) cs gs ms key).2.1) (n + cs.length + 2)) (R' := llR ab ((srlAgain most (if most < target + 1 then most else target + 1) (rm ns key) cs gs ms key).2.1) n') (by kernel_rfl) (llR.up (by omega))).conv 3 (R := llR gb gs (n + cs.length + 2)) (R' := llR gb gs n') (by kernel_rfl) (llR.up (by omega))).pickB [0, 1, 2, 3, 4] (by kernel_rfl) (by kernel_rfl) (by kernel_rfl)⟩
        ·
          refine Cd.skip ?_
          refine Ex'.next ?_
          refine Cd.seq ?_
          refine Cd.region rfl ?_
          refine Sq.vals [0, 1, 2] (rest := [3, 4, 5]) [pV b 0, pV b 0, pV b 2] (fun w => by kernel_rfl) ?_
          refine Sq.same [0] (l := [srlB b nb ab gb mb most target]) (o_load (i := 2) (v := pV nb 0) (by kernel_rfl) (by kernel_rfl) (by kernel_rfl)) (by kernel_rfl) rfl (by kernel_rfl) rfl ?_
          refine Sq.vals [4] (rest := [5]) [sV key] (fun w => by kernel_rfl) ?_
          refine Sq.same [1] (l := [llR nb ns n]) (o_call (by kernel_rfl) Try.call68 (t_Remove (ks := ns) (n := n) key (by omega))) (by kernel_rfl) rfl (by kernel_rfl) rfl ?_
          refine Sq.done ?_
          refine Ex'.next ?_
          refine Cd.seq ?_
          refine Cd.region rfl ?_
          refine Sq.vals [0, 1] (rest := [2]) [pV b 0, sV key] (fun w => by kernel_rfl) ?_
          refine Sq.same [0, 1, 2, 3, 4] (l := srlL b nb ab gb mb most target (rm ns key) cs gs ms n) (o_call (by kernel_rfl) Try.call70 (srl_again (n := n) (n' := n + cs.length + 2) (most := most) (target := target) (ns := rm ns key) (cs := cs) (gs := gs) (ms := ms) key (by omega) (by omega))) (by kernel_rfl) rfl (by kernel_rfl) rfl ?_
          refine Sq.done ?_
          refine Ex'.next ?_
          refine Cd.seq ?_
          refine Cd.region rfl ?_
          refine Sq.same [6] (l := [blkR b2 [bV (srlHas most target ns cs gs ms key), sV ⟨#[]⟩, bV false] 27]) (o_loadN (i := 0) [bV (srlHas most target ns cs gs ms key), sV ⟨#[]⟩, bV false] (by kernel_rfl) (by kernel_rfl) (by kernel_rfl)) (by kernel_rfl) rfl (by kernel_rfl) rfl ?_
          refine Sq.same [5] (l := [blkR b1 [bV false, sV ⟨#[]⟩, bV false] 27]) (o_store (i := 0) (v := .agg #[bV (srlHas most target ns cs gs ms key), sV ⟨#[]⟩, bV false]) (by kernel_rfl) (by kernel_rfl) (by kernel_rfl) (by kernel_rfl) (by kernel_rfl)) (by kernel_rfl) rfl (by kernel_rfl) rfl ?_
          refine Sq.done ?_
          refine Ex'.next ?_
          refine Cd.ret ?_
          refine Ex'.blockRet ?_
          refine Ex'.thenRet ?_
          refine Ex'.ret Try.results37 (RVs.cellN (i := 0) (b := b1) (l := [bV (srlHas most target ns cs gs ms key), sV ⟨#[]⟩, bV false]) (E := 27) [bV (srlHas most target ns cs gs ms key), sV ⟨#[]⟩, bV false] 5 (by kernel_rfl) (by kernel_rfl) (by kernel_rfl) (by kernel_rfl) (RVs.nil)) (fun w hw => ?_)
          have e : srlReq most target ns cs gs ms key = (target, (srlAgain most target (rm ns key) cs gs ms key).1, (srlAgain most target (rm ns key) cs gs ms key).2.1, gs, (srlAgain most target (rm ns key) cs gs ms key).2.2, srlHas most target ns cs gs ms key, ⟨#[]⟩, false) := by unfold srlReq; rw [if_neg h4, if_neg h5, if_pos h6, if_neg (Bool.eq_false_iff.1 h7)]
          rw [e]
          exact ⟨_, ⟨rfl, rfl⟩, (((hw.conv 1 (R := llR nb ((srlAgain most target (rm ns key) cs gs ms key).1) (n + cs.length + 2)) (R' := llR nb ((srlAgain most target (rm ns key) cs gs ms key).1) n') (by kernel_rfl) (llR.up (by omega))).conv 2 (R := llR ab ((srlAgain most target (rm ns key) cs gs ms key).2.1) (n + cs.length + 2)) (R' := llR ab ((srlAgain most target (rm ns key) cs gs ms key).2.1) n') (by kernel_rfl) (llR.up (by omega))).conv 3 (R := llR gb gs (n + cs.length + 2)) (R' := llR gb gs n') (by kernel_rfl) (llR.up (by omega))).pickB [0, 1, 2, 3, 4] (by kernel_rfl) (by kernel_rfl) (by kernel_rfl)⟩
      ·
        refine Cd.seq ?_
        refine Cd.region rfl ?_
        refine Sq.vals [0, 1] (rest := [2, 3, 4, 5, 6, 7, 8, 9, 10, 11, 12, 13]) [bV ((lk ms key).isSome), bV ((lk ms key).isSome)] (fun w => by kernel_rfl) ?_
        refine Sq.caseB 72 (t := (lk ms key).isSome) rfl (fun h8 => ?_) (fun h8 => ?_)
        ·
          refine Sq.vals [2] (rest := [3, 4, 5, 6, 7, 8, 9, 10, 11, 12, 13]) [pV b3 0] (fun w => by kernel_rfl) ?_
          refine Sq.same [7] (l := [blkR b3 [bV (((lk ms key).getD (false, false)).1), bV (((lk ms key).getD (false, false)).2)] 85]) (o_load (i := 0) (v := bV (((lk ms key).getD (false, false)).1)) (by kernel_rfl) (by kernel_rfl) (by kernel_rfl)) (by kernel_rfl) rfl (by kernel_rfl) rfl ?_
          refine Sq.vals [4, 5, 6] (rest := [7, 8, 9, 10, 11, 12, 13]) [bV (!(((lk ms key).getD (false, false)).1)), bV (!(((lk ms key).getD (false, false)).1)), bV (!(((lk ms key).getD (false, false)).1))] (fun w => by kernel_rfl) ?_
          refine Sq.caseB 77 (t := (!(((lk ms key).getD (false, false)).1))) rfl (fun h9 => ?_) (fun h9 => ?_)
          ·
            refine Sq.vals [7, 8, 9] (rest := [10, 11, 12, 13]) [pV b 0, pV b 0, pV b 1] (fun w => by kernel_rfl) ?_
            refine Sq.same [0] (l := [srlB b nb ab gb mb most target]) (o_load (i := 1) (v := iV target) (by kernel_rfl) (by kernel_rfl) (by kernel_rfl)) (by kernel_rfl) rfl (by kernel_rfl) rfl ?_
            refine Sq.vals [11, 12, 13] (rest := []) [bV (decide (target > 1)), bV (decide (target > 1)), bV (decide (target > 1))] (fun w => by kernel_rfl) ?_
            refine Sq.done ?_
            refine Ex'.next ?_
            refine Cd.case (p := target > 1) (by kernel_rfl) (fun h10 => ?_) (fun h10 => ?_)
            ·
              refine Cd.region rfl ?_
              refine Sq.vals [0, 1, 2] (rest := [3, 4, 5, 6, 7]) [pV b 0, pV b 0, pV b 1] (fun w => by kernel_rfl) ?_
              refine Sq.same [0] (l := [srlB b nb ab gb mb most target]) (o_load (i := 1) (v := iV target) (by kernel_rfl) (by kernel_rfl) (by kernel_rfl)) (by kernel_rfl) rfl (by kernel_rfl) rfl ?_
              refine Sq.v (r := iV (target - 1)) (o_sub (k := .i64) (a := target) (b := 1) (c := target - 1) (by kernel_rfl) (by kernel_rfl) (w64 rfl (by omega))) rfl (by kernel_rfl) ?_
              refine Sq.vals [5, 6] (rest := [7]) [pV b 0, pV b 1] (fun w => by kernel_rfl) ?_
              refine Sq.same [0] (l := [srlB b nb ab gb mb most target]) (o_store (i := 1) (v := iV (target - 1)) (by kernel_rfl) (by kernel_rfl) (by kernel_rfl) (by kernel_rfl) (by kernel_rfl)) (by kernel_rfl) rfl (by kernel_rfl) rfl ?_
              refine Sq.done ?_
              refine Ex'.blockNormal ?_
              refine Ex'.next ?_
              refine Cd.seq ?_
              refine Cd.region rfl ?_
              refine Sq.vals [0, 1, 2] (rest := [3, 4, 5]) [pV b 0, pV b 0, pV b 4] (fun w => by kernel_rfl) ?_
              refine Sq.same [0] (l := [srlB b nb ab gb mb most (target - 1)]) (o_load (i := 4) (v := pV gb 0) (by kernel_rfl) (by kernel_rfl) (by kernel_rfl)) (by kernel_rfl) rfl (by kernel_rfl) rfl ?_
              refine Sq.vals [4] (rest := [5]) [sV key] (fun w => by kernel_rfl) ?_
              refine Sq.same [3] (l := [llR gb gs n]) (o_call (by kernel_rfl) Try.call68 (t_Remove (ks := gs) (n := n) key (by omega))) (by kernel_rfl) rfl (by kernel_rfl) rfl ?_
              refine Sq.done ?_
              refine Ex'.next ?_
              refine Cd.seq ?_
              refine Cd.seq ?_
              refine Cd.plan [0, 1, 0, 4, 12, 28, 63] [(1, [(0, false, 0), (1, false, 0), (2, false, 0), (3, false, 0), (4, false, 0)]), (5, [(0, false, 0)])] [] [] [] [fun g => pV b 0, fun g => iV (srlLen most (target - 1) ns cs (rm gs key) ms), fun g => pV b 0, fun g => pV b 0, fun g => pV b 0, fun g => iV most, fun g => bV (decide (srlLen most (target - 1) ns cs (rm gs key) ms ≥ most))] (by kernel_rfl) (by kernel_rfl) rfl (trivial) ?_ ?_
              · exact ⟨ob_val fun g w => by kernel_rfl, ob_s (l := fun g => [srlB b nb ab gb mb most (target - 1), llR nb ns n, llR ab cs n, llR gb (rm gs key) n, mapR Value.string markV mb ms]) (l' := fun g => [srlB b nb ab gb mb most (target - 1), llR nb ns n, llR ab cs n, llR gb (rm gs key) n, mapR Value.string markV mb ms]) (v := fun g => iV (srlLen most (target - 1) ns cs (rm gs key) ms)) (fun g => o_call (by kernel_rfl) Try.call40 (srl_Len (n := n) (most := most) (target := target - 1) (ns := ns) (cs := cs) (gs := rm gs key) (ms := ms) (by omega))) (fun g => by kernel_rfl), ob_val fun g w => by kernel_rfl, ob_val fun g w => by kernel_rfl, ob_val fun g w => by kernel_rfl, ob_s (l := fun g => [srlB b nb ab gb mb most (target - 1)]) (l' := fun g => [srlB b nb ab gb mb most (target - 1)]) (v := fun g => iV most) (fun g => o_load (i := 0) (v := iV most) (by kernel_rfl) (by kernel_rfl) (by kernel_rfl)) (fun g => by kernel_rfl), ob_val fun g w => by kernel_rfl, trivial⟩
              intro g
              refine Ex'.sub (subB_spec [0, 1, 4, 5, 7, 103]) ?_
              refine Ex'.as [0, 1, 2, 3, 4, 5, 6, 7] (σ' := [(0, pV b 0), (1, sV key), (4, pV b1 0), (5, pV b2 0), (7, bV ((lk ms key).isSome)), (103, bV (decide (srlLen most (target - 1) ns cs (rm gs key) ms ≥ most)))]) (Γ' := [srlB b nb ab gb mb most (target - 1), llR nb ns n, llR ab cs n, llR gb (rm gs key) n, mapR Value.string markV mb ms, blkR b1 [bV false, sV ⟨#[]⟩, bV false] 27, blkR b2 [bV (srlHas most target ns cs gs ms key), sV ⟨#[]⟩, bV false] 27, blkR b3 [bV (((lk ms key).getD (false, false)).1), bV (((lk ms key).getD (false, false)).2)] 85]) (by kernel_rfl) rfl (by kernel_rfl) (by kernel_rfl) ?_
              refine Ex'.next ?_
              refine Cd.case (p := srlLen most (target - 1) ns cs (rm gs key) ms ≥ most) (by kernel_rfl) (fun h11 => ?_) (fun h11 => ?_)
              ·
                refine Cd.region rfl ?_
                refine Sq.vals [0] (rest := [1, 2, 3, 4, 5, 6, 7, 8]) [pV b 0] (fun w => by kernel_rfl) ?_
                refine Sq.same [0, 1, 2, 3, 4] (l := srlL b nb ab gb mb most (target - 1) ns cs (rm gs key) ms n) (o_call (by kernel_rfl) Try.call71 (srl_evict (n := n) (n' := n + 1) (most := most) (target := target - 1) (ns := ns) (cs := cs) (gs := rm gs key) (ms := ms) (by omega) (by omega) (by omega))) (by kernel_rfl) rfl (by kernel_rfl) rfl ?_
                have q12 := srlEvict_cs most (target - 1) ns cs (rm gs key) ms
                refine Sq.vals [2, 3, 4, 5] (rest := [6, 7, 8]) [.tuple #[sV ((srlEvict most (target - 1) ns cs (rm gs key) ms).2.2.2.2.1), bV ((srlEvict most (target - 1) ns cs (rm gs key) ms).2.2.2.2.2)], sV ((srlEvict most (target - 1) ns cs (rm gs key) ms).2.2.2.2.1), bV ((srlEvict most (target - 1) ns cs (rm gs key) ms).2.2.2.2.2), pV b2 1] (fun w => by kernel_rfl) ?_
                refine Sq.same [6] (l := [blkR b2 [bV (srlHas most target ns cs gs ms key), sV ⟨#[]⟩, bV false] 27]) (o_store (i := 1) (v := sV ((srlEvict most (target - 1) ns cs (rm gs key) ms).2.2.2.2.1)) (by kernel_rfl) (by kernel_rfl) (by kernel_rfl) (by kernel_rfl) (by kernel_rfl)) (by kernel_rfl) rfl (by kernel_rfl) rfl ?_
                refine Sq.vals [7] (rest := [8]) [pV b2 2] (fun w => by kernel_rfl) ?_
                refine Sq.same [6] (l := [blkR b2 [bV (srlHas most target ns cs gs ms key), sV ((srlEvict most (target - 1) ns cs (rm gs key) ms).2.2.2.2.1), bV false] 27]) (o_store (i := 2) (v := bV ((srlEvict most (target - 1) ns cs (rm gs key) ms).2.2.2.2.2)) (by kernel_rfl) (by kernel_rfl) (by kernel_rfl) (by kernel_rfl) (by kernel_rfl)) (by kernel_rfl) rfl (by kernel_rfl) rfl ?_
                refine Sq.done ?_
                refine Ex'.next ?_
                refine Cd.seq ?_
                refine Cd.seq ?_
                refine Cd.region rfl ?_
                refine Sq.vals [0] (rest := []) [bV ((lk ms key).isSome)] (fun w => by kernel_rfl) ?_
                refine Sq.done ?_
                refine Ex'.next ?_
                refine Cd.condT (by rw [show ev _ _ = some (.bool ((lk ms key).isSome)) from by kernel_rfl, show (lk ms key).isSome = true from h8]) ?_
                refine Cd.seq ?_
                refine Cd.region rfl ?_
                refine Sq.vals [0, 1] (rest := [2]) [pV b 0, sV key] (fun w => by kernel_rfl) ?_
                refine Sq.same [0, 1, 2, 3, 4] (l := srlL b nb ab gb mb most (target - 1) ((srlEvict most (target - 1) ns cs (rm gs key) ms).1) ((srlEvict most (target - 1) ns cs (rm gs key) ms).2.1) ((srlEvict most (target - 1) ns cs (rm gs key) ms).2.2.1) ((srlEvict most (target - 1) ns cs (rm gs key) ms).2.2.2.1) (n + 1)) (o_call (by kernel_rfl) Try.call70 (srl_again (n := n + 1) (n' := n + ((srlEvict most (target - 1) ns cs (rm gs key) ms).2.1).length + 3) (most := most) (target := target - 1) (ns := (srlEvict most (target - 1) ns cs (rm gs key) ms).1) (cs := (srlEvict most (target - 1) ns cs (rm gs key) ms).2.1) (gs := (srlEvict most (target - 1) ns cs (rm gs key) ms).2.2.1) (ms := (srlEvict most (target - 1) ns cs (rm gs key) ms).2.2.2.1) key (by omega) (by omega))) (by kernel_rfl) rfl (by kernel_rfl) rfl ?_
                refine Sq.done ?_
                refine Ex'.next ?_
                refine Cd.seq ?_
                refine Cd.region rfl ?_
                refine Sq.same [6] (l := [blkR b2 [bV (srlHas most target ns cs gs ms key), sV ((srlEvict most (target - 1) ns cs (rm gs key) ms).2.2.2.2.1), bV ((srlEvict most (target - 1) ns cs (rm gs key) ms).2.2.2.2.2)] 27]) (o_loadN (i := 0) [bV (srlHas most target ns cs gs ms key), sV ((srlEvict most (target - 1) ns cs (rm gs key) ms).2.2.2.2.1), bV ((srlEvict most (target - 1) ns cs (rm gs key) ms).2.2.2.2.2)] (by kernel_rfl) (by kernel_rfl) (by kernel_rfl)) (by kernel_rfl) rfl (by kernel_rfl) rfl ?_
                refine Sq.same [5] (l := [blkR b1 [bV false, sV ⟨#[]⟩, bV false] 27]) (o_store (i := 0) (v := .agg #[bV (srlHas most target ns cs gs ms key), sV ((srlEvict most (target - 1) ns cs (rm gs key) ms).2.2.2.2.1), bV ((srlEvict most (target - 1) ns cs (rm gs key) ms).2.2.2.2.2)]) (by kernel_rfl) (by kernel_rfl) (by kernel_rfl) (by kernel_rfl) (by kernel_rfl)) (by kernel_rfl) rfl (by kernel_rfl) rfl ?_
                refine Sq.done ?_
                refine Ex'.next ?_
                refine Cd.ret ?_
                refine Ex'.thenRet ?_
                refine Ex'.ret Try.results37 (RVs.cellN (i := 0) (b := b1) (l := [bV (srlHas most target ns cs gs ms key), sV ((srlEvict most (target - 1) ns cs (rm gs key) ms).2.2.2.2.1), bV ((srlEvict most (target - 1) ns cs (rm gs key) ms).2.2.2.2.2)]) (E := 27) [bV (srlHas most target ns cs gs ms key), sV ((srlEvict most (target - 1) ns cs (rm gs key) ms).2.2.2.2.1), bV ((srlEvict most (target - 1) ns cs (rm gs key) ms).2.2.2.2.2)] 5 (by kernel_rfl) (by kernel_rfl) (by kernel_rfl) (by kernel_rfl) (RVs.nil)) (fun w hw => ?_)
                have e : srlReq most target ns cs gs ms key = (target - 1, (srlAgain most (target - 1) ((srlEvict most (target - 1) ns cs (rm gs key) ms).1) ((srlEvict most (target - 1) ns cs (rm gs key) ms).2.1) ((srlEvict most (target - 1) ns cs (rm gs key) ms).2.2.1) ((srlEvict most (target - 1) ns cs (rm gs key) ms).2.2.2.1) key).1, (srlAgain most (target - 1) ((srlEvict most (target - 1) ns cs (rm gs key) ms).1) ((srlEvict most (target - 1) ns cs (rm gs key) ms).2.1) ((srlEvict most (target - 1) ns cs (rm gs key) ms).2.2.1) ((srlEvict most (target - 1) ns cs (rm gs key) ms).2.2.2.1) key).2.1, (srlEvict most (target - 1) ns cs (rm gs key) ms).2.2.1, (srlAgain most (target - 1) ((srlEvict most (target - 1) ns cs (rm gs key) ms).1) ((srlEvict most (target - 1) ns cs (rm gs key) ms).2.1) ((srlEvict most (target - 1) ns cs (rm gs key) ms).2.2.1) ((srlEvict most (target - 1) ns cs (rm gs key) ms).2.2.2.1) key).2.2, srlHas most target ns cs gs ms key, (srlEvict most (target - 1) ns cs (rm gs key) ms).2.2.2.2.1, (srlEvict most (target - 1) ns cs (rm gs key) ms).2.2.2.2.2) := by unfold srlReq; rw [if_neg h4, if_neg h5, if_neg (Bool.eq_false_iff.1 h6), if_pos h8, if_pos h9, if_pos h10, if_pos h11]
                rw [e]
                exact ⟨_, ⟨rfl, rfl⟩, (((hw.conv 1 (R := llR nb ((srlAgain most (target - 1) ((srlEvict most (target - 1) ns cs (rm gs key) ms).1) ((srlEvict most (target - 1) ns cs (rm gs key) ms).2.1) ((srlEvict most (target - 1) ns cs (rm gs key) ms).2.2.1) ((srlEvict most (target - 1) ns cs (rm gs key) ms).2.2.2.1) key).1) (n + ((srlEvict most (target - 1) ns cs (rm gs key) ms).2.1).length + 3)) (R' := llR nb ((srlAgain most (target - 1) ((srlEvict most (target - 1) ns cs (rm gs key) ms).1) ((srlEvict most (target - 1) ns cs (rm gs key) ms).2.1) ((srlEvict most (target - 1) ns cs (rm gs key) ms).2.2.1) ((srlEvict most (target - 1) ns cs (rm gs key) ms).2.2.2.1) key).1) n') (by kernel_rfl) (llR.up (by omega))).conv 2 (R := llR ab ((srlAgain most (target - 1) ((srlEvict most (target - 1) ns cs (rm gs key) ms).1) ((srlEvict most (target - 1) ns cs (rm gs key) ms).2.1) ((srlEvict most (target - 1) ns cs (rm gs key) ms).2.2.1) ((srlEvict most (target - 1) ns cs (rm gs key) ms).2.2.2.1) key).2.1) (n + ((srlEvict most (target - 1) ns cs (rm gs key) ms).2.1).length + 3)) (R' := llR ab ((srlAgain most (target - 1) ((srlEvict most (target - 1) ns cs (rm gs key) ms).1) ((srlEvict most (target - 1) ns cs (rm gs key) ms).2.1) ((srlEvict most (target - 1) ns cs (rm gs key) ms).2.2.1) ((srlEvict most (target - 1) ns cs (rm gs key) ms).2.2.2.1) key).2.1) n') (by kernel_rfl) (llR.up (by omega))).conv 3 (R := llR gb ((srlEvict most (target - 1) ns cs (rm gs key) ms).2.2.1) (n + ((srlEvict most (target - 1) ns cs (rm gs key) ms).2.1).length + 3)) (R' := llR gb ((srlEvict most (target - 1) ns cs (rm gs key) ms).2.2.1) n') (by kernel_rfl) (llR.up (by omega))).pickB [0, 1, 2, 3, 4] (by kernel_rfl) (by kernel_rfl) (by kernel_rfl)⟩
              ·
                refine Cd.skip ?_
                refine Ex'.next ?_
                refine Cd.seq ?_
                refine Cd.seq ?_
                refine Cd.region rfl ?_
                refine Sq.vals [0] (rest := []) [bV ((lk ms key).isSome)] (fun w => by kernel_rfl) ?_
                refine Sq.done ?_
                refine Ex'.next ?_
                refine Cd.condT (by rw [show ev _ _ = some (.bool ((lk ms key).isSome)) from by kernel_rfl, show (lk ms key).isSome = true from h8]) ?_
                refine Cd.seq ?_
                refine Cd.region rfl ?_
                refine Sq.vals [0, 1] (rest := [2]) [pV b 0, sV key] (fun w => by kernel_rfl) ?_
                refine Sq.same [0, 1, 2, 3, 4] (l := srlL b nb ab gb mb most (target - 1) ns cs (rm gs key) ms n) (o_call (by kernel_rfl) Try.call70 (srl_again (n := n) (n' := n + cs.length + 2) (most := most) (target := target - 1) (ns := ns) (cs := cs) (gs := rm gs key) (ms := ms) key (by omega) (by omega))) (by kernel_rfl) rfl (by kernel_rfl) rfl ?_
                refine Sq.done ?_
                refine Ex'.next ?_
                refine Cd.seq ?_
                refine Cd.region rfl ?_
                refine Sq.same [6] (l := [blkR b2 [bV (srlHas most target ns cs gs ms key), sV ⟨#[]⟩, bV false] 27]) (o_loadN (i := 0) [bV (srlHas most target ns cs gs ms key), sV ⟨#[]⟩, bV false] (by kernel_rfl) (by kernel_rfl) (by kernel_rfl)) (by kernel_rfl) rfl (by kernel_rfl) rfl ?_
                refine Sq.same [5] (l := [blkR b1 [bV false, sV ⟨#[]⟩, bV false] 27]) (o_store (i := 0) (v := .agg #[bV (srlHas most target ns cs gs ms key), sV ⟨#[]⟩, bV false]) (by kernel_rfl) (by kernel_rfl) (by kernel_rfl) (by kernel_rfl) (by kernel_rfl)) (by kernel_rfl) rfl (by kernel_rfl) rfl ?_
                refine Sq.done ?_
                refine Ex'.next ?_
                refine Cd.ret ?_
                refine Ex'.thenRet ?_
                refine Ex'.ret Try.results37 (RVs.cellN (i := 0) (b := b1) (l := [bV (srlHas most target ns cs gs ms key), sV ⟨#[]⟩, bV false]) (E := 27) [bV (srlHas most target ns cs gs ms key), sV ⟨#[]⟩, bV false] 5 (by kernel_rfl) (by kernel_rfl) (by kernel_rfl) (by kernel_rfl) (RVs.nil)) (fun w hw => ?_)
                have e : srlReq most target ns cs gs ms key = (target - 1, (srlAgain most (target - 1) ns cs (rm gs key) ms key).1, (srlAgain most (target - 1) ns cs (rm gs key) ms key).2.1, rm gs key, (srlAgain most (target - 1) ns cs (rm gs key) ms key).2.2, srlHas most target ns cs gs ms key, ⟨#[]⟩, false) := by unfold srlReq; rw [if_neg h4, if_neg h5, if_neg (Bool.eq_false_iff.1 h6), if_pos h8, if_pos h9, if_pos h10, if_neg h11]
                rw [e]
                exact ⟨_, ⟨rfl, rfl⟩, (((hw.conv 1 (R := llR nb ((srlAgain most (target - 1) ns cs (rm gs key) ms key).1) (n + cs.length + 2)) (R' := llR nb ((srlAgain most (target - 1) ns cs (rm gs key) ms key).1) n') (by kernel_rfl) (llR.up (by omega))).conv 2 (R := llR ab ((srlAgain most (target - 1) ns cs (rm gs key) ms key).2.1) (n + cs.length + 2)) (R' := llR ab ((srlAgain most (target - 1) ns cs (rm gs key) ms key).2.1) n') (by kernel_rfl) (llR.up (by omega))).conv 3 (R := llR gb (rm gs key) (n + cs.length + 2)) (R' := llR gb (rm gs key) n') (by kernel_rfl) (llR.up (by omega))).pickB [0, 1, 2, 3, 4] (by kernel_rfl) (by kernel_rfl) (by kernel_rfl)⟩
            ·
              refine Cd.skip ?_
              refine Ex'.blockNormal ?_
              refine Ex'.next ?_
              refine Cd.seq ?_
              refine Cd.region rfl ?_
              refine Sq.vals [0, 1, 2] (rest := [3, 4, 5]) [pV b 0, pV b 0, pV b 4] (fun w => by kernel_rfl) ?_
              refine Sq.same [0] (l := [srlB b nb ab gb mb most target]) (o_load (i := 4) (v := pV gb 0) (by kernel_rfl) (by kernel_rfl) (by kernel_rfl)) (by kernel_rfl) rfl (by kernel_rfl) rfl ?_
              refine Sq.vals [4] (rest := [5]) [sV key] (fun w => by kernel_rfl) ?_
              refine Sq.same [3] (l := [llR gb gs n]) (o_call (by kernel_rfl) Try.call68 (t_Remove (ks := gs) (n := n) key (by omega))) (by kernel_rfl) rfl (by kernel_rfl) rfl ?_
              refine Sq.done ?_
              refine Ex'.next ?_
              refine Cd.seq ?_
              refine Cd.seq ?_
              refine Cd.plan [0, 1, 0, 4, 12, 28, 63] [(1, [(0, false, 0), (1, false, 0), (2, false, 0), (3, false, 0), (4, false, 0)]), (5, [(0, false, 0)])] [] [] [] [fun g => pV b 0, fun g => iV (srlLen most target ns cs (rm gs key) ms), fun g => pV b 0, fun g => pV b 0, fun g => pV b 0, fun g => iV most, fun g => bV (decide (srlLen most target ns cs (rm gs key) ms ≥ most))] (by kernel_rfl) (by kernel_rfl) rfl (trivial) ?_ ?_
              · exact ⟨ob_val fun g w => by kernel_rfl, ob_s (l := fun g => [srlB b nb ab gb mb most target, llR nb ns n, llR ab cs n, llR gb (rm gs key) n, mapR Value.string markV mb ms]) (l' := fun g => [srlB b nb ab gb mb most target, llR nb ns n, llR ab cs n, llR gb (rm gs key) n, mapR Value.string markV mb ms]) (v := fun g => iV (srlLen most target ns cs (rm gs key) ms)) (fun g => o_call (by kernel_rfl) Try.call40 (srl_Len (n := n) (most := most) (target := target) (ns := ns) (cs := cs) (gs := rm gs key) (ms := ms) (by omega))) (fun g => by kernel_rfl), ob_val fun g w => by kernel_rfl, ob_val fun g w => by kernel_rfl, ob_val fun g w => by kernel_rfl, ob_s (l := fun g => [srlB b nb ab gb mb most target]) (l' := fun g => [srlB b nb ab gb mb most target]) (v := fun g => iV most) (fun g => o_load (i := 0) (v := iV most) (by kernel_rfl) (by kernel_rfl) (by kernel_rfl)) (fun g => by kernel_rfl), ob_val fun g w => by kernel_rfl, trivial⟩
              intro g
              refine Ex'.sub (subB_spec [0, 1, 4, 5, 7, 103]) ?_
              refine Ex'.as [0, 1, 2, 3, 4, 5, 6, 7] (σ' := [(0, pV b 0), (1, sV key), (4, pV b1 0), (5, pV b2 0), (7, bV ((lk ms key).isSome)), (103, bV (decide (srlLen most target ns cs (rm gs key) ms ≥ most)))]) (Γ' := [srlB b nb ab gb mb most target, llR nb ns n, llR ab cs n, llR gb (rm gs key) n, mapR Value.string markV mb ms, blkR b1 [bV false, sV ⟨#[]⟩, bV false] 27, blkR b2 [bV (srlHas most target ns cs gs ms key), sV ⟨#[]⟩, bV false] 27, blkR b3 [bV (((lk ms key).getD (false, false)).1), bV (((lk ms key).getD (false, false)).2)] 85]) (by kernel_rfl) rfl (by kernel_rfl) (by kernel_rfl) ?_
              refine Ex'.next ?_
              refine Cd.case (p := srlLen most target ns cs (rm gs key) ms ≥ most) (by kernel_rfl) (fun h15 => ?_) (fun h15 => ?_)
              ·
                refine Cd.region rfl ?_
                refine Sq.vals [0] (rest := [1, 2, 3, 4, 5, 6, 7, 8]) [pV b 0] (fun w => by kernel_rfl) ?_
                refine Sq.same [0, 1, 2, 3, 4] (l := srlL b nb ab gb mb most target ns cs (rm gs key) ms n) (o_call (by kernel_rfl) Try.call71 (srl_evict (n := n) (n' := n + 1) (most := most) (target := target) (ns := ns) (cs := cs) (gs := rm gs key) (ms := ms) (by omega) (by omega) (by omega))) (by kernel_rfl) rfl (by kernel_rfl) rfl ?_
                have q16 := srlEvict_cs most target ns cs (rm gs key) ms
                refine Sq.vals [2, 3, 4, 5] (rest := [6, 7, 8]) [.tuple #[sV ((srlEvict most target ns cs (rm gs key) ms).2.2.2.2.1), bV ((srlEvict most target ns cs (rm gs key) ms).2.2.2.2.2)], sV ((srlEvict most target ns cs (rm gs key) ms).2.2.2.2.1), bV ((srlEvict most target ns cs (rm gs key) ms).2.2.2.2.2), pV b2 1] (fun w => by kernel_rfl) ?_
                refine Sq.same [6] (l := [blkR b2 [bV (srlHas most target ns cs gs ms key), sV ⟨#[]⟩, bV false] 27]) (o_store (i := 1) (v := sV ((srlEvict most target ns cs (rm gs key) ms).2.2.2.2.1)) (by kernel_rfl) (by kernel_rfl) (by kernel_rfl) (by kernel_rfl) (by kernel_rfl)) (by kernel_rfl) rfl (by kernel_rfl) rfl ?_
                refine Sq.vals [7] (rest := [8]) [pV b2 2] (fun w => by kernel_rfl) ?_
                refine Sq.same [6] (l := [blkR b2 [bV (srlHas most target ns cs gs ms key), sV ((srlEvict most target ns cs (rm gs key) ms).2.2.2.2.1), bV false] 27]) (o_store (i := 2) (v := bV ((srlEvict most target ns cs (rm gs key) ms).2.2.2.2.2)) (by kernel_rfl) (by kernel_rfl) (by kernel_rfl) (by kernel_rfl) (by kernel_rfl)) (by kernel_rfl) rfl (by kernel_rfl) rfl ?_
                refine Sq.done ?_
                refine Ex'.next ?_
                refine Cd.seq ?_
                refine Cd.seq ?_
                refine Cd.region rfl ?_
                refine Sq.vals [0] (rest := []) [bV ((lk ms key).isSome)] (fun w => by kernel_rfl) ?_
                refine Sq.done ?_
                refine Ex'.next ?_
                refine Cd.condT (by rw [show ev _ _ = some (.bool ((lk ms key).isSome)) from by kernel_rfl, show (lk ms key).isSome = true from h8]) ?_
                refine Cd.seq ?_
                refine Cd.region rfl ?_
                refine Sq.vals [0, 1] (rest := [2]) [pV b 0, sV key] (fun w => by kernel_rfl) ?_
                refine Sq.same [0, 1, 2, 3, 4] (l := srlL b nb ab gb mb most target ((srlEvict most target ns cs (rm gs key) ms).1) ((srlEvict most target ns cs (rm gs key) ms).2.1) ((srlEvict most target ns cs (rm gs key) ms).2.2.1) ((srlEvict most target ns cs (rm gs key) ms).2.2.2.1) (n + 1)) (o_call (by kernel_rfl) Try.call70 (srl_again (n := n + 1) (n' := n + ((srlEvict most target ns cs (rm gs key) ms).2.1).length + 3) (most := most) (target := target) (ns := (srlEvict most target ns cs (rm gs key) ms).1) (cs := (srlEvict most target ns cs (rm gs key) ms).2.1) (gs := (srlEvict most target ns cs (rm gs key) ms).2.2.1) (ms := (srlEvict most target ns cs (rm gs key) ms).2.2.2.1) key (by omega) (by omega))) (by kernel_rfl) rfl (by kernel_rfl) rfl ?_
                refine Sq.done ?_
                refine Ex'.next ?_
                refine Cd.seq ?_
                refine Cd.region rfl ?_
                refine Sq.same [6] (l := [blkR b2 [bV (srlHas most target ns cs gs ms key), sV ((srlEvict most target ns cs (rm gs key) ms).2.2.2.2.1), bV ((srlEvict most target ns cs (rm gs key) ms).2.2.2.2.2)] 27]) (o_loadN (i := 0) [bV (srlHas most target ns cs gs ms key), sV ((srlEvict most target ns cs (rm gs key) ms).2.2.2.2.1), bV ((srlEvict most target ns cs (rm gs key) ms).2.2.2.2.2)] (by kernel_rfl) (by kernel_rfl) (by kernel_rfl)) (by kernel_rfl) rfl (by kernel_rfl) rfl ?_
                refine Sq.same [5] (l := [blkR b1 [bV false, sV ⟨#[]⟩, bV false] 27]) (o_store (i := 0) (v := .agg #[bV (srlHas most target ns cs gs ms key), sV ((srlEvict most target ns cs (rm gs key) ms).2.2.2.2.1), bV ((srlEvict most target ns cs (rm gs key) ms).2.2.2.2.2)]) (by kernel_rfl) (by kernel_rfl) (by kernel_rfl) (by kernel_rfl) (by kernel_rfl)) (by kernel_rfl) rfl (by kernel_rfl) rfl ?_
                refine Sq.done ?_
                refine Ex'.next ?_
                refine Cd.ret ?_
                refine Ex'.thenRet ?_
                refine Ex'.ret Try.results37 (RVs.cellN (i := 0) (b := b1) (l := [bV (srlHas most target ns cs gs ms key), sV ((srlEvict most target ns cs (rm gs key) ms).2.2.2.2.1), bV ((srlEvict most target ns cs (rm gs key) ms).2.2.2.2.2)]) (E := 27) [bV (srlHas most target ns cs gs ms key), sV ((srlEvict most target ns cs (rm gs key) ms).2.2.2.2.1), bV ((srlEvict most target ns cs (rm gs key) ms).2.2.2.2.2)] 5 (by kernel_rfl) (by kernel_rfl) (by kernel_rfl) (by kernel_rfl) (RVs.nil)) (fun w hw => ?_)
                have e : srlReq most target ns cs gs ms key = (target, (srlAgain most target ((srlEvict most target ns cs (rm gs key) ms).1) ((srlEvict most target ns cs (rm gs key) ms).2.1) ((srlEvict most target ns cs (rm gs key) ms).2.2.1) ((srlEvict most target ns cs (rm gs key) ms).2.2.2.1) key).1, (srlAgain most target ((srlEvict most target ns cs (rm gs key) ms).1) ((srlEvict most target ns cs (rm gs key) ms).2.1) ((srlEvict most target ns cs (rm gs key) ms).2.2.1) ((srlEvict most target ns cs (rm gs key) ms).2.2.2.1) key).2.1, (srlEvict most target ns cs (rm gs key) ms).2.2.1, (srlAgain most target ((srlEvict most target ns cs (rm gs key) ms).1) ((srlEvict most target ns cs (rm gs key) ms).2.1) ((srlEvict most target ns cs (rm gs key) ms).2.2.1) ((srlEvict most target ns cs (rm gs key) ms).2.2.2.1) key).2.2, srlHas most target ns cs gs ms key, (srlEvict most target ns cs (rm gs key) ms).2.2.2.2.1, (srlEvict most target ns cs (rm gs key) ms).2.2.2.2.2) := by unfold srlReq; rw [if_neg h4, if_neg h5, if_neg (Bool.eq_false_iff.1 h6), if_pos h8, if_pos h9, if_neg h10, if_pos h15]
                rw [e]
                exact ⟨_, ⟨rfl, rfl⟩, (((hw.conv 1 (R := llR nb ((srlAgain most target ((srlEvict most target ns cs (rm gs key) ms).1) ((srlEvict most target ns cs (rm gs key) ms).2.1) ((srlEvict most target ns cs (rm gs key) ms).2.2.1) ((srlEvict most target ns cs (rm gs key) ms).2.2.2.1) key).1) (n + ((srlEvict most target ns cs (rm gs key) ms).2.1).length + 3)) (R' := llR nb ((srlAgain most target ((srlEvict most target ns cs (rm gs key) ms).1) ((srlEvict most target ns cs (rm gs key) ms).2.1) ((srlEvict most target ns cs (rm gs key) ms).2.2.1) ((srlEvict most target ns cs (rm gs key) ms).2.2.2.1) key).1) n') (by kernel_rfl) (llR.up (by omega))).conv 2 (R := llR ab ((srlAgain most target ((srlEvict most target ns cs (rm gs key) ms).1) ((srlEvict most target ns cs (rm gs key) ms).2.1) ((srlEvict most target ns cs (rm gs key) ms).2.2.1) ((srlEvict most target ns cs (rm gs key) ms).2.2.2.1) key).2.1) (n + ((srlEvict most target ns cs (rm gs key) ms).2.1).length + 3)) (R' := llR ab ((srlAgain most target ((srlEvict most target ns cs (rm gs key) ms).1) ((srlEvict most target ns cs (rm gs key) ms).2.1) ((srlEvict most target ns cs (rm gs key) ms).2.2.1) ((srlEvict most target ns cs (rm gs key) ms).2.2.2.1) key).2.1) n') (by kernel_rfl) (llR.up (by omega))).conv 3 (R := llR gb ((srlEvict most target ns cs (rm gs key) ms).2.2.1) (n + ((srlEvict most target ns cs (rm gs key) ms).2.1).length + 3)) (R' := llR gb ((srlEvict most target ns cs (rm gs key) ms).2.2.1) n') (by kernel_rfl) (llR.up (by omega))).pickB [0, 1, 2, 3, 4] (by kernel_rfl) (by kernel_rfl) (by kernel_rfl)⟩
              ·
                refine Cd.skip ?_
                refine Ex'.next ?_
                refine Cd.seq ?_
                refine Cd.seq ?_
                refine Cd.region rfl ?_
                refine Sq.vals [0] (rest := []) [bV ((lk ms key).isSome)] (fun w => by kernel_rfl) ?_
                refine Sq.done ?_
                refine Ex'.next ?_
                refine Cd.condT (by rw [show ev _ _ = some (.bool ((lk ms key).isSome)) from by kernel_rfl, show (lk ms key).isSome = true from h8]) ?_
                refine Cd.seq ?_
                refine Cd.region rfl ?_
                refine Sq.vals [0, 1] (rest := [2]) [pV b 0, sV key] (fun w => by kernel_rfl) ?_
                refine Sq.same [0, 1, 2, 3, 4] (l := srlL b nb ab gb mb most target ns cs (rm gs key) ms n) (o_call (by kernel_rfl) Try.call70 (srl_again (n := n) (n' := n + cs.length + 2) (most := most) (target := target) (ns := ns) (cs := cs) (gs := rm gs key) (ms := ms) key (by omega) (by omega))) (by kernel_rfl) rfl (by kernel_rfl) rfl ?_
                refine Sq.done ?_
                refine Ex'.next ?_
                refine Cd.seq ?_
                refine Cd.region rfl ?_
                refine Sq.same [6] (l := [blkR b2 [bV (srlHas most target ns cs gs ms key), sV ⟨#[]⟩, bV false] 27]) (o_loadN (i := 0) [bV (srlHas most target ns cs gs ms key), sV ⟨#[]⟩, bV false] (by kernel_rfl) (by kernel_rfl) (by kernel_rfl)) (by kernel_rfl) rfl (by kernel_rfl) rfl ?_
                refine Sq.same [5] (l := [blkR b1 [bV false, sV ⟨#[]⟩, bV false] 27]) (o_store (i := 0) (v := .agg #[bV (srlHas most target ns cs gs ms key), sV ⟨#[]⟩, bV false]) (by kernel_rfl) (by kernel_rfl) (by kernel_rfl) (by kernel_rfl) (by kernel_rfl)) (by kernel_rfl) rfl (by kernel_rfl) rfl ?_
                refine Sq.done ?_
                refine Ex'.next ?_
                refine Cd.ret ?_
                refine Ex'.thenRet ?_
                refine Ex'.ret Try.results37 (RVs.cellN (i := 0) (b := b1) (l := [bV (srlHas most target ns cs gs ms key), sV ⟨#[]⟩, bV false]) (E := 27) [bV (srlHas most target ns cs gs ms key), sV ⟨#[]⟩, bV false] 5 (by kernel_rfl) (by kernel_rfl) (by kernel_rfl) (by kernel_rfl) (RVs.nil)) (fun w hw => ?_)
                have e : srlReq most target ns cs gs ms key = (target, (srlAgain most target ns cs (rm gs key) ms key).1, (srlAgain most target ns cs (rm gs key) ms key).2.1, rm gs key, (srlAgain most target ns cs (rm gs key) ms key).2.2, srlHas most target ns cs gs ms key, ⟨#[]⟩, false) := by unfold srlReq; rw [if_neg h4, if_neg h5, if_neg (Bool.eq_false_iff.1 h6), if_pos h8, if_pos h9, if_neg h10, if_neg h15]
                rw [e]
                exact ⟨_, ⟨rfl, rfl⟩, (((hw.conv 1 (R := llR nb ((srlAgain most target ns cs (rm gs key) ms key).1) (n + cs.length + 2)) (R' := llR nb ((srlAgain most target ns cs (rm gs key) ms key).1) n') (by kernel_rfl) (llR.up (by omega))).conv 2 (R := llR ab ((srlAgain most target ns cs (rm gs key) ms key).2.1) (n + cs.length + 2)) (R' := llR ab ((srlAgain most target ns cs (rm gs key) ms key).2.1) n') (by kernel_rfl) (llR.up (by omega))).conv 3 (R := llR gb (rm gs key) (n + cs.length + 2)) (R' := llR gb (rm gs key) n') (by kernel_rfl) (llR.up (by omega))).pickB [0, 1, 2, 3, 4] (by kernel_rfl) (by kernel_rfl) (by kernel_rfl)⟩
          ·
            refine Sq.vals [7, 8, 9, 10, 11, 12, 13] (rest := []) [undef, undef, undef, undef, undef, bV false, bV false] (fun w => by kernel_rfl) ?_
            refine Sq.done ?_
            refine Ex'.next ?_
            refine Cd.condF (by kernel_rfl) ?_
            refine Cd.skip ?_
            refine Ex'.blockNormal ?_
            refine Ex'.next ?_
            refine Cd.seq ?_
            refine Cd.region rfl ?_
            refine Sq.vals [0, 1, 2] (rest := [3, 4, 5]) [pV b 0, pV b 0, pV b 4] (fun w => by kernel_rfl) ?_
            refine Sq.same [0] (l := [srlB b nb ab gb mb most target]) (o_load (i := 4) (v := pV gb 0) (by kernel_rfl) (by kernel_rfl) (by kernel_rfl)) (by kernel_rfl) rfl (by kernel_rfl) rfl ?_
            refine Sq.vals [4] (rest := [5]) [sV key] (fun w => by kernel_rfl) ?_
            refine Sq.same [3] (l := [llR gb gs n]) (o_call (by kernel_rfl) Try.call68 (t_Remove (ks := gs) (n := n) key (by omega))) (by kernel_rfl) rfl (by kernel_rfl) rfl ?_
            refine Sq.done ?_
            refine Ex'.next ?_
            refine Cd.seq ?_
            refine Cd.seq ?_
            refine Cd.plan [0, 1, 0, 4, 12, 28, 63] [(1, [(0, false, 0), (1, false, 0), (2, false, 0), (3, false, 0), (4, false, 0)]), (5, [(0, false, 0)])] [] [] [] [fun g => pV b 0, fun g => iV (srlLen most target ns cs (rm gs key) ms), fun g => pV b 0, fun g => pV b 0, fun g => pV b 0, fun g => iV most, fun g => bV (decide (srlLen most target ns cs (rm gs key) ms ≥ most))] (by kernel_rfl) (by kernel_rfl) rfl (trivial) ?_ ?_
            · exact ⟨ob_val fun g w => by kernel_rfl, ob_s (l := fun g => [srlB b nb ab gb mb most target, llR nb ns n, llR ab cs n, llR gb (rm gs key) n, mapR Value.string markV mb ms]) (l' := fun g => [srlB b nb ab gb mb most target, llR nb ns n, llR ab cs n, llR gb (rm gs key) n, mapR Value.string markV mb ms]) (v := fun g => iV (srlLen most target ns cs (rm gs key) ms)) (fun g => o_call (by kernel_rfl) Try.call40 (srl_Len (n := n) (most := most) (target := target) (ns := ns) (cs := cs) (gs := rm gs key) (ms := ms) (by omega))) (fun g => by kernel_rfl), ob_val fun g w => by kernel_rfl, ob_val fun g w => by kernel_rfl, ob_val fun g w => by kernel_rfl, ob_s (l := fun g => [srlB b nb ab gb mb most target]) (l' := fun g => [srlB b nb ab gb mb most target]) (v := fun g => iV most) (fun g => o_load (i := 0) (v := iV most) (by kernel_rfl) (by kernel_rfl) (by kernel_rfl)) (fun g => by kernel_rfl), ob_val fun g w => by kernel_rfl, trivial⟩
            intro g
            refine Ex'.sub (subB_spec [0, 1, 4, 5, 7, 103]) ?_
            refine Ex'.as [0, 1, 2, 3, 4, 5, 6, 7] (σ' := [(0, pV b 0), (1, sV key), (4, pV b1 0), (5, pV b2 0), (7, bV ((lk ms key).isSome)), (103, bV (decide (srlLen most target ns cs (rm gs key) ms ≥ most)))]) (Γ' := [srlB b nb ab gb mb most target, llR nb ns n, llR ab cs n, llR gb (rm gs key) n, mapR Value.string markV mb ms, blkR b1 [bV false, sV ⟨#[]⟩, bV false] 27, blkR b2 [bV (srlHas most target ns cs gs ms key), sV ⟨#[]⟩, bV false] 27, blkR b3 [bV (((lk ms key).getD (false, false)).1), bV (((lk ms key).getD (false, false)).2)] 85]) (by kernel_rfl) rfl (by kernel_rfl) (by kernel_rfl) ?_
            refine Ex'.next ?_
            refine Cd.case (p := srlLen most target ns cs (rm gs key) ms ≥ most) (by kernel_rfl) (fun h19 => ?_) (fun h19 => ?_)
            ·
              refine Cd.region rfl ?_
              refine Sq.vals [0] (rest := [1, 2, 3, 4, 5, 6, 7, 8]) [pV b 0] (fun w => by kernel_rfl) ?_
              refine Sq.same [0, 1, 2, 3, 4] (l := srlL b nb ab gb mb most target ns cs (rm gs key) ms n) (o_call (by kernel_rfl) Try.call71 (srl_evict (n := n) (n' := n + 1) (most := most) (target := target) (ns := ns) (cs := cs) (gs := rm gs key) (ms := ms) (by omega) (by omega) (by omega))) (by kernel_rfl) rfl (by kernel_rfl) rfl ?_
              have q20 := srlEvict_cs most target ns cs (rm gs key) ms
              refine Sq.vals [2, 3, 4, 5] (rest := [6, 7, 8]) [.tuple #[sV ((srlEvict most target ns cs (rm gs key) ms).2.2.2.2.1), bV ((srlEvict most target ns cs (rm gs key) ms).2.2.2.2.2)], sV ((srlEvict most target ns cs (rm gs key) ms).2.2.2.2.1), bV ((srlEvict most target ns cs (rm gs key) ms).2.2.2.2.2), pV b2 1] (fun w => by kernel_rfl) ?_
              refine Sq.same [6] (l := [blkR b2 [bV (srlHas most target ns cs gs ms key), sV ⟨#[]⟩, bV false] 27]) (o_store (i := 1) (v := sV ((srlEvict most target ns cs (rm gs key) ms).2.2.2.2.1)) (by kernel_rfl) (by kernel_rfl) (by kernel_rfl) (by kernel_rfl) (by kernel_rfl)) (by kernel_rfl) rfl (by kernel_rfl) rfl ?_
              refine Sq.vals [7] (rest := [8]) [pV b2 2] (fun w => by kernel_rfl) ?_
              refine Sq.same [6] (l := [blkR b2 [bV (srlHas most target ns cs gs ms key), sV ((srlEvict most target ns cs (rm gs key) ms).2.2.2.2.1), bV false] 27]) (o_store (i := 2) (v := bV ((srlEvict most target ns cs (rm gs key) ms).2.2.2.2.2)) (by kernel_rfl) (by kernel_rfl) (by kernel_rfl) (by kernel_rfl) (by kernel_rfl)) (by kernel_rfl) rfl (by kernel_rfl) rfl ?_
              refine Sq.done ?_
              refine Ex'.next ?_
              refine Cd.seq ?_
              refine Cd.seq ?_
              refine Cd.region rfl ?_
              refine Sq.vals [0] (rest := []) [bV ((lk ms key).isSome)] (fun w => by kernel_rfl) ?_
              refine Sq.done ?_
              refine Ex'.next ?_
              refine Cd.condT (by rw [show ev _ _ = some (.bool ((lk ms key).isSome)) from by kernel_rfl, show (lk ms key).isSome = true from h8]) ?_
              refine Cd.seq ?_
              refine Cd.region rfl ?_
              refine Sq.vals [0, 1] (rest := [2]) [pV b 0, sV key] (fun w => by kernel_rfl) ?_
              refine Sq.same [0, 1, 2, 3, 4] (l := srlL b nb ab gb mb most target ((srlEvict most target ns cs (rm gs key) ms).1) ((srlEvict most target ns cs (rm gs key) ms).2.1) ((srlEvict most target ns cs (rm gs key) ms).2.2.1) ((srlEvict most target ns cs (rm gs key) ms).2.2.2.1) (n + 1)) (o_call (by kernel_rfl) Try.call70 (srl_again (n := n + 1) (n' := n + ((srlEvict most target ns cs (rm gs key) ms).2.1).length + 3) (most := most) (target := target) (ns := (srlEvict most target ns cs (rm gs key) ms).1) (cs := (srlEvict most target ns cs (rm gs key) ms).2.1) (gs := (srlEvict most target ns cs (rm gs key) ms).2.2.1) (ms := (srlEvict most target ns cs (rm gs key) ms).2.2.2.1) key (by omega) (by omega))) (by kernel_rfl) rfl (by kernel_rfl) rfl ?_
              refine Sq.done ?_
              refine Ex'.next ?_
              refine Cd.seq ?_
              refine Cd.region rfl ?_
              refine Sq.same [6] (l := [blkR b2 [bV (srlHas most target ns cs gs ms key), sV ((srlEvict most target ns cs (rm gs key) ms).2.2.2.2.1), bV ((srlEvict most target ns cs (rm gs key) ms).2.2.2.2.2)] 27]) (o_loadN (i := 0) [bV (srlHas most target ns cs gs ms key), sV ((srlEvict most target ns cs (rm gs key) ms).2.2.2.2.1), bV ((srlEvict most target ns cs (rm gs key) ms).2.2.2.2.2)] (by kernel_rfl) (by kernel_rfl) (by kernel_rfl)) (by kernel_rfl) rfl (by kernel_rfl) rfl ?_
              refine Sq.same [5] (l := [blkR b1 [bV false, sV ⟨#[]⟩, bV false] 27]) (o_store (i := 0) (v := .agg #[bV (srlHas most target ns cs gs ms key), sV ((srlEvict most target ns cs (rm gs key) ms).2.2.2.2.1), bV ((srlEvict most target ns cs (rm gs key) ms).2.2.2.2.2)]) (by kernel_rfl) (by kernel_rfl) (by kernel_rfl) (by kernel_rfl) (by kernel_rfl)) (by kernel_rfl) rfl (by kernel_rfl) rfl ?_
              refine Sq.done ?_
              refine Ex'.next ?_
              refine Cd.ret ?_
              refine Ex'.thenRet ?_
              refine Ex'.ret Try.results37 (RVs.cellN (i := 0) (b := b1) (l := [bV (srlHas most target ns cs gs ms key), sV ((srlEvict most target ns cs (rm gs key) ms).2.2.2.2.1), bV ((srlEvict most target ns cs (rm gs key) ms).2.2.2.2.2)]) (E := 27) [bV (srlHas most target ns cs gs ms key), sV ((srlEvict most target ns cs (rm gs key) ms).2.2.2.2.1), bV ((srlEvict most target ns cs (rm gs key) ms).2.2.2.2.2)] 5 (by kernel_rfl) (by kernel_rfl) (by kernel_rfl) (by kernel_rfl) (RVs.nil)) (fun w hw => ?_)
              have e : srlReq most target ns cs gs ms key = (target, (srlAgain most target ((srlEvict most target ns cs (rm gs key) ms).1) ((srlEvict most target ns cs (rm gs key) ms).2.1) ((srlEvict most target ns cs (rm gs key) ms).2.2.1) ((srlEvict most target ns cs (rm gs key) ms).2.2.2.1) key).1, (srlAgain most target ((srlEvict most target ns cs (rm gs key) ms).1) ((srlEvict most target ns cs (rm gs key) ms).2.1) ((srlEvict most target ns cs (rm gs key) ms).2.2.1) ((srlEvict most target ns cs (rm gs key) ms).2.2.2.1) key).2.1, (srlEvict most target ns cs (rm gs key) ms).2.2.1, (srlAgain most target ((srlEvict most target ns cs (rm gs key) ms).1) ((srlEvict most target ns cs (rm gs key) ms).2.1) ((srlEvict most target ns cs (rm gs key) ms).2.2.1) ((srlEvict most target ns cs (rm gs key) ms).2.2.2.1) key).2.2, srlHas most target ns cs gs ms key, (srlEvict most target ns cs (rm gs key) ms).2.2.2.2.1, (srlEvict most target ns cs (rm gs key) ms).2.2.2.2.2) := by unfold srlReq; rw [if_neg h4, if_neg h5, if_neg (Bool.eq_false_iff.1 h6), if_pos h8, if_neg (Bool.eq_false_iff.1 h9), if_pos h19]
              rw [e]
              exact ⟨_, ⟨rfl, rfl⟩, (((hw.conv 1 (R := llR nb ((srlAgain most target ((srlEvict most target ns cs (rm gs key) ms).1) ((srlEvict most target ns cs (rm gs key) ms).2.1) ((srlEvict most target ns cs (rm gs key) ms).2.2.1) ((srlEvict most target ns cs (rm gs key) ms).2.2.2.1) key).1) (n + ((srlEvict most target ns cs (rm gs key) ms).2.1).length + 3)) (R' := llR nb ((srlAgain most target ((srlEvict most target ns cs (rm gs key) ms).1) ((srlEvict most target ns cs (rm gs key) ms).2.1) ((srlEvict most target ns cs (rm gs key) ms).2.2.1) ((srlEvict most target ns cs (rm gs key) ms).2.2.2.1) key).1) n') (by kernel_rfl) (llR.up (by omega))).conv 2 (R := llR ab ((srlAgain most target ((srlEvict most target ns cs (rm gs key) ms).1) ((srlEvict most target ns cs (rm gs key) ms).2.1) ((srlEvict most target ns cs (rm gs key) ms).2.2.1) ((srlEvict most target ns cs (rm gs key) ms).2.2.2.1) key).2.1) (n + ((srlEvict most target ns cs (rm gs key) ms).2.1).length + 3)) (R' := llR ab ((srlAgain most target ((srlEvict most target ns cs (rm gs key) ms).1) ((srlEvict most target ns cs (rm gs key) ms).2.1) ((srlEvict most target ns cs (rm gs key) ms).2.2.1) ((srlEvict most target ns cs (rm gs key) ms).2.2.2.1) key).2.1) n') (by kernel_rfl) (llR.up (by omega))).conv 3 (R := llR gb ((srlEvict most target ns cs (rm gs key) ms).2.2.1) (n + ((srlEvict most target ns cs (rm gs key) ms).2.1).length + 3)) (R' := llR gb ((srlEvict most target ns cs (rm gs key) ms).2.2.1) n') (by kernel_rfl) (llR.up (by omega))).pickB [0, 1, 2, 3, 4] (by kernel_rfl) (by kernel_rfl) (by kernel_rfl)⟩
            ·
              refine Cd.skip ?_
              refine Ex'.next ?_
              refine Cd.seq ?_
              refine Cd.seq ?_
              refine Cd.region rfl ?_
              refine Sq.vals [0] (rest := []) [bV ((lk ms key).isSome)] (fun w => by kernel_rfl) ?_
              refine Sq.done ?_
              refine Ex'.next ?_
              refine Cd.condT (by rw [show ev _ _ = some (.bool ((lk ms key).isSome)) from by kernel_rfl, show (lk ms key).isSome = true from h8]) ?_
              refine Cd.seq ?_
              refine Cd.region rfl ?_
              refine Sq.vals [0, 1] (rest := [2]) [pV b 0, sV key] (fun w => by kernel_rfl) ?_
              refine Sq.same [0, 1, 2, 3, 4] (l := srlL b nb ab gb mb most target ns cs (rm gs key) ms n) (o_call (by kernel_rfl) Try.call70 (srl_again (n := n) (n' := n + cs.length + 2) (most := most) (target := target) (ns := ns) (cs := cs) (gs := rm gs key) (ms := ms) key (by omega) (by omega))) (by kernel_rfl) rfl (by kernel_rfl) rfl ?_
              refine Sq.done ?_
              refine Ex'.next ?_
              refine Cd.seq ?_
              refine Cd.region rfl ?_
              refine Sq.same [6] (l := [blkR b2 [bV (srlHas most target ns cs gs ms key), sV ⟨#[]⟩, bV false] 27]) (o_loadN (i := 0) [bV (srlHas most target ns cs gs ms key), sV ⟨#[]⟩, bV false] (by kernel_rfl) (by kernel_rfl) (by kernel_rfl)) (by kernel_rfl) rfl (by kernel_rfl) rfl ?_
              refine Sq.same [5] (l := [blkR b1 [bV false, sV ⟨#[]⟩, bV false] 27]) (o_store (i := 0) (v := .agg #[bV (srlHas most target ns cs gs ms key), sV ⟨#[]⟩, bV false]) (by kernel_rfl) (by kernel_rfl) (by kernel_rfl) (by kernel_rfl) (by kernel_rfl)) (by kernel_rfl) rfl (by kernel_rfl) rfl ?_
              refine Sq.done ?_
              refine Ex'.next ?_
              refine Cd.ret ?_
              refine Ex'.thenRet ?_
              refine Ex'.ret Try.results37 (RVs.cellN (i := 0) (b := b1) (l := [bV (srlHas most target ns cs gs ms key), sV ⟨#[]⟩, bV false]) (E := 27) [bV (srlHas most target ns cs gs ms key), sV ⟨#[]⟩, bV false] 5 (by kernel_rfl) (by kernel_rfl) (by kernel_rfl) (by kernel_rfl) (RVs.nil)) (fun w hw => ?_)
              have e : srlReq most target ns cs gs ms key = (target, (srlAgain most target ns cs (rm gs key) ms key).1, (srlAgain most target ns cs (rm gs key) ms key).2.1, rm gs key, (srlAgain most target ns cs (rm gs key) ms key).2.2, srlHas most target ns cs gs ms key, ⟨#[]⟩, false) := by unfold srlReq; rw [if_neg h4, if_neg h5, if_neg (Bool.eq_false_iff.1 h6), if_pos h8, if_neg (Bool.eq_false_iff.1 h9), if_neg h19]
              rw [e]
              exact ⟨_, ⟨rfl, rfl⟩, (((hw.conv 1 (R := llR nb ((srlAgain most target ns cs (rm gs key) ms key).1) (n + cs.length + 2)) (R' := llR nb ((srlAgain most target ns cs (rm gs key) ms key).1) n') (by kernel_rfl) (llR.up (by omega))).conv 2 (R := llR ab ((srlAgain most target ns cs (rm gs key) ms key).2.1) (n + cs.length + 2)) (R' := llR ab ((srlAgain most target ns cs (rm gs key) ms key).2.1) n') (by kernel_rfl) (llR.up (by omega))).conv 3 (R := llR gb (rm gs key) (n + cs.length + 2)) (R' := llR gb (rm gs key) n') (by kernel_rfl) (llR.up (by omega))).pickB [0, 1, 2, 3, 4] (by kernel_rfl) (by kernel_rfl) (by kernel_rfl)⟩
        ·
          refine Sq.vals [2, 3, 4, 5, 6, 7, 8, 9, 10, 11, 12, 13] (rest := []) [undef, undef, undef, bV false, bV false, undef, undef, undef, undef, undef, bV false, bV false] (fun w => by kernel_rfl) ?_
          refine Sq.done ?_
          refine Ex'.next ?_
          refine Cd.condF (by kernel_rfl) ?_
          refine Cd.skip ?_
          refine Ex'.blockNormal ?_
          refine Ex'.next ?_
          refine Cd.seq ?_
          refine Cd.region rfl ?_
          refine Sq.vals [0, 1, 2] (rest := [3, 4, 5]) [pV b 0, pV b 0, pV b 4] (fun w => by kernel_rfl) ?_
          refine Sq.same [0] (l := [srlB b nb ab gb mb most target]) (o_load (i := 4) (v := pV gb 0) (by kernel_rfl) (by kernel_rfl) (by kernel_rfl)) (by kernel_rfl) rfl (by kernel_rfl) rfl ?_
          refine Sq.vals [4] (rest := [5]) [sV key] (fun w => by kernel_rfl) ?_
          refine Sq.same [3] (l := [llR gb gs n]) (o_call (by kernel_rfl) Try.call68 (t_Remove (ks := gs) (n := n) key (by omega))) (by kernel_rfl) rfl (by kernel_rfl) rfl ?_
          refine Sq.done ?_
          refine Ex'.next ?_
          refine Cd.seq ?_
          refine Cd.seq ?_
          refine Cd.plan [0, 1, 0, 4, 12, 28, 63] [(1, [(0, false, 0), (1, false, 0), (2, false, 0), (3, false, 0), (4, false, 0)]), (5, [(0, false, 0)])] [] [] [] [fun g => pV b 0, fun g => iV (srlLen most target ns cs (rm gs key) ms), fun g => pV b 0, fun g => pV b 0, fun g => pV b 0, fun g => iV most, fun g => bV (decide (srlLen most target ns cs (rm gs key) ms ≥ most))] (by kernel_rfl) (by kernel_rfl) rfl (trivial) ?_ ?_
          · exact ⟨ob_val fun g w => by kernel_rfl, ob_s (l := fun g => [srlB b nb ab gb mb most target, llR nb ns n, llR ab cs n, llR gb (rm gs key) n, mapR Value.string markV mb ms]) (l' := fun g => [srlB b nb ab gb mb most target, llR nb ns n, llR ab cs n, llR gb (rm gs key) n, mapR Value.string markV mb ms]) (v := fun g => iV (srlLen most target ns cs (rm gs key) ms)) (fun g => o_call (by kernel_rfl) Try.call40 (srl_Len (n := n) (most := most) (target := target) (ns := ns) (cs := cs) (gs := rm gs key) (ms := ms) (by omega))) (fun g => by kernel_rfl), ob_val fun g w => by kernel_rfl, ob_val fun g w => by kernel_rfl, ob_val fun g w => by kernel_rfl, ob_s (l := fun g => [srlB b nb ab gb mb most target]) (l' := fun g => [srlB b nb ab gb mb most target]) (v := fun g => iV most) (fun g => o_load (i := 0) (v := iV most) (by kernel_rfl) (by kernel_rfl) (by kernel_rfl)) (fun g => by kernel_rfl), ob_val fun g w => by kernel_rfl, trivial⟩
          intro g
          refine Ex'.sub (subB_spec [0, 1, 4, 5, 7, 103]) ?_
          refine Ex'.as [0, 1, 2, 3, 4, 5, 6, 7] (σ' := [(0, pV b 0), (1, sV key), (4, pV b1 0), (5, pV b2 0), (7, bV ((lk ms key).isSome)), (103, bV (decide (srlLen most target ns cs (rm gs key) ms ≥ most)))]) (Γ' := [srlB b nb ab gb mb most target, llR nb ns n, llR ab cs n, llR gb (rm gs key) n, mapR Value.string markV mb ms, blkR b1 [bV false, sV ⟨#[]⟩, bV false] 27, blkR b2 [bV (srlHas most target ns cs gs ms key), sV ⟨#[]⟩, bV false] 27, blkR b3 [bV (((lk ms key).getD (false, false)).1), bV (((lk ms key).getD (false, false)).2)] 85]) (by kernel_rfl) rfl (by kernel_rfl) (by kernel_rfl) ?_
          refine Ex'.next ?_
          refine Cd.case (p := srlLen most target ns cs (rm gs key) ms ≥ most) (by kernel_rfl) (fun h23 => ?_) (fun h23 => ?_)
          ·
            refine Cd.region rfl ?_
            refine Sq.vals [0] (rest := [1, 2, 3, 4, 5, 6, 7, 8]) [pV b 0] (fun w => by kernel_rfl) ?_
            refine Sq.same [0, 1, 2, 3, 4] (l := srlL b nb ab gb mb most target ns cs (rm gs key) ms n) (o_call (by kernel_rfl) Try.call71 (srl_evict (n := n) (n' := n + 1) (most := most) (target := target) (ns := ns) (cs := cs) (gs := rm gs key) (ms := ms) (by omega) (by omega) (by omega))) (by kernel_rfl) rfl (by kernel_rfl) rfl ?_
            have q24 := srlEvict_cs most target ns cs (rm gs key) ms
            refine Sq.vals [2, 3, 4, 5] (rest := [6, 7, 8]) [.tuple #[sV ((srlEvict most target ns cs (rm gs key) ms).2.2.2.2.1), bV ((srlEvict most target ns cs (rm gs key) ms).2.2.2.2.2)], sV ((srlEvict most target ns cs (rm gs key) ms).2.2.2.2.1), bV ((srlEvict most target ns cs (rm gs key) ms).2.2.2.2.2), pV b2 1] (fun w => by kernel_rfl) ?_
            refine Sq.same [6] (l := [blkR b2 [bV (srlHas most target ns cs gs ms key), sV ⟨#[]⟩, bV false] 27]) (o_store (i := 1) (v := sV ((srlEvict most target ns cs (rm gs key) ms).2.2.2.2.1)) (by kernel_rfl) (by kernel_rfl) (by kernel_rfl) (by kernel_rfl) (by kernel_rfl)) (by kernel_rfl) rfl (by kernel_rfl) rfl ?_
            refine Sq.vals [7] (rest := [8]) [pV b2 2] (fun w => by kernel_rfl) ?_
            refine Sq.same [6] (l := [blkR b2 [bV (srlHas most target ns cs gs ms key), sV ((srlEvict most target ns cs (rm gs key) ms).2.2.2.2.1), bV false] 27]) (o_store (i := 2) (v := bV ((srlEvict most target ns cs (rm gs key) ms).2.2.2.2.2)) (by kernel_rfl) (by kernel_rfl) (by kernel_rfl) (by kernel_rfl) (by kernel_rfl)) (by kernel_rfl) rfl (by kernel_rfl) rfl ?_
            refine Sq.done ?_
            refine Ex'.next ?_
            refine Cd.seq ?_
            refine Cd.seq ?_
            refine Cd.region rfl ?_
            refine Sq.vals [0] (rest := []) [bV ((lk ms key).isSome)] (fun w => by kernel_rfl) ?_
            refine Sq.done ?_
            refine Ex'.next ?_
            refine Cd.condF (by rw [show ev _ _ = some (.bool ((lk ms key).isSome)) from by kernel_rfl, show (lk ms key).isSome = false from h8]) ?_
            refine Cd.skip ?_
            refine Ex'.next ?_
            refine Cd.seq ?_
            refine Cd.region rfl ?_
            refine Sq.vals [0, 1, 2] (rest := [3, 4, 5]) [pV b 0, pV b 0, pV b 2] (fun w => by kernel_rfl) ?_
            refine Sq.same [0] (l := [srlB b nb ab gb mb most target]) (o_load (i := 2) (v := pV nb 0) (by kernel_rfl) (by kernel_rfl) (by kernel_rfl)) (by kernel_rfl) rfl (by kernel_rfl) rfl ?_
            refine Sq.vals [4] (rest := [5]) [sV key] (fun w => by kernel_rfl) ?_
            refine Sq.same [1] (l := [llR nb ((srlEvict most target ns cs (rm gs key) ms).1) (n + 1)]) (o_call (by kernel_rfl) Try.call63 (t_Front (ks := (srlEvict most target ns cs (rm gs key) ms).1) (n := n + 1) key (by omega))) (by kernel_rfl) rfl (by kernel_rfl) rfl ?_
            refine Sq.done ?_
            refine Ex'.next ?_
            refine Cd.seq ?_
            refine Cd.region rfl ?_
            refine Sq.vals [0, 1, 2] (rest := [3, 4, 5, 6]) [pV b 0, pV b 0, pV b 5] (fun w => by kernel_rfl) ?_
            refine Sq.same [0] (l := [srlB b nb ab gb mb most target]) (o_load (i := 5) (v := .map (some mb)) (by kernel_rfl) (by kernel_rfl) (by kernel_rfl)) (by kernel_rfl) rfl (by kernel_rfl) rfl ?_
            refine Sq.vals [4, 5] (rest := [6]) [sV key, .agg #[bV false, bV false]] (fun w => by kernel_rfl) ?_
            refine Sq.same [4] (l := [mapR Value.string markV mb ((srlEvict most target ns cs (rm gs key) ms).2.2.2.1)]) (o_mapUpdate key (false, false) (by kernel_rfl) (by kernel_rfl) (by kernel_rfl) key_str Try.underlying81) (by kernel_rfl) rfl (by kernel_rfl) rfl ?_
            refine Sq.done ?_
            refine Ex'.next ?_
            refine Cd.seq ?_
            refine Cd.region rfl ?_
            refine Sq.same [6] (l := [blkR b2 [bV (srlHas most target ns cs gs ms key), sV ((srlEvict most target ns cs (rm gs key) ms).2.2.2.2.1), bV ((srlEvict most target ns cs (rm gs key) ms).2.2.2.2.2)] 27]) (o_loadN (i := 0) [bV (srlHas most target ns cs gs ms key), sV ((srlEvict most target ns cs (rm gs key) ms).2.2.2.2.1), bV ((srlEvict most target ns cs (rm gs key) ms).2.2.2.2.2)] (by kernel_rfl) (by kernel_rfl) (by kernel_rfl)) (by kernel_rfl) rfl (by kernel_rfl) rfl ?_
            refine Sq.same [5] (l := [blkR b1 [bV false, sV ⟨#[]⟩, bV false] 27]) (o_store (i := 0) (v := .agg #[bV (srlHas most target ns cs gs ms key), sV ((srlEvict most target ns cs (rm gs key) ms).2.2.2.2.1), bV ((srlEvict most target ns cs (rm gs key) ms).2.2.2.2.2)]) (by kernel_rfl) (by kernel_rfl) (by kernel_rfl) (by kernel_rfl) (by kernel_rfl)) (by kernel_rfl) rfl (by kernel_rfl) rfl ?_
            refine Sq.done ?_
            refine Ex'.next ?_
            refine Cd.ret ?_
            refine Ex'.ret Try.results37 (RVs.cellN (i := 0) (b := b1) (l := [bV (srlHas most target ns cs gs ms key), sV ((srlEvict most target ns cs (rm gs key) ms).2.2.2.2.1), bV ((srlEvict most target ns cs (rm gs key) ms).2.2.2.2.2)]) (E := 27) [bV (srlHas most target ns cs gs ms key), sV ((srlEvict most target ns cs (rm gs key) ms).2.2.2.2.1), bV ((srlEvict most target ns cs (rm gs key) ms).2.2.2.2.2)] 5 (by kernel_rfl) (by kernel_rfl) (by kernel_rfl) (by kernel_rfl) (RVs.nil)) (fun w hw => ?_)
            have e : srlReq most target ns cs gs ms key = (target, fr ((srlEvict most target ns cs (rm gs key) ms).1) key, (srlEvict most target ns cs (rm gs key) ms).2.1, (srlEvict most target ns cs (rm gs key) ms).2.2.1, put ((srlEvict most target ns cs (rm gs key) ms).2.2.2.1) key (false, false), srlHas most target ns cs gs ms key, (srlEvict most target ns cs (rm gs key) ms).2.2.2.2.1, (srlEvict most target ns cs (rm gs key) ms).2.2.2.2.2) := by unfold srlReq; rw [if_neg h4, if_neg h5, if_neg (Bool.eq_false_iff.1 h6), if_neg (Bool.eq_false_iff.1 h8), if_pos h23]
            rw [e]
            exact ⟨_, ⟨rfl, rfl⟩, (((hw.conv 1 (R := llR nb (fr ((srlEvict most target ns cs (rm gs key) ms).1) key) (n + 2)) (R' := llR nb (fr ((srlEvict most target ns cs (rm gs key) ms).1) key) n') (by kernel_rfl) (llR.up (by omega))).conv 2 (R := llR ab ((srlEvict most target ns cs (rm gs key) ms).2.1) (n + 1)) (R' := llR ab ((srlEvict most target ns cs (rm gs key) ms).2.1) n') (by kernel_rfl) (llR.up (by omega))).conv 3 (R := llR gb ((srlEvict most target ns cs (rm gs key) ms).2.2.1) (n + 1)) (R' := llR gb ((srlEvict most target ns cs (rm gs key) ms).2.2.1) n') (by kernel_rfl) (llR.up (by omega))).pickB [0, 1, 2, 3, 4] (by kernel_rfl) (by kernel_rfl) (by kernel_rfl)⟩
          ·
            refine Cd.skip ?_
            refine Ex'.next ?_
            refine Cd.seq ?_
            refine Cd.seq ?_
            refine Cd.region rfl ?_
            refine Sq.vals [0] (rest := []) [bV ((lk ms key).isSome)] (fun w => by kernel_rfl) ?_
            refine Sq.done ?_
            refine Ex'.next ?_
            refine Cd.condF (by rw [show ev _ _ = some (.bool ((lk ms key).isSome)) from by kernel_rfl, show (lk ms key).isSome = false from h8]) ?_
            refine Cd.skip ?_
            refine Ex'.next ?_
            refine Cd.seq ?_
            refine Cd.region rfl ?_
            refine Sq.vals [0, 1, 2] (rest := [3, 4, 5]) [pV b 0, pV b 0, pV b 2] (fun w => by kernel_rfl) ?_
            refine Sq.same [0] (l := [srlB b nb ab gb mb most target]) (o_load (i := 2) (v := pV nb 0) (by kernel_rfl) (by kernel_rfl) (by kernel_rfl)) (by kernel_rfl) rfl (by kernel_rfl) rfl ?_
            refine Sq.vals [4] (rest := [5]) [sV key] (fun w => by kernel_rfl) ?_
            refine Sq.same [1] (l := [llR nb ns n]) (o_call (by kernel_rfl) Try.call63 (t_Front (ks := ns) (n := n) key (by omega))) (by kernel_rfl) rfl (by kernel_rfl) rfl ?_
            refine Sq.done ?_
            refine Ex'.next ?_
            refine Cd.seq ?_
            refine Cd.region rfl ?_
            refine Sq.vals [0, 1, 2] (rest := [3, 4, 5, 6]) [pV b 0, pV b 0, pV b 5] (fun w => by kernel_rfl) ?_
            refine Sq.same [0] (l := [srlB b nb ab gb mb most target]) (o_load (i := 5) (v := .map (some mb)) (by kernel_rfl) (by kernel_rfl) (by kernel_rfl)) (by kernel_rfl) rfl (by kernel_rfl) rfl ?_
            refine Sq.vals [4, 5] (rest := [6]) [sV key, .agg #[bV false, bV false]] (fun w => by kernel_rfl) ?_
            refine Sq.same [4] (l := [mapR Value.string markV mb ms]) (o_mapUpdate key (false, false) (by kernel_rfl) (by kernel_rfl) (by kernel_rfl) key_str Try.underlying81) (by kernel_rfl) rfl (by kernel_rfl) rfl ?_
            refine Sq.done ?_
            refine Ex'.next ?_
            refine Cd.seq ?_
            refine Cd.region rfl ?_
            refine Sq.same [6] (l := [blkR b2 [bV (srlHas most target ns cs gs ms key), sV ⟨#[]⟩, bV false] 27]) (o_loadN (i := 0) [bV (srlHas most target ns cs gs ms key), sV ⟨#[]⟩, bV false] (by kernel_rfl) (by kernel_rfl) (by kernel_rfl)) (by kernel_rfl) rfl (by kernel_rfl) rfl ?_
            refine Sq.same [5] (l := [blkR b1 [bV false, sV ⟨#[]⟩, bV false] 27]) (o_store (i := 0) (v := .agg #[bV (srlHas most target ns cs gs ms key), sV ⟨#[]⟩, bV false]) (by kernel_rfl) (by kernel_rfl) (by kernel_rfl) (by kernel_rfl) (by kernel_rfl)) (by kernel_rfl) rfl (by kernel_rfl) rfl ?_
            refine Sq.done ?_
            refine Ex'.next ?_
            refine Cd.ret ?_
            refine Ex'.ret Try.results37 (RVs.cellN (i := 0) (b := b1) (l := [bV (srlHas most target ns cs gs ms key), sV ⟨#[]⟩, bV false]) (E := 27) [bV (srlHas most target ns cs gs ms key), sV ⟨#[]⟩, bV false] 5 (by kernel_rfl) (by kernel_rfl) (by kernel_rfl) (by kernel_rfl) (RVs.nil)) (fun w hw => ?_)
            have e : srlReq most target ns cs gs ms key = (target, fr ns key, cs, rm gs key, put ms key (false, false), srlHas most target ns cs gs ms key, ⟨#[]⟩, false) := by unfold srlReq; rw [if_neg h4, if_neg h5, if_neg (Bool.eq_false_iff.1 h6), if_neg (Bool.eq_false_iff.1 h8), if_neg h23]
            rw [e]
            exact ⟨_, ⟨rfl, rfl⟩, (((hw.conv 1 (R := llR nb (fr ns key) (n + 1)) (R' := llR nb (fr ns key) n') (by kernel_rfl) (llR.up (by omega))).conv 2 (R := llR ab cs n) (R' := llR ab cs n') (by kernel_rfl) (llR.up (by omega))).conv 3 (R := llR gb (rm gs key) n) (R' := llR gb (rm gs key) n') (by kernel_rfl) (llR.up (by omega))).pickB [0, 1, 2, 3, 4] (by kernel_rfl) (by kernel_rfl) (by kernel_rfl)⟩

def srlRemove (most : Int) (target : Int) (ns : List ByteArray) (cs : List ByteArray) (gs : List ByteArray) (ms : List (ByteArray × (Bool × Bool))) (key : ByteArray) : List ByteArray × List ByteArray × List ByteArray × List (ByteArray × (Bool × Bool)) × Bool :=
  if key ∈ ns then (rm ns key, cs, rm gs key, del ms key, true) else (rm ns key, rm cs key, rm gs key, del ms key, decide (key ∈ cs))

set_option maxHeartbeats 4000000 in
set_option maxRecDepth 100000 in
theorem srl_Remove {b : Nat} {nb : Nat} {ab : Nat} {gb : Nat} {mb : Nat} {n : Nat} {most : Int} {target : Int} {ns : List ByteArray} {cs : List ByteArray} {gs : List ByteArray} {ms : List (ByteArray × (Bool × Bool))} (key : ByteArray) (hb : n ≤ 1000000000) : Tri Try.prog 44 #[pV b 0, sV key] (srlL b nb ab gb mb most target ns cs gs ms n) (Same (srlL b nb ab gb mb most target ((srlRemove most target ns cs gs ms key).1) ((srlRemove most target ns cs gs ms key).2.1) ((srlRemove most target ns cs gs ms key).2.2.1) ((srlRemove most target ns cs gs ms key).2.2.2.1) n) (bV ((srlRemove most target ns cs gs ms key).2.2.2.2))) := by
  refine Tri.enter (args := [pV b 0, sV key]) Try.func44 rfl rfl rfl (fun B wz => ?_)
  refine Cd.seq ?_
  refine Cd.region rfl ?_
  refine Sq.vals [0] (rest := []) [bV false] (fun w => by kernel_rfl) ?_
  refine Sq.done ?_
  refine Ex'.next ?_
  refine Cd.seq ?_
  refine Cd.region rfl ?_
  refine Sq.vals [0, 1, 2] (rest := [3, 4, 5, 6, 7, 8, 9, 10, 11, 12, 13, 14]) [pV b 0, pV b 0, pV b 2] (fun w => by kernel_rfl) ?_
  refine Sq.same [0] (l := [srlB b nb ab gb mb most target]) (o_load (i := 2) (v := pV nb 0) (by kernel_rfl) (by kernel_rfl) (by kernel_rfl)) (by kernel_rfl) rfl (by kernel_rfl) rfl ?_
  refine Sq.vals [4] (rest := [5, 6, 7, 8, 9, 10, 11, 12, 13, 14]) [sV key] (fun w => by kernel_rfl) ?_
  refine Sq.same [1] (l := [llR nb ns n]) (o_call (by kernel_rfl) Try.call68 (t_Remove (ks := ns) (n := n) key (by omega))) (by kernel_rfl) rfl (by kernel_rfl) rfl ?_
  refine Sq.vals [6] (rest := [7, 8, 9, 10, 11, 12, 13, 14]) [bV (decide (key ∈ ns))] (fun w => by kernel_rfl) ?_
  refine Sq.case 12 (p := key ∈ ns) rfl (fun h1 => ?_) (fun h1 => ?_)
  ·
    refine Sq.vals [7, 8, 9, 10, 11, 12, 13, 14] (rest := []) [undef, undef, undef, undef, undef, undef, bV true, bV true] (fun w => by kernel_rfl) ?_
    refine Sq.done ?_
    refine Ex'.next ?_
    refine Cd.seq ?_
    refine Cd.region rfl ?_
    refine Sq.vals [0, 1, 2] (rest := [3, 4, 5]) [pV b 0, pV b 0, pV b 4] (fun w => by kernel_rfl) ?_
    refine Sq.same [0] (l := [srlB b nb ab gb mb most target]) (o_load (i := 4) (v := pV gb 0) (by kernel_rfl) (by kernel_rfl) (by kernel_rfl)) (by kernel_rfl) rfl (by kernel_rfl) rfl ?_
    refine Sq.vals [4] (rest := [5]) [sV key] (fun w => by kernel_rfl) ?_
    refine Sq.same [3] (l := [llR gb gs n]) (o_call (by kernel_rfl) Try.call68 (t_Remove (ks := gs) (n := n) key (by omega))) (by kernel_rfl) rfl (by kernel_rfl) rfl ?_
    refine Sq.done ?_
    refine Ex'.next ?_
    refine Cd.seq ?_
    refine Cd.region rfl ?_
    refine Sq.vals [0, 1, 2] (rest := [3, 4, 5]) [pV b 0, pV b 0, pV b 5] (fun w => by kernel_rfl) ?_
    refine Sq.same [0] (l := [srlB b nb ab gb mb most target]) (o_load (i := 5) (v := .map (some mb)) (by kernel_rfl) (by kernel_rfl) (by kernel_rfl)) (by kernel_rfl) rfl (by kernel_rfl) rfl ?_
    refine Sq.vals [4] (rest := [5]) [sV key] (fun w => by kernel_rfl) ?_
    refine Sq.same [4] (l := [mapR Value.string markV mb ms]) (o_delete key (by kernel_rfl) (by kernel_rfl) key_str Try.underlying81) (by kernel_rfl) rfl (by kernel_rfl) rfl ?_
    refine Sq.done ?_
    refine Ex'.next ?_
    refine Cd.seq ?_
    refine Cd.region rfl ?_
    refine Sq.vals [0, 1] (rest := []) [bV true, bV true] (fun w => by kernel_rfl) ?_
    refine Sq.done ?_
    refine Ex'.next ?_
    refine Cd.ret ?_
    refine Ex'.ret Try.results44 (RVs.tmp (v := bV true) (by kernel_rfl) (RVs.nil)) (fun w hw => ?_)
    have e : srlRemove most target ns cs gs ms key = (rm ns key, cs, rm gs key, del ms key, true) := by unfold srlRemove; rw [if_pos h1]
    rw [e]
    exact ⟨_, ⟨rfl, rfl⟩, hw.pickB [0, 1, 2, 3, 4] (by kernel_rfl) (by kernel_rfl) (by kernel_rfl)⟩
  ·
    refine Sq.vals [7, 8, 9] (rest := [10, 11, 12, 13, 14]) [pV b 0, pV b 0, pV b 3] (fun w => by kernel_rfl) ?_
    refine Sq.same [0] (l := [srlB b nb ab gb mb most target]) (o_load (i := 3) (v := pV ab 0) (by kernel_rfl) (by kernel_rfl) (by kernel_rfl)) (by kernel_rfl) rfl (by kernel_rfl) rfl ?_
    refine Sq.vals [11] (rest := [12, 13, 14]) [sV key] (fun w => by kernel_rfl) ?_
    refine Sq.same [2] (l := [llR ab cs n]) (o_call (by kernel_rfl) Try.call68 (t_Remove (ks := cs) (n := n) key (by omega))) (by kernel_rfl) rfl (by kernel_rfl) rfl ?_
    refine Sq.vals [13, 14] (rest := []) [bV (decide (key ∈ cs)), bV (decide (key ∈ cs))] (fun w => by kernel_rfl) ?_
    refine Sq.done ?_
    refine Ex'.next ?_
    refine Cd.seq ?_
    refine Cd.region rfl ?_
    refine Sq.vals [0, 1, 2] (rest := [3, 4, 5]) [pV b 0, pV b 0, pV b 4] (fun w => by kernel_rfl) ?_
    refine Sq.same [0] (l := [srlB b nb ab gb mb most target]) (o_load (i := 4) (v := pV gb 0) (by kernel_rfl) (by kernel_rfl) (by kernel_rfl)) (by kernel_rfl) rfl (by kernel_rfl) rfl ?_
    refine Sq.vals [4] (rest := [5]) [sV key] (fun w => by kernel_rfl) ?_
    refine Sq.same [3] (l := [llR gb gs n]) (o_call (by kernel_rfl) Try.call68 (t_Remove (ks := gs) (n := n) key (by omega))) (by kernel_rfl) rfl (by kernel_rfl) rfl ?_
    refine Sq.done ?_
    refine Ex'.next ?_
    refine Cd.seq ?_
    refine Cd.region rfl ?_
    refine Sq.vals [0, 1, 2] (rest := [3, 4, 5]) [pV b 0, pV b 0, pV b 5] (fun w => by kernel_rfl) ?_
    refine Sq.same [0] (l := [srlB b nb ab gb mb most target]) (o_load (i := 5) (v := .map (some mb)) (by kernel_rfl) (by kernel_rfl) (by kernel_rfl)) (by kernel_rfl) rfl (by kernel_rfl) rfl ?_
    refine Sq.vals [4] (rest := [5]) [sV key] (fun w => by kernel_rfl) ?_
    refine Sq.same [4] (l := [mapR Value.string markV mb ms]) (o_delete key (by kernel_rfl) (by kernel_rfl) key_str Try.underlying81) (by kernel_rfl) rfl (by kernel_rfl) rfl ?_
    refine Sq.done ?_
    refine Ex'.next ?_
    refine Cd.seq ?_
    refine Cd.region rfl ?_
    refine Sq.vals [0, 1] (rest := []) [bV (decide (key ∈ cs)), bV (decide (key ∈ cs))] (fun w => by kernel_rfl) ?_
    refine Sq.done ?_
    refine Ex'.next ?_
    refine Cd.ret ?_
    refine Ex'.ret Try.results44 (RVs.tmp (v := bV (decide (key ∈ cs))) (by kernel_rfl) (RVs.nil)) (fun w hw => ?_)
    have e : srlRemove most target ns cs gs ms key = (rm ns key, rm cs key, rm gs key, del ms key, decide (key ∈ cs)) := by unfold srlRemove; rw [if_neg h1]
    rw [e]
    exact ⟨_, ⟨rfl, rfl⟩, hw.pickB [0, 1, 2, 3, 4] (by kernel_rfl) (by kernel_rfl) (by kernel_rfl)⟩

def srlAdopt (most : Int) (target : Int) (ns : List ByteArray) (cs : List ByteArray) (gs : List ByteArray) (ms : List (ByteArray × (Bool × Bool))) (key : ByteArray) : List ByteArray × List ByteArray × List (ByteArray × (Bool × Bool)) × Bool :=
  if srlHas most target ns cs gs ms key = true then (ns, gs, ms, false) else if srlLen most target ns cs gs ms ≥ most then (ns, gs, ms, false) else (fr ns key, rm gs key, put ms key (false, false), true)

set_option maxHeartbeats 4000000 in
set_option maxRecDepth 100000 in
theorem srl_Adopt {b : Nat} {nb : Nat} {ab : Nat} {gb : Nat} {mb : Nat} {n : Nat} {most : Int} {target : Int} {ns : List ByteArray} {cs : List ByteArray} {gs : List ByteArray} {ms : List (ByteArray × (Bool × Bool))} (key : ByteArray) {n' : Nat} (hb : n ≤ 1000000000) (hn : n + 1 ≤ n') : Tri Try.prog 45 #[pV b 0, sV key] (srlL b nb ab gb mb most target ns cs gs ms n) (Same (srlL b nb ab gb mb most target ((srlAdopt most target ns cs gs ms key).1) cs ((srlAdopt most target ns cs gs ms key).2.1) ((srlAdopt most target ns cs gs ms key).2.2.1) n') (bV ((srlAdopt most target ns cs gs ms key).2.2.2))) := by
  refine Tri.enter (args := [pV b 0, sV key]) Try.func45 rfl rfl rfl (fun B wz => ?_)
  refine Cd.seq ?_
  refine Cd.region rfl ?_
  refine Sq.vals [0] (rest := []) [bV false] (fun w => by kernel_rfl) ?_
  refine Sq.done ?_
  refine Ex'.next ?_
  refine Cd.seq ?_
  refine Cd.seq ?_
  rcases Bool.eq_false_or_eq_true (srlHas most target ns cs gs ms key) with h1 | h1
  ·
    refine Cd.plan [0, 0, 3, 7, 15, 31, 15, 79, 207, 463, 1023, 2047] [(2, [(0, false, 0), (1, false, 0), (2, false, 0), (3, false, 0), (4, false, 0)])] [] [] [] [fun g => pV b 0, fun g => sV key, fun g => bV true, fun g => bV true, fun g => undef, fun g => undef, fun g => undef, fun g => undef, fun g => undef, fun g => undef, fun g => undef, fun g => bV true] (by kernel_rfl) (by kernel_rfl) rfl (trivial) ?_ ?_
    · exact ⟨ob_val fun g w => by kernel_rfl, ob_val fun g w => by kernel_rfl, ob_s (l := fun g => [srlB b nb ab gb mb most target, llR nb ns n, llR ab cs n, llR gb gs n, mapR Value.string markV mb ms]) (l' := fun g => [srlB b nb ab gb mb most target, llR nb ns n, llR ab cs n, llR gb gs n, mapR Value.string markV mb ms]) (v := fun g => bV true) (fun g => o_call (by kernel_rfl) Try.call42 ((srl_Has (n := n) (most := most) (target := target) (ns := ns) (cs := cs) (gs := gs) (ms := ms) key (by omega)).re (congrArg Value.bool (show srlHas most target ns cs gs ms key = true from h1)))) (fun g => by kernel_rfl), ob_val fun g w => by kernel_rfl, ob_val fun g w => by kernel_rfl, ob_val fun g w => by kernel_rfl, ob_val fun g w => by kernel_rfl, ob_val fun g w => by kernel_rfl, ob_val fun g w => by kernel_rfl, ob_val fun g w => by kernel_rfl, ob_val fun g w => by kernel_rfl, ob_val fun g w => by kernel_rfl, trivial⟩
    intro g
    refine Ex'.sub (subB_spec [0, 1, 4, 16]) ?_
    refine Ex'.as [0, 1, 2, 3, 4] (σ' := [(0, pV b 0), (1, sV key), (4, bV false), (16, bV true)]) (Γ' := [srlB b nb ab gb mb most target, llR nb ns n, llR ab cs n, llR gb gs n, mapR Value.string markV mb ms]) (by kernel_rfl) rfl (by kernel_rfl) (by kernel_rfl) ?_
    refine Ex'.next ?_
    refine Cd.condT (by kernel_rfl) ?_
    refine Cd.seq ?_
    refine Cd.region rfl ?_
    refine Sq.vals [0] (rest := []) [bV false] (fun w => by kernel_rfl) ?_
    refine Sq.done ?_
    refine Ex'.next ?_
    refine Cd.ret ?_
    refine Ex'.thenRet ?_
    refine Ex'.ret Try.results45 (RVs.tmp (v := bV false) (by kernel_rfl) (RVs.nil)) (fun w hw => ?_)
    have e : srlAdopt most target ns cs gs ms key = (ns, gs, ms, false) := by unfold srlAdopt; rw [if_pos h1]
    rw [e]
    exact ⟨_, ⟨rfl, rfl⟩, (((hw.conv 1 (R := llR nb ns n) (R' := llR nb ns n') (by kernel_rfl) (llR.up (by omega))).conv 2 (R := llR ab cs n) (R' := llR ab cs n') (by kernel_rfl) (llR.up (by omega))).conv 3 (R := llR gb gs n) (R' := llR gb gs n') (by kernel_rfl) (llR.up (by omega))).pickB [0, 1, 2, 3, 4] (by kernel_rfl) (by kernel_rfl) (by kernel_rfl)⟩
  ·
    refine Cd.plan [0, 0, 3, 7, 15, 31, 15, 79, 207, 463, 1023, 2047] [(2, [(0, false, 0), (1, false, 0), (2, false, 0), (3, false, 0), (4, false, 0)]), (5, [(0, false, 0), (1, false, 0), (2, false, 0), (3, false, 0), (4, false, 0)]), (9, [(0, false, 0)])] [] [] [] [fun g => pV b 0, fun g => sV key, fun g => bV false, fun g => bV false, fun g => pV b 0, fun g => iV (srlLen most target ns cs gs ms), fun g => pV b 0, fun g => pV b 0, fun g => pV b 0, fun g => iV most, fun g => bV (decide (srlLen most target ns cs gs ms ≥ most)), fun g => bV (decide (srlLen most target ns cs gs ms ≥ most))] (by kernel_rfl) (by kernel_rfl) rfl (trivial) ?_ ?_
    · exact ⟨ob_val fun g w => by kernel_rfl, ob_val fun g w => by kernel_rfl, ob_s (l := fun g => [srlB b nb ab gb mb most target, llR nb ns n, llR ab cs n, llR gb gs n, mapR Value.string markV mb ms]) (l' := fun g => [srlB b nb ab gb mb most target, llR nb ns n, llR ab cs n, llR gb gs n, mapR Value.string markV mb ms]) (v := fun g => bV false) (fun g => o_call (by kernel_rfl) Try.call42 ((srl_Has (n := n) (most := most) (target := target) (ns := ns) (cs := cs) (gs := gs) (ms := ms) key (by omega)).re (congrArg Value.bool (show srlHas most target ns cs gs ms key = false from h1)))) (fun g => by kernel_rfl), ob_val fun g w => by kernel_rfl, ob_val fun g w => by kernel_rfl, ob_s (l := fun g => [srlB b nb ab gb mb most target, llR nb ns n, llR ab cs n, llR gb gs n, mapR Value.string markV mb ms]) (l' := fun g => [srlB b nb ab gb mb most target, llR nb ns n, llR ab cs n, llR gb gs n, mapR Value.string markV mb ms]) (v := fun g => iV (srlLen most target ns cs gs ms)) (fun g => o_call (by kernel_rfl) Try.call40 (srl_Len (n := n) (most := most) (target := target) (ns := ns) (cs := cs) (gs := gs) (ms := ms) (by omega))) (fun g => by kernel_rfl), ob_val fun g w => by kernel_rfl, ob_val fun g w => by kernel_rfl, ob_val fun g w => by kernel_rfl, ob_s (l := fun g => [srlB b nb ab gb mb most target]) (l' := fun g => [srlB b nb ab gb mb most target]) (v := fun g => iV most) (fun g => o_load (i := 0) (v := iV most) (by kernel_rfl) (by kernel_rfl) (by kernel_rfl)) (fun g => by kernel_rfl), ob_val fun g w => by kernel_rfl, ob_val fun g w => by kernel_rfl, trivial⟩
    intro g
    refine Ex'.sub (subB_spec [0, 1, 4, 16]) ?_
    refine Ex'.as [0, 1, 2, 3, 4] (σ' := [(0, pV b 0), (1, sV key), (4, bV false), (16, bV (decide (srlLen most target ns cs gs ms ≥ most)))]) (Γ' := [srlB b nb ab gb mb most target, llR nb ns n, llR ab cs n, llR gb gs n, mapR Value.string markV mb ms]) (by kernel_rfl) rfl (by kernel_rfl) (by kernel_rfl) ?_
    refine Ex'.next ?_
    refine Cd.case (p := srlLen most target ns cs gs ms ≥ most) (by kernel_rfl) (fun h2 => ?_) (fun h2 => ?_)
    ·
      refine Cd.seq ?_
      refine Cd.region rfl ?_
      refine Sq.vals [0] (rest := []) [bV false] (fun w => by kernel_rfl) ?_
      refine Sq.done ?_
      refine Ex'.next ?_
      refine Cd.ret ?_
      refine Ex'.thenRet ?_
      refine Ex'.ret Try.results45 (RVs.tmp (v := bV false) (by kernel_rfl) (RVs.nil)) (fun w hw => ?_)
      have e : srlAdopt most target ns cs gs ms key = (ns, gs, ms, false) := by unfold srlAdopt; rw [if_neg (Bool.eq_false_iff.1 h1), if_pos h2]
      rw [e]
      exact ⟨_, ⟨rfl, rfl⟩, (((hw.conv 1 (R := llR nb ns n) (R' := llR nb ns n') (by kernel_rfl) (llR.up (by omega))).conv 2 (R := llR ab cs n) (R' := llR ab cs n') (by kernel_rfl) (llR.up (by omega))).conv 3 (R := llR gb gs n) (R' := llR gb gs n') (by kernel_rfl) (llR.up (by omega))).pickB [0, 1, 2, 3, 4] (by kernel_rfl) (by kernel_rfl) (by kernel_rfl)⟩
    ·
      refine Cd.skip ?_
      refine Ex'.next ?_
      refine Cd.seq ?_
      refine Cd.region rfl ?_
      refine Sq.vals [0, 1, 2] (rest := [3, 4, 5]) [pV b 0, pV b 0, pV b 4] (fun w => by kernel_rfl) ?_
      refine Sq.same [0] (l := [srlB b nb ab gb mb most target]) (o_load (i := 4) (v := pV gb 0) (by kernel_rfl) (by kernel_rfl) (by kernel_rfl)) (by kernel_rfl) rfl (by kernel_rfl) rfl ?_
      refine Sq.vals [4] (rest := [5]) [sV key] (fun w => by kernel_rfl) ?_
      refine Sq.same [3] (l := [llR gb gs n]) (o_call (by kernel_rfl) Try.call68 (t_Remove (ks := gs) (n := n) key (by omega))) (by kernel_rfl) rfl (by kernel_rfl) rfl ?_
      refine Sq.done ?_
      refine Ex'.next ?_
      refine Cd.seq ?_
      refine Cd.region rfl ?_
      refine Sq.vals [0, 1, 2] (rest := [3, 4, 5]) [pV b 0, pV b 0, pV b 2] (fun w => by kernel_rfl) ?_
      refine Sq.same [0] (l := [srlB b nb ab gb mb most target]) (o_load (i := 2) (v := pV nb 0) (by kernel_rfl) (by kernel_rfl) (by kernel_rfl)) (by kernel_rfl) rfl (by kernel_rfl) rfl ?_
      refine Sq.vals [4] (rest := [5]) [sV key] (fun w => by kernel_rfl) ?_
      refine Sq.same [1] (l := [llR nb ns n]) (o_call (by kernel_rfl) Try.call63 (t_Front (ks := ns) (n := n) key (by omega))) (by kernel_rfl) rfl (by kernel_rfl) rfl ?_
      refine Sq.done ?_
      refine Ex'.next ?_
      refine Cd.seq ?_
      refine Cd.region rfl ?_
      refine Sq.vals [0, 1, 2] (rest := [3, 4, 5, 6]) [pV b 0, pV b 0, pV b 5] (fun w => by kernel_rfl) ?_
      refine Sq.same [0] (l := [srlB b nb ab gb mb most target]) (o_load (i := 5) (v := .map (some mb)) (by kernel_rfl) (by kernel_rfl) (by kernel_rfl)) (by kernel_rfl) rfl (by kernel_rfl) rfl ?_
      refine Sq.vals [4, 5] (rest := [6]) [sV key, .agg #[bV false, bV false]] (fun w => by kernel_rfl) ?_
      refine Sq.same [4] (l := [mapR Value.string markV mb ms]) (o_mapUpdate key (false, false) (by kernel_rfl) (by kernel_rfl) (by kernel_rfl) key_str Try.underlying81) (by kernel_rfl) rfl (by kernel_rfl) rfl ?_
      refine Sq.done ?_
      refine Ex'.next ?_
      refine Cd.seq ?_
      refine Cd.region rfl ?_
      refine Sq.vals [0] (rest := []) [bV true] (fun w => by kernel_rfl) ?_
      refine Sq.done ?_
      refine Ex'.next ?_
      refine Cd.ret ?_
      refine Ex'.ret Try.results45 (RVs.tmp (v := bV true) (by kernel_rfl) (RVs.nil)) (fun w hw => ?_)
      have e : srlAdopt most target ns cs gs ms key = (fr ns key, rm gs key, put ms key (false, false), true) := by unfold srlAdopt; rw [if_neg (Bool.eq_false_iff.1 h1), if_neg h2]
      rw [e]
      exact ⟨_, ⟨rfl, rfl⟩, (((hw.conv 1 (R := llR nb (fr ns key) (n + 1)) (R' := llR nb (fr ns key) n') (by kernel_rfl) (llR.up (by omega))).conv 2 (R := llR ab cs n) (R' := llR ab cs n') (by kernel_rfl) (llR.up (by omega))).conv 3 (R := llR gb (rm gs key) n) (R' := llR gb (rm gs key) n') (by kernel_rfl) (llR.up (by omega))).pickB [0, 1, 2, 3, 4] (by kernel_rfl) (by kernel_rfl) (by kernel_rfl)⟩

def srlKeys (most : Int) (target : Int) (ns : List ByteArray) (cs : List ByteArray) (gs : List ByteArray) (ms : List (ByteArray × (Bool × Bool)))  : List ByteArray :=
  ns.reverse ++ cs.reverse

set_option maxHeartbeats 4000000 in
set_option maxRecDepth 100000 in
theorem srl_Keys {b : Nat} {nb : Nat} {ab : Nat} {gb : Nat} {mb : Nat} {n : Nat} {most : Int} {target : Int} {ns : List ByteArray} {cs : List ByteArray} {gs : List ByteArray} {ms : List (ByteArray × (Bool × Bool))}  (hb : n ≤ 1000000000) : Tri Try.prog 38 #[pV b 0] (srlL b nb ab gb mb most target ns cs gs ms n) (PostE (fun _ => True) id fun v => srlL b nb ab gb mb most target ns cs gs ms n ++ [rowR 9 1 v (srlKeys most target ns cs gs ms).length ((srlKeys most target ns cs gs ms).map Value.string)]) := by
  refine Tri.enter (args := [pV b 0]) Try.func38 rfl rfl rfl (fun B wz => ?_)
  refine Cd.fact (i := 1) rfl llR.le ?_; rintro ⟨_, hl1⟩
  refine Cd.fact (i := 2) rfl llR.le ?_; rintro ⟨_, hl2⟩
  refine Cd.fact (i := 3) rfl llR.le ?_; rintro ⟨_, hl3⟩
  refine Cd.seq ?_
  refine Cd.region rfl ?_
  refine Sq.vals [0] (rest := []) [.slice none 0 0] (fun w => by kernel_rfl) ?_
  refine Sq.done ?_
  refine Ex'.next ?_
  refine Cd.seq ?_
  refine Cd.plan [0, 1, 3, 7, 15, 0, 32, 96, 224, 511, 1023, 2047] [(3, [(0, false, 0)]), (4, [(1, false, 0)]), (8, [(0, false, 0)]), (9, [(2, false, 0)])] [4, 9] [(4, fun _ => True), (9, fun _ => True)] [(9, 4, fun g => rowR 9 1 (.slice (addrOf (g 4)) ns.length (capOf (g 4))) ns.length (ns.map Value.string)), (14, 9, fun g => rowR 9 1 (.slice (addrOf (g 9)) cs.length (capOf (g 9))) cs.length (cs.map Value.string))] [fun g => pV b 0, fun g => pV b 0, fun g => pV b 2, fun g => pV nb 0, fun g => .slice (addrOf (g 4)) ns.length (capOf (g 4)), fun g => pV b 0, fun g => pV b 0, fun g => pV b 3, fun g => pV ab 0, fun g => .slice (addrOf (g 9)) cs.length (capOf (g 9)), fun g => .slice (addrOf (g 4)) ns.length (capOf (g 4)), fun g => .slice (addrOf (g 9)) cs.length (capOf (g 9))] (by kernel_rfl) (by kernel_rfl) rfl (⟨⟨⟨fun _ _ => rfl, ⟨fun _ _ => rfl, ⟨fun _ _ => rfl, ⟨fun _ _ => rfl, ⟨trivial, ⟨fun _ _ => rfl, ⟨fun _ _ => rfl, ⟨fun _ _ => rfl, ⟨fun _ _ => rfl, ⟨trivial, ⟨trivial, ⟨trivial, trivial⟩⟩⟩⟩⟩⟩⟩⟩⟩⟩⟩⟩, ⟨trivial, ⟨trivial, trivial⟩⟩⟩, ⟨⟨⟨fun _ _ => rfl, ⟨fun _ _ => rfl, ⟨fun _ _ => rfl, ⟨fun _ _ => rfl, ⟨fun _ _ => rfl, ⟨fun _ _ => rfl, ⟨fun _ _ => rfl, ⟨fun _ _ => rfl, ⟨fun _ _ => rfl, ⟨trivial, ⟨trivial, ⟨trivial, trivial⟩⟩⟩⟩⟩⟩⟩⟩⟩⟩⟩⟩, ⟨fun _ _ => rfl, ⟨trivial, trivial⟩⟩⟩, trivial⟩⟩) ?_ ?_
  · exact ⟨ob_val fun g w => by kernel_rfl, ob_val fun g w => by kernel_rfl, ob_val fun g w => by kernel_rfl, ob_s (l := fun g => [srlB b nb ab gb mb most target]) (l' := fun g => [srlB b nb ab gb mb most target]) (v := fun g => pV nb 0) (fun g => o_load (i := 2) (v := pV nb 0) (by kernel_rfl) (by kernel_rfl) (by kernel_rfl)) (fun g => by kernel_rfl), ob_d (ι := Option Addr × Nat) (l := fun g => [llR nb ns n]) (L := fun g y => [llR nb ns n, rowR 9 1 (.slice y.1 ns.length y.2) ns.length (ns.map Value.string)]) (fun y => .slice y.1 ns.length y.2) (fun g => o_call (by kernel_rfl) Try.call64 (Tri.rowA (t_Keys (ks := ns) (n := n) (by omega)))) (fun g => by kernel_rfl) (fun g y _ => ⟨trivial, by kernel_rfl, by kernel_rfl⟩), ob_val fun g w => by kernel_rfl, ob_val fun g w => by kernel_rfl, ob_val fun g w => by kernel_rfl, ob_s (l := fun g => [srlB b nb ab gb mb most target]) (l' := fun g => [srlB b nb ab gb mb most target]) (v := fun g => pV ab 0) (fun g => o_load (i := 3) (v := pV ab 0) (by kernel_rfl) (by kernel_rfl) (by kernel_rfl)) (fun g => by kernel_rfl), ob_d (ι := Option Addr × Nat) (l := fun g => [llR ab cs n]) (L := fun g y => [llR ab cs n, rowR 9 1 (.slice y.1 cs.length y.2) cs.length (cs.map Value.string)]) (fun y => .slice y.1 cs.length y.2) (fun g => o_call (by kernel_rfl) Try.call64 (Tri.rowA (t_Keys (ks := cs) (n := n) (by omega)))) (fun g => by kernel_rfl) (fun g y _ => ⟨trivial, by kernel_rfl, by kernel_rfl⟩), ob_val fun g w => by kernel_rfl, ob_val fun g w => by kernel_rfl, trivial⟩
  intro g
  refine Ex'.sub (subB_spec [2, 3, 4]) ?_
  refine Ex'.as [0, 1, 2, 3, 4, 9, 14] (σ' := [(2, .slice none 0 0), (3, .slice (addrOf (g 4)) ns.length (capOf (g 4))), (4, .slice (addrOf (g 9)) cs.length (capOf (g 9)))]) (Γ' := [srlB b nb ab gb mb most target, llR nb ns n, llR ab cs n, llR gb gs n, mapR Value.string markV mb ms, rowR 9 1 (.slice (addrOf (g 4)) ns.length (capOf (g 4))) ns.length (ns.map Value.string), rowR 9 1 (.slice (addrOf (g 9)) cs.length (capOf (g 9))) cs.length (cs.map Value.string)]) (by kernel_rfl) rfl (by kernel_rfl) (by kernel_rfl) ?_
  generalize addrOf (g 4) = a3
  generalize capOf (g 4) = c4
  generalize addrOf (g 9) = a5
  generalize capOf (g 9) = c6
  refine Ex'.next ?_
  refine Cd.seq ?_
  refine Cd.region rfl ?_
  refine Sq.vals [0] (rest := [1]) [.slice a3 ns.length c4] (fun w => by kernel_rfl) ?_
  refine Sq.same [5] (l := [rowR 9 1 (.slice a3 ns.length c4) ns.length (ns.map Value.string)]) (o_call (by kernel_rfl) Try.call65 (t_Reverse (ks := ns) (by omega))) (by kernel_rfl) rfl (by kernel_rfl) rfl ?_
  refine Sq.done ?_
  refine Ex'.next ?_
  refine Cd.seq ?_
  refine Cd.region rfl ?_
  refine Sq.vals [0] (rest := [1]) [.slice a5 cs.length c6] (fun w => by kernel_rfl) ?_
  refine Sq.same [6] (l := [rowR 9 1 (.slice a5 cs.length c6) cs.length (cs.map Value.string)]) (o_call (by kernel_rfl) Try.call65 (t_Reverse (ks := cs) (by omega))) (by kernel_rfl) rfl (by kernel_rfl) rfl ?_
  refine Sq.done ?_
  refine Ex'.next ?_
  refine Cd.seq ?_
  refine Cd.region rfl ?_
  refine Sq.vals [0, 1] (rest := [2, 3]) [.slice a3 ns.length c4, .slice a5 cs.length c6] (fun w => by kernel_rfl) ?_
  refine Sq.ex [5, 6] (l := [rowR 9 1 (.slice a3 ns.length c4) ns.length (ns.reverse.map Value.string), rowR 9 1 (.slice a5 cs.length c6) cs.length (cs.reverse.map Value.string)]) (o_pushAll (n' := (ns.reverse ++ cs.reverse).length) (xs' := (ns.reverse ++ cs.reverse).map Value.string) (m := cs.length) (news := cs.reverse.map Value.string) (by kernel_rfl) (by kernel_rfl) (fun w S h => ⟨S, Row.cells h⟩) sl_str (by decide) (ones _) (by unfold maxLen; omega) (by omega) (by first | exact List.length_append.symm | simp) (by simp)) (by kernel_rfl) rfl (by kernel_rfl) (fun _ => Nat.le_of_ble_eq_true (by kernel_rfl)) ?_; rintro v7 _
  refine Sq.fact (i := 5) (R := rowR 9 1 v7 ((ns.reverse ++ cs.reverse).length) ((ns.reverse ++ cs.reverse).map Value.string)) (by kernel_rfl) row_slice ?_; rintro ⟨a8, c9, rfl, hc9, hc9'⟩
  have hc9'' : c9 ≤ 9223372036854775807 := hc9'
  refine Sq.vals [3] (rest := []) [.slice a8 ((ns.reverse ++ cs.reverse).length) c9] (fun w => by kernel_rfl) ?_
  refine Sq.done ?_
  refine Ex'.next ?_
  refine Cd.ret ?_
  refine Ex'.ret Try.results38 (RVs.tmp (v := .slice a8 ((ns.reverse ++ cs.reverse).length) c9) (by kernel_rfl) (RVs.nil)) (fun w hw => ?_)
  have e : srlKeys most target ns cs gs ms = ns.reverse ++ cs.reverse := by unfold srlKeys; rfl
  rw [e]
  exact ⟨_, ⟨_, trivial, rfl, rfl⟩, hw.pickB [0, 1, 2, 3, 4, 5] (by kernel_rfl) (by kernel_rfl) (by kernel_rfl)⟩

def srlNew (most0 : Int) : Int × Int × List ByteArray × List ByteArray × List ByteArray × List (ByteArray × (Bool × Bool)) :=
  if (0 : Int) > most0 then (0, 0 / 2, [], [], [], []) else (most0, most0 / 2, [], [], [], [])

set_option maxHeartbeats 4000000 in
set_option maxRecDepth 100000 in
theorem srl_New (most0 : Int) (hmost0 : -9223372036854775808 ≤ most0 ∧ most0 ≤ 9223372036854775807) : Tri Try.prog 36 #[iV most0] [] (PostE (ι := Nat × Nat × Nat × Nat × Nat) (fun _ => True) (fun x => pV x.1 0) fun x => srlL x.1 x.2.1 x.2.2.1 x.2.2.2.1 x.2.2.2.2 ((srlNew most0).1) ((srlNew most0).2.1) ((srlNew most0).2.2.1) ((srlNew most0).2.2.2.1) ((srlNew most0).2.2.2.2.1) ((srlNew most0).2.2.2.2.2) 0) := by
  refine Tri.enter (args := [iV most0]) Try.func36 rfl rfl rfl (fun B wz => ?_)
  refine Cd.seq ?_
  refine Cd.region rfl ?_
  refine Sq.vals [0] (rest := []) [.pointer none] (fun w => by kernel_rfl) ?_
  refine Sq.done ?_
  refine Ex'.next ?_
  refine Cd.seq ?_
  refine Cd.region rfl ?_
  refine Sq.vals [0] (rest := [1, 2]) [iV most0] (fun w => by kernel_rfl) ?_
  by_cases h1 : (0 : Int) > most0
  ·
    refine Sq.v (r := iV (if (0 : Int) > most0 then 0 else most0)) (pureV (by kernel_rfl) rfl fun w => by kernel_rfl) rfl (by kernel_rfl) ?_
    refine Sq.re 4 rfl (by rw [if_pos h1]) ?_
    refine Sq.vals [2] (rest := []) [iV 0] (fun w => by kernel_rfl) ?_
    refine Sq.done ?_
    refine Ex'.next ?_
    refine Cd.seq ?_
    refine Cd.region rfl ?_
    refine Sq.vals [0, 1] (rest := [2, 3, 4, 5, 6, 7, 8, 9]) [iV 0, iV 0] (fun w => by kernel_rfl) ?_
    refine Sq.v (r := iV (0 / 2)) (o_quo (k := .i64) (a := 0) (b := 2) (c := 0 / 2) (by kernel_rfl) (by kernel_rfl) (by decide) (w64 (Int.tdiv_eq_ediv_of_nonneg (by omega)) (by omega))) rfl (by kernel_rfl) ?_
    refine Sq.ex [] (l := []) (o_call (by kernel_rfl) Try.call59 (t_New)) (by kernel_rfl) rfl (by kernel_rfl) (fun _ => Nat.le_of_ble_eq_true (by kernel_rfl)) ?_; rintro b2 _
    refine Sq.ex [] (l := []) (o_call (by kernel_rfl) Try.call59 (t_New)) (by kernel_rfl) rfl (by kernel_rfl) (fun _ => Nat.le_of_ble_eq_true (by kernel_rfl)) ?_; rintro b3 _
    refine Sq.ex [] (l := []) (o_call (by kernel_rfl) Try.call59 (t_New)) (by kernel_rfl) rfl (by kernel_rfl) (fun _ => Nat.le_of_ble_eq_true (by kernel_rfl)) ?_; rintro b4 _
    refine Sq.ex [] (l := []) (o_newMap Value.string markV) (by kernel_rfl) rfl (by kernel_rfl) (fun _ => Nat.zero_le _) ?_; intro b5 _
    refine Sq.vals [7] (rest := [8, 9]) [.agg #[iV 0, iV (0 / 2), pV b2 0, pV b3 0, pV b4 0, .map (some b5)]] (fun w => by kernel_rfl) ?_
    refine Sq.ex [] (l := []) (o_newBox (v := .agg #[iV 0, iV (0 / 2), pV b2 0, pV b3 0, pV b4 0, .map (some b5)]) [iV 0, iV (0 / 2), pV b2 0, pV b3 0, pV b4 0, .map (some b5)] (by kernel_rfl) rfl) (by kernel_rfl) rfl (by kernel_rfl) (fun _ => Nat.zero_le _) ?_; intro b6 _
    refine Sq.vals [9] (rest := []) [pV b6 0] (fun w => by kernel_rfl) ?_
    refine Sq.done ?_
    refine Ex'.next ?_
    refine Cd.ret ?_
    refine Ex'.ret Try.results36 (RVs.tmp (v := pV b6 0) (by kernel_rfl) (RVs.nil)) (fun w hw => ?_)
    have e : srlNew most0 = (0, 0 / 2, [], [], [], []) := by unfold srlNew; rw [if_pos h1]
    rw [e]
    exact ⟨_, ⟨(b6, b2, b3, b4, b5), trivial, rfl, rfl⟩, hw.pickB [4, 0, 1, 2, 3] (by kernel_rfl) (by kernel_rfl) (by kernel_rfl)⟩
  ·
    refine Sq.v (r := iV (if (0 : Int) > most0 then 0 else most0)) (pureV (by kernel_rfl) rfl fun w => by kernel_rfl) rfl (by kernel_rfl) ?_
    refine Sq.re 4 rfl (by rw [if_neg h1]) ?_
    refine Sq.vals [2] (rest := []) [iV most0] (fun w => by kernel_rfl) ?_
    refine Sq.done ?_
    refine Ex'.next ?_
    refine Cd.seq ?_
    refine Cd.region rfl ?_
    refine Sq.vals [0, 1] (rest := [2, 3, 4, 5, 6, 7, 8, 9]) [iV most0, iV most0] (fun w => by kernel_rfl) ?_
    refine Sq.v (r := iV (most0 / 2)) (o_quo (k := .i64) (a := most0) (b := 2) (c := most0 / 2) (by kernel_rfl) (by kernel_rfl) (by decide) (w64 (Int.tdiv_eq_ediv_of_nonneg (by omega)) (by omega))) rfl (by kernel_rfl) ?_
    refine Sq.ex [] (l := []) (o_call (by kernel_rfl) Try.call59 (t_New)) (by kernel_rfl) rfl (by kernel_rfl) (fun _ => Nat.le_of_ble_eq_true (by kernel_rfl)) ?_; rintro b7 _
    refine Sq.ex [] (l := []) (o_call (by kernel_rfl) Try.call59 (t_New)) (by kernel_rfl) rfl (by kernel_rfl) (fun _ => Nat.le_of_ble_eq_true (by kernel_rfl)) ?_; rintro b8 _
    refine Sq.ex [] (l := []) (o_call (by kernel_rfl) Try.call59 (t_New)) (by kernel_rfl) rfl (by kernel_rfl) (fun _ => Nat.le_of_ble_eq_true (by kernel_rfl)) ?_; rintro b9 _
    refine Sq.ex [] (l := []) (o_newMap Value.string markV) (by kernel_rfl) rfl (by kernel_rfl) (fun _ => Nat.zero_le _) ?_; intro b10 _
    refine Sq.vals [7] (rest := [8, 9]) [.agg #[iV most0, iV (most0 / 2), pV b7 0, pV b8 0, pV b9 0, .map (some b10)]] (fun w => by kernel_rfl) ?_
    refine Sq.ex [] (l := []) (o_newBox (v := .agg #[iV most0, iV (most0 / 2), pV b7 0, pV b8 0, pV b9 0, .map (some b10)]) [iV most0, iV (most0 / 2), pV b7 0, pV b8 0, pV b9 0, .map (some b10)] (by kernel_rfl) rfl) (by kernel_rfl) rfl (by kernel_rfl) (fun _ => Nat.zero_le _) ?_; intro b11 _
    refine Sq.vals [9] (rest := []) [pV b11 0] (fun w => by kernel_rfl) ?_
    refine Sq.done ?_
    refine Ex'.next ?_
    refine Cd.ret ?_
    refine Ex'.ret Try.results36 (RVs.tmp (v := pV b11 0) (by kernel_rfl) (RVs.nil)) (fun w hw => ?_)
    have e : srlNew most0 = (most0, most0 / 2, [], [], [], []) := by unfold srlNew; rw [if_neg h1]
    rw [e]
    exact ⟨_, ⟨(b11, b7, b8, b9, b10), trivial, rfl, rfl⟩, hw.pickB [4, 0, 1, 2, 3] (by kernel_rfl) (by kernel_rfl) (by kernel_rfl)⟩

def srlGhosts (most : Int) (target : Int) (ns : List ByteArray) (cs : List ByteArray) (gs : List ByteArray) (ms : List (ByteArray × (Bool × Bool)))  : List ByteArray :=
  gs

set_option maxHeartbeats 4000000 in
set_option maxRecDepth 100000 in
theorem srl_Ghosts {b : Nat} {nb : Nat} {ab : Nat} {gb : Nat} {mb : Nat} {n : Nat} {most : Int} {target : Int} {ns : List ByteArray} {cs : List ByteArray} {gs : List ByteArray} {ms : List (ByteArray × (Bool × Bool))}  (hb : n ≤ 1000000000) : Tri Try.prog 41 #[pV b 0] (srlL b nb ab gb mb most target ns cs gs ms n) (PostE (fun _ => True) id fun v => srlL b nb ab gb mb most target ns cs gs ms n ++ [rowR 9 1 v (srlGhosts most target ns cs gs ms).length ((srlGhosts most target ns cs gs ms).map Value.string)]) := by
  refine Tri.enter (args := [pV b 0]) Try.func41 rfl rfl rfl (fun B wz => ?_)
  refine Cd.fact (i := 1) rfl llR.le ?_; rintro ⟨_, hl1⟩
  refine Cd.fact (i := 2) rfl llR.le ?_; rintro ⟨_, hl2⟩
  refine Cd.fact (i := 3) rfl llR.le ?_; rintro ⟨_, hl3⟩
  refine Cd.seq ?_
  refine Cd.region rfl ?_
  refine Sq.vals [0] (rest := []) [.slice none 0 0] (fun w => by kernel_rfl) ?_
  refine Sq.done ?_
  refine Ex'.next ?_
  refine Cd.seq ?_
  refine Cd.region rfl ?_
  refine Sq.vals [0, 1, 2] (rest := [3, 4, 5]) [pV b 0, pV b 0, pV b 4] (fun w => by kernel_rfl) ?_
  refine Sq.same [0] (l := [srlB b nb ab gb mb most target]) (o_load (i := 4) (v := pV gb 0) (by kernel_rfl) (by kernel_rfl) (by kernel_rfl)) (by kernel_rfl) rfl (by kernel_rfl) rfl ?_
  refine Sq.ex [3] (l := [llR gb gs n]) (o_call (by kernel_rfl) Try.call64 (t_Keys (ks := gs) (n := n) (by omega))) (by kernel_rfl) rfl (by kernel_rfl) (fun _ => Nat.le_of_ble_eq_true (by kernel_rfl)) ?_; rintro v1 _
  refine Sq.fact (i := 5) (R := rowR 9 1 v1 gs.length (gs.map Value.string)) (by kernel_rfl) row_slice ?_; rintro ⟨a2, c3, rfl, hc3, hc3'⟩
  have hc3'' : c3 ≤ 9223372036854775807 := hc3'
  refine Sq.vals [5] (rest := []) [.slice a2 gs.length c3] (fun w => by kernel_rfl) ?_
  refine Sq.done ?_
  refine Ex'.next ?_
  refine Cd.ret ?_
  refine Ex'.ret Try.results41 (RVs.tmp (v := .slice a2 gs.length c3) (by kernel_rfl) (RVs.nil)) (fun w hw => ?_)
  have e : srlGhosts most target ns cs gs ms = gs := by unfold srlGhosts; rfl
  rw [e]
  exact ⟨_, ⟨_, trivial, rfl, rfl⟩, hw.pickB [0, 1, 2, 3, 4, 5] (by kernel_rfl) (by kernel_rfl) (by kernel_rfl)⟩

end Go.Proofs.Ytjijjfdkghcjkaa
