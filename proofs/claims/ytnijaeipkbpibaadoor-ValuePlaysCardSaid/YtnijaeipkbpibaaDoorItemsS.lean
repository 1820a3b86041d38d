/- Items in the order of their keys: slices.SortFunc at items. -/
import Derived.Test.YtnijaeipkbpibaaDoorItems
import Derived.Test.YtnijaeipkbpibaaDoorSortS
import Derived.Sort.Walk0
set_option linter.unusedVariables false
namespace Go.Proofs.YtnijaeipkbpibaaDoor
open Go.Shelf Go.RowKit Go.MapKept Go.Lib Go.Sort
def Grew (w w' : World) : Prop := ∃ q os', w' = grow (w.drewN q) os'
theorem Grew.refl (w : World) : Grew w w := ⟨0, #[], by simp; rfl⟩
theorem Grew.alloc {w w' : World} (h : Grew w w') (o : Obj) : Grew w (w'.alloc o) := by
  obtain ⟨q, os, rfl⟩ := h; exact ⟨q, os ++ #[o], by rw [alloc_eq_grow, grow_grow]⟩
theorem Grew.trans {w w' w'' : World} (h : Grew w w') (h2 : Grew w' w'') : Grew w w'' := by
  obtain ⟨q, os, rfl⟩ := h; obtain ⟨q2, os2, rfl⟩ := h2
  refine ⟨q + q2, os ++ os2, ?_⟩
  rw [← grow_grow]
  unfold grow World.drewN
  simp [Nat.add_assoc]
theorem Grew.blk {w w' : World} (h : Grew w w') {b : Nat} {l : List Value} {T : TypeId} (hb : Blk w b l T) : Blk w' b l T := by
  obtain ⟨q, os, rfl⟩ := h
  have hlt := hb.lt
  unfold Blk at *
  show (w.heap ++ os)[b]? = _
  rw [Array.getElem?_append_left hlt]; exact hb
theorem Grew.mod {w w' : World} (h : Grew w w') : Mod Nil w w' := by
  obtain ⟨q, os, rfl⟩ := h
  refine ⟨rfl, rfl, rfl, by simp [World.drewN], fun k hk _ => ?_⟩
  show (w.heap ++ os)[k]? = _
  rw [Array.getElem?_append_left hk]

def kcmp (x y : ByteArray) : Int := if x.toList < y.toList then -1 else if y.toList < x.toList then 1 else 0
def icmp (x y : It) : Int := kcmp x.1 y.1
theorem nan_g (s : ByteArray) (W : World) : Calls Tryd.prog 48 #[sV s] W fun e w' => e = .returned (.bool false) ∧ w' = W := by
  go_enter Tryd.func48, Tryd.ntmps48
  go_wp2
  go_ret
  exact ⟨by simp, rfl⟩
theorem bl_not {x y : ByteArray} : (Op.bytesLess x.toList y.toList || x.toList == y.toList) = !decide (y.toList < x.toList) := by
  rw [bytesLess_eq]
  by_cases h : y.toList < x.toList
  · have h1 : ¬ x.toList < y.toList := List.lt_asymm h
    have h2 : x.toList ≠ y.toList := fun e => by rw [e] at h; exact List.lt_irrefl _ h
    simp [h, h1, h2]
  · rcases List.le_iff_lt_or_eq.1 (List.not_lt.1 h) with q | q <;> simp [h, q]
set_option maxRecDepth 20000 in
theorem compare_g (x y : ByteArray) (W : World) : Calls Tryd.prog 38 #[sV x, sV y] W fun e w' => e = .returned (iV (kcmp x y)) ∧ w' = W := by
  have e1 := bytesLess_eq x.toList y.toList
  have e2 := bl_not (x := x) (y := y)
  unfold kcmp
  by_cases h1 : x.toList < y.toList <;> by_cases h2 : y.toList < x.toList <;> simp only [h1, h2, decide_true, decide_false, Bool.not_true, Bool.not_false] at e1 e2 <;> simp only [h1, h2, if_true, if_false]
  all_goals
    clear h1 h2
    go_enter Tryd.func38, Tryd.ntmps38
    go_wp2_with (go_at_call 48; refine (nan_g _ _).mono ?_; rintro e w' ⟨rfl, rfl⟩)
    all_goals (first | (go_ret; exact ⟨rfl, rfl⟩) | (exfalso; simp_all))
set_option maxRecDepth 20000 in
theorem cmp_it (x y : It) (W : World) : Calls Tryd.prog 37 #[.agg (it3 x).toArray, .agg (it3 y).toArray] W fun e w' => e = .returned (.int .i64 (icmp x y)) ∧ Grew W w' := by
  go_enter Tryd.func37, Tryd.ntmps37
  go_wp2_with (go_at_call 38; refine (compare_g _ _ _).mono ?_; rintro e w' ⟨rfl, rfl⟩)
  go_ret
  exact ⟨rfl, ((Grew.refl _).alloc _).alloc _⟩
theorem lt_icmp (x y : It) : ltOf icmp x y = decide (x.1.toList < y.1.toList) := by
  unfold ltOf icmp kcmp
  by_cases h1 : x.1.toList < y.1.toList
  · simp [h1]
  · by_cases h2 : y.1.toList < x.1.toList <;> simp [h1, h2]
theorem swo_icmp : SWO (ltOf icmp) where
  irrefl x := by rw [lt_icmp]; simp [List.lt_irrefl]
  trans x y z h1 h2 := by rw [lt_icmp] at *; simp only [decide_eq_true_eq] at *; exact List.lt_trans h1 h2
  ntrans x y z h1 h2 := by rw [lt_icmp] at *; simp only [decide_eq_false_iff_not] at *; exact List.not_lt.2 (List.le_trans (List.not_lt.1 h2) (List.not_lt.1 h1))
instance : Inhabited It := ⟨(⟨#[]⟩, ⟨#[]⟩, 0)⟩
def Tryd.sortIt_ren : Go.Shelf.Ren := ⟨fun | 6 => 46 | 15 => 59 | 14 => 58 | 28 => 71 | 29 => 72 | 20 => 63 | 21 => 64 | 22 => 65 | 23 => 66 | 24 => 67 | 25 => 68 | 26 => 69 | 27 => 70 | 46 => 73 | 47 => 74 | 48 => 75 | 49 => 76 | 50 => 77 | 57 => 78 | n => n, fun | 22 => 42 | 24 => 24 | 25 => 81 | 3 => 3 | 39 => 119 | 0 => 0 | 53 => 145 | 55 => 147 | 4 => 4 | 46 => 139 | 45 => 138 | 50 => 93 | 5 => 5 | 9 => 9 | 66 => 148 | 70 => 152 | 76 => 154 | 77 => 155 | n => n, fun | n => n⟩
theorem Tryd.sortIt : SlLaysF0.n6 Tryd.prog Tryd.sortIt_ren := {
  mixed := by kernel_rfl,
  f6 := by first | exact Tryd.func46.trans (congrArg some (by kernel_rfl)) | exact ⟨Tryd.f46.name, by decide, Tryd.func46.trans (congrArg some (by kernel_rfl))⟩,
  f14 := by first | exact Tryd.func58.trans (congrArg some (by kernel_rfl)) | exact ⟨Tryd.f58.name, by decide, Tryd.func58.trans (congrArg some (by kernel_rfl))⟩,
  f15 := by first | exact Tryd.func59.trans (congrArg some (by kernel_rfl)) | exact ⟨Tryd.f59.name, by decide, Tryd.func59.trans (congrArg some (by kernel_rfl))⟩,
  f20 := by first | exact Tryd.func63.trans (congrArg some (by kernel_rfl)) | exact ⟨Tryd.f63.name, by decide, Tryd.func63.trans (congrArg some (by kernel_rfl))⟩,
  f21 := by first | exact Tryd.func64.trans (congrArg some (by kernel_rfl)) | exact ⟨Tryd.f64.name, by decide, Tryd.func64.trans (congrArg some (by kernel_rfl))⟩,
  f22 := by first | exact Tryd.func65.trans (congrArg some (by kernel_rfl)) | exact ⟨Tryd.f65.name, by decide, Tryd.func65.trans (congrArg some (by kernel_rfl))⟩,
  f23 := by first | exact Tryd.func66.trans (congrArg some (by kernel_rfl)) | exact ⟨Tryd.f66.name, by decide, Tryd.func66.trans (congrArg some (by kernel_rfl))⟩,
  f24 := by first | exact Tryd.func67.trans (congrArg some (by kernel_rfl)) | exact ⟨Tryd.f67.name, by decide, Tryd.func67.trans (congrArg some (by kernel_rfl))⟩,
  f25 := by first | exact Tryd.func68.trans (congrArg some (by kernel_rfl)) | exact ⟨Tryd.f68.name, by decide, Tryd.func68.trans (congrArg some (by kernel_rfl))⟩,
  f26 := by first | exact Tryd.func69.trans (congrArg some (by kernel_rfl)) | exact ⟨Tryd.f69.name, by decide, Tryd.func69.trans (congrArg some (by kernel_rfl))⟩,
  f27 := by first | exact Tryd.func70.trans (congrArg some (by kernel_rfl)) | exact ⟨Tryd.f70.name, by decide, Tryd.func70.trans (congrArg some (by kernel_rfl))⟩,
  f28 := by first | exact Tryd.func71.trans (congrArg some (by kernel_rfl)) | exact ⟨Tryd.f71.name, by decide, Tryd.func71.trans (congrArg some (by kernel_rfl))⟩,
  f29 := by first | exact Tryd.func72.trans (congrArg some (by kernel_rfl)) | exact ⟨Tryd.f72.name, by decide, Tryd.func72.trans (congrArg some (by kernel_rfl))⟩,
  f46 := by first | exact Tryd.func73.trans (congrArg some (by kernel_rfl)) | exact ⟨Tryd.f73.name, by decide, Tryd.func73.trans (congrArg some (by kernel_rfl))⟩,
  f47 := by first | exact Tryd.func74.trans (congrArg some (by kernel_rfl)) | exact ⟨Tryd.f74.name, by decide, Tryd.func74.trans (congrArg some (by kernel_rfl))⟩,
  f48 := by first | exact Tryd.func75.trans (congrArg some (by kernel_rfl)) | exact ⟨Tryd.f75.name, by decide, Tryd.func75.trans (congrArg some (by kernel_rfl))⟩,
  f49 := by first | exact Tryd.func76.trans (congrArg some (by kernel_rfl)) | exact ⟨Tryd.f76.name, by decide, Tryd.func76.trans (congrArg some (by kernel_rfl))⟩,
  f50 := by first | exact Tryd.func77.trans (congrArg some (by kernel_rfl)) | exact ⟨Tryd.f77.name, by decide, Tryd.func77.trans (congrArg some (by kernel_rfl))⟩,
  f57 := by first | exact Tryd.func78.trans (congrArg some (by kernel_rfl)) | exact ⟨Tryd.f78.name, by decide, Tryd.func78.trans (congrArg some (by kernel_rfl))⟩,
  t0 := Tryd.underlying0,
  a0 := Tryd.isAgg0,
  z0 := Tryd.sizeOf0,
  v0 := Tryd.zeroValue0,
  t3 := Tryd.underlying3,
  a3 := Tryd.isAgg3,
  z3 := Tryd.sizeOf3,
  v3 := Tryd.zeroValue3,
  t4 := Tryd.underlying4,
  a4 := Tryd.isAgg4,
  z4 := Tryd.sizeOf4,
  v4 := Tryd.zeroValue4,
  t5 := Tryd.underlying5,
  a5 := Tryd.isAgg5,
  z5 := Tryd.sizeOf5,
  v5 := Tryd.zeroValue5,
  t9 := Tryd.underlying9,
  a9 := Tryd.isAgg9,
  z9 := Tryd.sizeOf9,
  v9 := Tryd.zeroValue9,
  t22 := Tryd.underlying42,
  a22 := Tryd.isAgg42,
  z22 := Tryd.sizeOf42,
  v22 := Tryd.zeroValue42,
  t25 := Tryd.underlying81,
  a25 := Tryd.isAgg81,
  z25 := Tryd.sizeOf81,
  v25 := Tryd.zeroValue81,
  t39 := Tryd.underlying119,
  a39 := Tryd.isAgg119,
  z39 := Tryd.sizeOf119,
  v39 := Tryd.zeroValue119,
  t45 := Tryd.underlying138,
  a45 := Tryd.isAgg138,
  z45 := Tryd.sizeOf138,
  v45 := Tryd.zeroValue138,
  t46 := Tryd.underlying139,
  a46 := Tryd.isAgg139,
  z46 := Tryd.sizeOf139,
  v46 := Tryd.zeroValue139,
  t50 := Tryd.underlying93,
  a50 := Tryd.isAgg93,
  z50 := Tryd.sizeOf93,
  v50 := Tryd.zeroValue93,
  t53 := Tryd.underlying145,
  a53 := Tryd.isAgg145,
  z53 := Tryd.sizeOf145,
  v53 := Tryd.zeroValue145,
  t55 := Tryd.underlying147,
  a55 := Tryd.isAgg147,
  z55 := Tryd.sizeOf147,
  v55 := Tryd.zeroValue147,
  t66 := Tryd.underlying148,
  a66 := Tryd.isAgg148,
  z66 := Tryd.sizeOf148,
  v66 := Tryd.zeroValue148,
  t70 := Tryd.underlying152,
  a70 := Tryd.isAgg152,
  z70 := Tryd.sizeOf152,
  v70 := Tryd.zeroValue152,
  t76 := Tryd.underlying154,
  a76 := Tryd.isAgg154,
  z76 := Tryd.sizeOf154,
  v76 := Tryd.zeroValue154,
  t77 := Tryd.underlying155,
  a77 := Tryd.isAgg155,
  z77 := Tryd.sizeOf155,
  v77 := Tryd.zeroValue155 }

theorem it_sort {v : Value} {n : Nat} {l : List It} (hn : n ≤ 1000000000) (hl : l.length = n) : Tri Tryd.prog 46 #[v, .func (.func 37) #[] #[]] [rowR 24 3 v n (l.flatMap it3)]
    (PostE (ι := List It) (fun d => d.Perm l ∧ d.Pairwise fun x y => ltOf icmp y x = false) (fun _ => .tuple #[]) fun d => [rowR 24 3 v n (d.flatMap it3)]) := by
  have none0 : ∀ (a : Option Addr) (cap : Nat), n = 0 → Tri Tryd.prog 46 #[.slice a 0 cap, .func (.func 37) #[] #[]] [rowR 24 3 (.slice a 0 cap) n (l.flatMap it3)] (PostE (ι := List It) (fun d => d.Perm l ∧ d.Pairwise fun x y => ltOf icmp y x = false) (fun _ => .tuple #[]) fun d => [rowR 24 3 (.slice a 0 cap) n (d.flatMap it3)]) := by
    intro a cap h0
    have hl0 : l = [] := List.eq_nil_of_length_eq_zero (by omega)
    subst hl0
    have h : Tri Tryd.prog 46 #[.slice a 0 cap, .func (.func 37) #[] #[]] [rowR 24 3 (.slice a 0 cap) n (([] : List It).flatMap it3)] (Same [rowR 24 3 (.slice a 0 cap) n (([] : List It).flatMap it3)] (.tuple #[])) := tri_same fun w own _ => (AnyF.slices_SortFunc_none Tryd.sortIt a cap (.func (.func 37) #[] #[]) w).mono fun _ _ h => ⟨h.1, h.2.symm⟩
    exact h.mono fun v l' ⟨e1, e2⟩ => ⟨[], ⟨.refl _, .nil⟩, e1, e2⟩
  refine Tri.rowCases (fun e1 e2 _ => ?_) (fun b cap e _ _ => ?_)
  · subst e1; exact none0 none 0 e2
  · subst e
    by_cases h0 : n = 0
    · subst h0; exact none0 _ cap rfl
    · have eg : ∀ args w, (callFunc 37 args).run Tryd.prog w = .ok (.enter 37 args) w := enters_of Tryd.func37 (by kernel_rfl) rfl
      have h := tri_sortK (E := 24) Tryd.sortIt Tryd.isAgg24 Tryd.sizeOf24 (enc := it3) (fun _ => rfl) (fun x v hv => by simp at hv; rcases hv with rfl | rfl | rfl <;> rfl) icmp swo_icmp 37 eg (fun x y W => cmp_it x y W) (b := b) (cap := cap) hl (by omega) hn
      change Tri Tryd.prog 46 _ _ _ at h
      exact h
end Go.Proofs.YtnijaeipkbpibaaDoor
