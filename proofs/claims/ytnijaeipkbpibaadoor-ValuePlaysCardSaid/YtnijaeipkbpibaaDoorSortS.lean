/- slices.SortFunc at records, over what is owned apart. Over any program; no condition. -/
import Derived.Test.YtnijaeipkbpibaaDoorSepJ
import Derived.Shelf.SlSortCmp.WholeK
import Derived.Shelf.SlSortCmp.NoneTotal
set_option linter.unusedVariables false
namespace Go.Proofs.YtnijaeipkbpibaaDoor
open Go.Shelf Go.RowKit Go.Lib Go.Sort Go.MapKept

section
variable {α : Type} [Inhabited α] {enc : α → List Value} {k : Nat}
theorem flatK_get (hk : ∀ x, (enc x).length = k) (l : List α) {j : Nat} (hj : j < l.length * k) : (l.flatMap enc)[j]? = some ((flatK enc k l.toArray)[j]!) := by
  have k0 : 0 < k := Nat.pos_of_ne_zero fun e => by subst e; simp at hj
  have hi : j / k < l.length := (Nat.div_lt_iff_lt_mul k0).2 hj
  have hm : j % k < k := Nat.mod_lt _ k0
  rw [get_flatK _ _ _ _ (by simpa using hj)]
  have := get_flat hk l (j / k) (j % k) hi hm
  rw [show j / k * k + j % k = j from by rw [Nat.mul_comm]; exact Nat.div_add_mod j k] at this
  rw [this]
  simp only [List.getElem!_toArray, List.getElem!_eq_getElem?_getD, List.getElem?_eq_getElem hi, Option.getD_some]
  rw [List.getElem?_eq_getElem (by rw [hk]; exact hm)]; rfl
theorem holdsK_of (hk : ∀ x, (enc x).length = k) {w : World} {b E : Nat} {cur : List Value} {l : List α} (hb : Blk w b cur E) (hx : cur.take (l.length * k) = l.flatMap enc) : HoldsK enc k w b 0 l.toArray := by
  intro j hj
  rw [size_flatK] at hj
  have hj' : j < l.length * k := by simpa using hj
  refine ⟨?_, hb.free _⟩
  rw [Nat.zero_add, hb.cell]
  have := flatK_get hk l hj'
  rw [← hx, List.getElem?_take, if_pos hj'] at this
  exact this
theorem sort_blk {w : World} {b E n m : Nat} {cur : List Value} {d : Array α} {os : Array Obj} (hb : Blk w b cur E) : ∃ cur', cur'.length = cur.length ∧ Blk (sortWorldK enc k w b 0 m d os) b cur' E := by
  refine ⟨(putCells id 0 (flatK enc k d) cur.toArray).toList, by simp [putCells], ?_⟩
  have hlt := hb.lt
  unfold Blk at hb ⊢
  unfold sortWorldK putRowK putRow mapBlock grow Sort.ahead
  dsimp only
  rw [Array.getElem?_append_left (by simpa using hlt), Array.getElem?_modify, if_pos rfl, hb]
  simp [onCells]
theorem sort_mod {w : World} {b m : Nat} {d : Array α} {os : Array Obj} : Mod (fun x => x = b) w (sortWorldK enc k w b 0 m d os) := by
  unfold sortWorldK putRowK putRow mapBlock grow Sort.ahead
  refine ⟨rfl, rfl, rfl, by simp, fun j hj hn => ?_⟩
  show ((w.heap.modify b _) ++ os)[j]? = _
  rw [Array.getElem?_append_left (by simpa using hj), Array.getElem?_modify, if_neg (fun e => hn e.symm)]
theorem tri_sortK {P : Program} {ρ : Ren} (L : SlLaysF0.n6 P ρ) (aE : ∀ w, (isAgg (ρ.t 24)).run P w = .ok true w) (zE : ∀ w, (Go.sizeOf (ρ.t 24)).run P w = .ok k w) (hk : ∀ x, (enc x).length = k) (h1 : ∀ x, ∀ v ∈ enc x, v.oneCell' = true)
    (cf : α → α → Int) (hO : SWO (ltOf cf)) (g : Nat) (eg : ∀ args w, (callFunc g args).run P w = .ok (.enter g args) w) (hcmp : ∀ x y W, Calls P g #[.agg (enc x).toArray, .agg (enc y).toArray] W fun e w' => e = .returned (.int .i64 (cf x y)) ∧ ∃ q os', w' = grow (W.drewN q) os')
    {E n b cap : Nat} {l : List α} (hn : l.length = n) (h0 : 0 < n) (hsz : n ≤ 1000000000) :
    Tri P (ρ.f 6) #[.slice (some ⟨b, 0, none⟩) n cap, .func (.func g) #[] #[]] [rowR E k (.slice (some ⟨b, 0, none⟩) n cap) n (l.flatMap enc)]
      (PostE (ι := List α) (fun d => d.Perm l ∧ d.Pairwise fun x y => ltOf cf y x = false) (fun _ => .tuple #[]) fun d => [rowR E k (.slice (some ⟨b, 0, none⟩) n cap) n (d.flatMap enc)]) := by
  intro w own hH hO'
  have hr : Row w (fun k => own k = 0 + 1) E k (.slice (some ⟨b, 0, none⟩) n cap) n (l.flatMap enc) := hH 0 _ rfl
  rcases hr.shape with ⟨_, e2, _⟩ | ⟨g', cap', cur, e1, hS, hb, hnc, hc, hl, hx⟩
  · omega
  cases e1
  have hh := holdsK_of (E := E) hk hb (l := l) (by rw [hn]; exact hx)
  have hcon := AnyQ.slices_SortFunc L k aE zE enc hk h1 cf hO g #[] b 0 cap l.toArray w eg (fun m os dk _ x y => hcmp x y _) hh hb.lt (by simp; omega)
  simp only [List.size_toArray, hn] at hcon
  refine hcon.mono ?_
  rintro e w' ⟨rfl, d', m, os, hp, hs, rfl⟩
  obtain ⟨p1, p2, p3⟩ := hp
  simp only [List.size_toArray, hn] at p1 p2 p3
  have q3 : d'.toList.Perm l := by
    have e1 : d'.extract 0 n = d' := by rw [← p1]; exact Array.extract_size
    have e2 : l.toArray.extract 0 n = l.toArray := by rw [show n = l.toArray.size from by simp [hn]]; exact Array.extract_size
    rw [e1, e2] at p3; simpa using p3
  obtain ⟨cur', c1, c2⟩ := sort_blk (enc := enc) (k := k) (n := n) (m := m) (d := d') (os := os) hb
  have hH2 := holdsK_sortWorldK_c enc k w b 0 l.toArray d' m os hh hb.lt (by simp [p1, hn])
  refine ⟨_, rfl, [rowR E k (.slice (some ⟨b, 0, none⟩) n cap) n (d'.toList.flatMap enc)], own, ⟨d'.toList, ⟨q3, ?_⟩, rfl, rfl⟩, fun i R hi => ?_, sort_mod.mono (fun j _ q => by subst q; rw [hS]; omega), fun _ _ q => q⟩
  · rw [List.pairwise_iff_getElem]
    intro i j hi hj hij
    have hj' : j < n := by rw [← p1]; simpa using hj
    have := hs i j (Nat.zero_le _) hij hj'
    rw [getElem!_pos d' j (by omega), getElem!_pos d' i (by omega)] at this
    simpa using this
  · match i, hi with
    | 0, hi =>
      cases hi
      refine Row.mk hS c2 hnc hc (by rw [c1]; exact hl) ?_
      have hle : n * k ≤ cur'.length := by rw [c1, hl]; exact Nat.mul_le_mul_right _ hnc
      refine List.ext_getElem? fun j => ?_
      rw [List.getElem?_take]
      split
      · rename_i hj
        have hd : d'.toList.length = n := by simpa using p1
        rw [flatK_get hk d'.toList (by rw [hd]; exact hj)]
        have := (hH2 j (by rw [size_flatK, p1]; exact hj)).1
        rw [Nat.zero_add, c2.cell] at this
        simpa using this
      · rename_i hj
        rw [List.getElem?_eq_none]
        rw [flat_len hk]; simp [p1]; omega
theorem tri_sort0 {P : Program} {ρ : Ren} (L : SlLaysF0.n6 P ρ) (p : Option Addr) (cap : Nat) (fv : Value) : Tri P (ρ.f 6) #[.slice p 0 cap, fv] [] (Same [] (.tuple #[])) :=
  tri_same fun w own h => (AnyF.slices_SortFunc_none L p cap fv w).mono fun _ _ h => ⟨h.1, h.2.symm⟩
end
end Go.Proofs.YtnijaeipkbpibaaDoor
