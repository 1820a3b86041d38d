/- Views, cut and kept; rows out of literals. Over any program; no condition. -/
import Derived.Test.YthbffkdfahlpdaaSepV
set_option linter.unusedVariables false
namespace Go.Proofs.Ythbffkdfahlpdaa
open Go.RowKit Go.MapKept
theorem getD_lt {α : Type} {l : List α} {i : Nat} (h : i < l.length) (z : α) : l.getD i z = l[i] := by simp [List.getD_eq_getElem?_getD, h]
theorem recsOne {α : Type} {f : α → List Value} (h : ∀ x, (f x).all Value.oneCell' = true) (l : List α) : ∀ c ∈ l.flatMap f, c.oneCell' = true := by
  intro c hc
  obtain ⟨x, _, hx⟩ := List.mem_flatMap.1 hc
  exact List.all_eq_true.1 (h x) c hx
theorem row_of_blk {E size n b : Nat} {l : List Value} (hl : l.length = n * size) (hn : n ≤ maxLen) (w : World) (S : Nat → Prop) (h : (blkR b l E).p w S) : (rowR E size (.slice (some ⟨b, 0, none⟩) n n) n l).p w S := by
  have h : BlkAt w S b l E := h
  exact Row.mk h.2 h.1 (Nat.le_refl _) hn hl (by rw [← hl, List.take_length])
theorem vew_cut {α : Type} {f : α → List Value} {l : List α} {n cap size m : Nat} {a : Option Addr} (hf : ∀ x, (f x).length = size) (hm : m ≤ n) (w : World) (S : Nat → Prop) (h : (vewR size (.slice a n cap) n (l.flatMap f)).p w S) :
    (vewR size (.slice a m cap) m ((l.take m).flatMap f)).p w S := by
  show Cells w S _ _ _ _
  rw [← take_flat hf]; exact Cells.cutTo (show Cells w S (.slice a n cap) n size (l.flatMap f) from h) hm
theorem vew_cutS {l : List ByteArray} {n cap m : Nat} {a : Option Addr} (hm : m ≤ n) (w : World) (S : Nat → Prop) (h : (vewR 1 (.slice a n cap) n (l.map Value.string)).p w S) :
    (vewR 1 (.slice a m cap) m ((l.take m).map Value.string)).p w S := by
  show Cells w S _ _ _ _
  have := Cells.cutTo (show Cells w S (.slice a n cap) n 1 (l.map Value.string) from h) hm
  rwa [Nat.mul_one, ← List.map_take] at this
theorem vew_fromS {l : List ByteArray} {n cap k : Nat} {a : Option Addr} (hk : k ≤ n) (w : World) (S : Nat → Prop) (h : (vewR 1 (.slice a n cap) n (l.map Value.string)).p w S) :
    (vewR 1 (.slice (if cap = k then a else Option.map (fun y => y.add k) a) (n - k) (cap - k)) (n - k) ((l.drop k).map Value.string)).p w S := by
  show Cells w S _ _ _ _
  have := Cells.cutFromA (show Cells w S (.slice a n cap) n 1 (l.map Value.string) from h) hk
  rw [Nat.mul_one] at this
  rw [List.map_drop]; exact this
theorem vew_len {size n n' : Nat} {v : Value} {xs : List Value} (e : n = n') (w : World) (S : Nat → Prop) (h : (vewR size v n xs).p w S) : (vewR size v n' xs).p w S := e ▸ h
theorem row_len {E size n n' : Nat} {v : Value} {xs : List Value} (e : n = n') (w : World) (S : Nat → Prop) (h : (rowR E size v n xs).p w S) : (rowR E size v n' xs).p w S := e ▸ h
theorem vew_cap {size n cap : Nat} {a : Option Addr} {xs : List Value} (w : World) (S : Nat → Prop) (h : (vewR size (.slice a n cap) n xs).p w S) : n ≤ cap ∧ cap ≤ 9223372036854775807 := by
  obtain ⟨a', c', e, h1, h2⟩ := vew_slice w S h
  injection e with e1 e2 e3
  subst e3
  exact ⟨h1, h2⟩
theorem St.nilVew {B : Nat → Prop} {w0 w : World} {Γ : List Res} (h : St B w0 Γ w) (size : Nat) : St B w0 (Γ ++ [vewR size (.slice none 0 0) 0 []]) w := by
  have h1 := h.nilRow 0 size
  have h2 := h1.conv Γ.length (R := rowR 0 size (.slice none 0 0) 0 []) (R' := vewR size (.slice none 0 0) 0 []) (by simp) vew_of_row
  rwa [List.set_append_right _ _ (Nat.le_refl _), Nat.sub_self] at h2
theorem strs_of_vew {v : Value} {n : Nat} {xs : List ByteArray} (hn : n = xs.length) (w : World) (S : Nat → Prop) (h : (vewR 1 v n (xs.map Value.string)).p w S) : Strs w S v xs := by subst hn; exact h
/-- A part of a tuple. -/
def tupAt : Value → Nat → Value
  | .tuple a, k => a.getD k .nilIface
  | _, _ => .nilIface
theorem Tri.vewA2 {P : Program} {f : Nat} {args : Array Value} {l K : List Res} {F : Value × Value → Value} {s0 n0 : Nat} {x0 : List Value} {s1 n1 : Nat} {x1 : List Value} (h : Tri P f args l (PostE (fun _ => True) F fun v => K ++ [vewR s0 v.1 n0 x0, vewR s1 v.2 n1 x1])) :
    Tri P f args l (PostE (ι := (Option Addr × Nat) × (Option Addr × Nat)) (fun _ => True) (fun y => F (.slice y.1.1 n0 y.1.2, .slice y.2.1 n1 y.2.2)) fun y => K ++ [vewR s0 (.slice y.1.1 n0 y.1.2) n0 x0, vewR s1 (.slice y.2.1 n1 y.2.2) n1 x1]) := by
  intro w own hH hO
  refine (h w own hH hO).mono ?_
  rintro e w' ⟨v, rfl, l', own', ⟨⟨u0, u1⟩, _, rfl, rfl⟩, h2, h3, h4⟩
  have hR0 := h2 (K.length + 0) (vewR s0 u0 n0 x0) (by simp)
  obtain ⟨a0, c0, rfl, _, _⟩ := vew_slice _ _ hR0
  have hR1 := h2 (K.length + 1) (vewR s1 u1 n1 x1) (by simp)
  obtain ⟨a1, c1, rfl, _, _⟩ := vew_slice _ _ hR1
  exact ⟨_, rfl, _, own', ⟨((a0, c0), (a1, c1)), trivial, rfl, rfl⟩, h2, h3, h4⟩
theorem Tri.vewA3 {P : Program} {f : Nat} {args : Array Value} {l K : List Res} {F : Value × Value × Value → Value} {s0 n0 : Nat} {x0 : List Value} {s1 n1 : Nat} {x1 : List Value} {s2 n2 : Nat} {x2 : List Value} (h : Tri P f args l (PostE (fun _ => True) F fun v => K ++ [vewR s0 v.1 n0 x0, vewR s1 v.2.1 n1 x1, vewR s2 v.2.2 n2 x2])) :
    Tri P f args l (PostE (ι := (Option Addr × Nat) × (Option Addr × Nat) × (Option Addr × Nat)) (fun _ => True) (fun y => F (.slice y.1.1 n0 y.1.2, .slice y.2.1.1 n1 y.2.1.2, .slice y.2.2.1 n2 y.2.2.2)) fun y => K ++ [vewR s0 (.slice y.1.1 n0 y.1.2) n0 x0, vewR s1 (.slice y.2.1.1 n1 y.2.1.2) n1 x1, vewR s2 (.slice y.2.2.1 n2 y.2.2.2) n2 x2]) := by
  intro w own hH hO
  refine (h w own hH hO).mono ?_
  rintro e w' ⟨v, rfl, l', own', ⟨⟨u0, u1, u2⟩, _, rfl, rfl⟩, h2, h3, h4⟩
  have hR0 := h2 (K.length + 0) (vewR s0 u0 n0 x0) (by simp)
  obtain ⟨a0, c0, rfl, _, _⟩ := vew_slice _ _ hR0
  have hR1 := h2 (K.length + 1) (vewR s1 u1 n1 x1) (by simp)
  obtain ⟨a1, c1, rfl, _, _⟩ := vew_slice _ _ hR1
  have hR2 := h2 (K.length + 2) (vewR s2 u2 n2 x2) (by simp)
  obtain ⟨a2, c2, rfl, _, _⟩ := vew_slice _ _ hR2
  exact ⟨_, rfl, _, own', ⟨((a0, c0), (a1, c1), (a2, c2)), trivial, rfl, rfl⟩, h2, h3, h4⟩
theorem Tri.vewA4 {P : Program} {f : Nat} {args : Array Value} {l K : List Res} {F : Value × Value × Value × Value → Value} {s0 n0 : Nat} {x0 : List Value} {s1 n1 : Nat} {x1 : List Value} {s2 n2 : Nat} {x2 : List Value} {s3 n3 : Nat} {x3 : List Value} (h : Tri P f args l (PostE (fun _ => True) F fun v => K ++ [vewR s0 v.1 n0 x0, vewR s1 v.2.1 n1 x1, vewR s2 v.2.2.1 n2 x2, vewR s3 v.2.2.2 n3 x3])) :
    Tri P f args l (PostE (ι := (Option Addr × Nat) × (Option Addr × Nat) × (Option Addr × Nat) × (Option Addr × Nat)) (fun _ => True) (fun y => F (.slice y.1.1 n0 y.1.2, .slice y.2.1.1 n1 y.2.1.2, .slice y.2.2.1.1 n2 y.2.2.1.2, .slice y.2.2.2.1 n3 y.2.2.2.2)) fun y => K ++ [vewR s0 (.slice y.1.1 n0 y.1.2) n0 x0, vewR s1 (.slice y.2.1.1 n1 y.2.1.2) n1 x1, vewR s2 (.slice y.2.2.1.1 n2 y.2.2.1.2) n2 x2, vewR s3 (.slice y.2.2.2.1 n3 y.2.2.2.2) n3 x3]) := by
  intro w own hH hO
  refine (h w own hH hO).mono ?_
  rintro e w' ⟨v, rfl, l', own', ⟨⟨u0, u1, u2, u3⟩, _, rfl, rfl⟩, h2, h3, h4⟩
  have hR0 := h2 (K.length + 0) (vewR s0 u0 n0 x0) (by simp)
  obtain ⟨a0, c0, rfl, _, _⟩ := vew_slice _ _ hR0
  have hR1 := h2 (K.length + 1) (vewR s1 u1 n1 x1) (by simp)
  obtain ⟨a1, c1, rfl, _, _⟩ := vew_slice _ _ hR1
  have hR2 := h2 (K.length + 2) (vewR s2 u2 n2 x2) (by simp)
  obtain ⟨a2, c2, rfl, _, _⟩ := vew_slice _ _ hR2
  have hR3 := h2 (K.length + 3) (vewR s3 u3 n3 x3) (by simp)
  obtain ⟨a3, c3, rfl, _, _⟩ := vew_slice _ _ hR3
  exact ⟨_, rfl, _, own', ⟨((a0, c0), (a1, c1), (a2, c2), (a3, c3)), trivial, rfl, rfl⟩, h2, h3, h4⟩
theorem Tri.vewA5 {P : Program} {f : Nat} {args : Array Value} {l K : List Res} {F : Value × Value × Value × Value × Value → Value} {s0 n0 : Nat} {x0 : List Value} {s1 n1 : Nat} {x1 : List Value} {s2 n2 : Nat} {x2 : List Value} {s3 n3 : Nat} {x3 : List Value} {s4 n4 : Nat} {x4 : List Value} (h : Tri P f args l (PostE (fun _ => True) F fun v => K ++ [vewR s0 v.1 n0 x0, vewR s1 v.2.1 n1 x1, vewR s2 v.2.2.1 n2 x2, vewR s3 v.2.2.2.1 n3 x3, vewR s4 v.2.2.2.2 n4 x4])) :
    Tri P f args l (PostE (ι := (Option Addr × Nat) × (Option Addr × Nat) × (Option Addr × Nat) × (Option Addr × Nat) × (Option Addr × Nat)) (fun _ => True) (fun y => F (.slice y.1.1 n0 y.1.2, .slice y.2.1.1 n1 y.2.1.2, .slice y.2.2.1.1 n2 y.2.2.1.2, .slice y.2.2.2.1.1 n3 y.2.2.2.1.2, .slice y.2.2.2.2.1 n4 y.2.2.2.2.2)) fun y => K ++ [vewR s0 (.slice y.1.1 n0 y.1.2) n0 x0, vewR s1 (.slice y.2.1.1 n1 y.2.1.2) n1 x1, vewR s2 (.slice y.2.2.1.1 n2 y.2.2.1.2) n2 x2, vewR s3 (.slice y.2.2.2.1.1 n3 y.2.2.2.1.2) n3 x3, vewR s4 (.slice y.2.2.2.2.1 n4 y.2.2.2.2.2) n4 x4]) := by
  intro w own hH hO
  refine (h w own hH hO).mono ?_
  rintro e w' ⟨v, rfl, l', own', ⟨⟨u0, u1, u2, u3, u4⟩, _, rfl, rfl⟩, h2, h3, h4⟩
  have hR0 := h2 (K.length + 0) (vewR s0 u0 n0 x0) (by simp)
  obtain ⟨a0, c0, rfl, _, _⟩ := vew_slice _ _ hR0
  have hR1 := h2 (K.length + 1) (vewR s1 u1 n1 x1) (by simp)
  obtain ⟨a1, c1, rfl, _, _⟩ := vew_slice _ _ hR1
  have hR2 := h2 (K.length + 2) (vewR s2 u2 n2 x2) (by simp)
  obtain ⟨a2, c2, rfl, _, _⟩ := vew_slice _ _ hR2
  have hR3 := h2 (K.length + 3) (vewR s3 u3 n3 x3) (by simp)
  obtain ⟨a3, c3, rfl, _, _⟩ := vew_slice _ _ hR3
  have hR4 := h2 (K.length + 4) (vewR s4 u4 n4 x4) (by simp)
  obtain ⟨a4, c4, rfl, _, _⟩ := vew_slice _ _ hR4
  exact ⟨_, rfl, _, own', ⟨((a0, c0), (a1, c1), (a2, c2), (a3, c3), (a4, c4)), trivial, rfl, rfl⟩, h2, h3, h4⟩
end Go.Proofs.Ythbffkdfahlpdaa
