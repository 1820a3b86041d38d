/- Package lru: Request, Adopt, Resize. -/
import Derived.Test.YtjijjfdkghcjkaaLru
import Derived.Deep.LoopGhost
set_option linter.unusedVariables false
namespace Go.Proofs.Ytjijjfdkghcjkaa
open Go.RowKit Go.MapKept

/-- A step, told. -/
def stepV (hit : Bool) (v : ByteArray) (out : Bool) : Value := .agg #[.bool hit, .string v, .bool out]
def lruReq (most : Int) (ks : List ByteArray) (k : ByteArray) : List ByteArray :=
  if most = 0 then ks else if k ∈ ks then bk ks k else if most ≤ (ks.length : Int) then bk ks.tail k else bk ks k
def lruStep (most : Int) (ks : List ByteArray) (k : ByteArray) : Value :=
  if most = 0 then stepV (decide (k ∈ ks)) ⟨#[]⟩ false else if k ∈ ks then stepV true ⟨#[]⟩ false else if most ≤ (ks.length : Int) then stepV false (ks.head?.getD ⟨#[]⟩) (decide (0 < ks.length)) else stepV false ⟨#[]⟩ false

section
variable {w w' : World} {S S' : Nat → Prop} {b n : Nat} {most : Int} {ks : List ByteArray}
set_option maxHeartbeats 1600000 in
set_option maxRecDepth 100000 in
theorem lru_Request (h : LruAt w S b most ks n) (hb : n ≤ 100000000) (key : ByteArray) :
    Calls Try.prog 16 #[.pointer (some ⟨b, 0, none⟩), .string key] w (After S w (lruStep most ks key) fun w S => LruAt w S b most (lruReq most ks key) (n + 1)) := by
  obtain ⟨own, lb, hO, hC, hL⟩ := h
  have HB := hid (Home.start own w)
  have HC := hid hC; have HL := hid hL
  clear hC hL
  by_cases h0 : most = 0
  · have hm : (most == 0) = true := eqt h0
    rw [show lruStep most ks key = stepV (decide (key ∈ ks)) ⟨#[]⟩ false by unfold lruStep; rw [if_pos h0], show lruReq most ks key = ks by unfold lruReq; rw [if_pos h0]]
    rw [show decide (key ∈ ks) = decide (key ∈ ks.reverse) by simp]
    unfold stepV
    clear h0
    generalize hg : decide (key ∈ ks.reverse) = hit
    have HG := hid hg
    clear hg
    have c0 := HC.out.1.at 0 _ rfl
    have c1 := HC.out.1.at 1 _ rfl
    have clt := HC.out.1.lt
    go_enter Try.func16, Try.ntmps16
    go_wp2_with fail
    obtain ⟨own1, hB', hL', hK'⟩ := home_alloc HB.out [.bool false, .string ⟨#[]⟩, .bool false] 27 3
    replace HC := hid (HC.out.keep (hK' 1))
    replace HL := hid (HL.out.keep (hK' 2))
    have HR := hid hL'
    replace HB := hid hB'
    clear hB' hL' hK'
    have hsz_x1 : Hid ((w.alloc (.cells [.bool false, .string ⟨#[]⟩, .bool false].toArray 27)).heap.size = w.heap.size + 1) := hid (by simp)
    generalize w.alloc (.cells [.bool false, .string ⟨#[]⟩, .bool false].toArray 27) = x1 at HB hsz_x1 HC HL HR ⊢
    replace c0 := HC.out.1.at 0 _ rfl
    replace c1 := HC.out.1.at 1 _ rfl
    replace clt := HC.out.1.lt
    have r0 := HR.out.1.at 0 _ rfl
    have rf0 := HR.out.1.free 0
    have r1 := HR.out.1.at 1 _ rfl
    have rf1 := HR.out.1.free 1
    have r2 := HR.out.1.at 2 _ rfl
    have rf2 := HR.out.1.free 2
    have rlt := HR.out.1.lt
    have hq := w_Has HL.out key
    rw [HG.out] at hq
    have HQ := hid hq
    clear hq
    go_wp2_with fail
    have hct := (HQ.out)
    with_reducible refine hct.mono ?_
    clear hct
    rintro e w' ⟨rfl, rfl⟩
    clear HQ
    go_wp2_with fail
    obtain ⟨hB', hL', hK'⟩ := home_store HB.out (by decide) HR.out 0 (.bool hit)
    replace HC := hid (HC.out.keep (hK' 1 (by decide)))
    replace HL := hid (HL.out.keep (hK' 2 (by decide)))
    replace HR := hid hL'
    replace HB := hid hB'
    clear hB' hL' hK'
    have hsz_x3 : Hid ((x1.setCell ⟨w.heap.size, 0, none⟩ (.bool hit)).heap.size = x1.heap.size) := hid (by simp)
    generalize x1.setCell ⟨w.heap.size, 0, none⟩ (.bool hit) = x3 at HB hsz_x3 HC HL HR ⊢
    replace c0 := HC.out.1.at 0 _ rfl
    replace c1 := HC.out.1.at 1 _ rfl
    replace clt := HC.out.1.lt
    replace r0 := HR.out.1.at 0 _ rfl
    replace rf0 := HR.out.1.free 0
    replace r1 := HR.out.1.at 1 _ rfl
    replace rf1 := HR.out.1.free 1
    replace r2 := HR.out.1.at 2 _ rfl
    replace rf2 := HR.out.1.free 2
    replace rlt := HR.out.1.lt
    obtain ⟨hB', hL', hK'⟩ := home_store HB.out (by decide) HR.out 1 (.string ⟨#[]⟩)
    replace HC := hid (HC.out.keep (hK' 1 (by decide)))
    replace HL := hid (HL.out.keep (hK' 2 (by decide)))
    replace HR := hid hL'
    replace HB := hid hB'
    clear hB' hL' hK'
    have hsz_x4 : Hid ((x3.setCell ⟨w.heap.size, 1, none⟩ (.string ⟨#[]⟩)).heap.size = x1.heap.size) := hid (by simp [hsz_x3.out])
    generalize x3.setCell ⟨w.heap.size, 1, none⟩ (.string ⟨#[]⟩) = x4 at HB hsz_x4 HC HL HR ⊢
    replace c0 := HC.out.1.at 0 _ rfl
    replace c1 := HC.out.1.at 1 _ rfl
    replace clt := HC.out.1.lt
    replace r0 := HR.out.1.at 0 _ rfl
    replace rf0 := HR.out.1.free 0
    replace r1 := HR.out.1.at 1 _ rfl
    replace rf1 := HR.out.1.free 1
    replace r2 := HR.out.1.at 2 _ rfl
    replace rf2 := HR.out.1.free 2
    replace rlt := HR.out.1.lt
    obtain ⟨hB', hL', hK'⟩ := home_store HB.out (by decide) HR.out 2 (.bool false)
    replace HC := hid (HC.out.keep (hK' 1 (by decide)))
    replace HL := hid (HL.out.keep (hK' 2 (by decide)))
    replace HR := hid hL'
    replace HB := hid hB'
    clear hB' hL' hK'
    have hsz_x5 : Hid ((x4.setCell ⟨w.heap.size, 2, none⟩ (.bool false)).heap.size = x1.heap.size) := hid (by simp [hsz_x4.out])
    generalize x4.setCell ⟨w.heap.size, 2, none⟩ (.bool false) = x5 at HB hsz_x5 HC HL HR ⊢
    replace c0 := HC.out.1.at 0 _ rfl
    replace c1 := HC.out.1.at 1 _ rfl
    replace clt := HC.out.1.lt
    replace r0 := HR.out.1.at 0 _ rfl
    replace rf0 := HR.out.1.free 0
    replace r1 := HR.out.1.at 1 _ rfl
    replace rf1 := HR.out.1.free 1
    replace r2 := HR.out.1.at 2 _ rfl
    replace rf2 := HR.out.1.free 2
    replace rlt := HR.out.1.lt
    obtain ⟨own6, hB', hL', hK'⟩ := home_alloc HB.out [.bool hit, .string ⟨#[]⟩, .bool false] 27 4
    replace HC := hid (HC.out.keep (hK' 1))
    replace HL := hid (HL.out.keep (hK' 2))
    replace HR := hid (HR.out.keep (hK' 3))
    rw [hsz_x5.out] at hL'
    have HS := hid hL'
    replace HB := hid hB'
    clear hB' hL' hK'
    have hsz_x6 : Hid ((x5.alloc (.cells [.bool hit, .string ⟨#[]⟩, .bool false].toArray 27)).heap.size = x1.heap.size + 1) := hid (by simp [hsz_x5.out])
    generalize x5.alloc (.cells [.bool hit, .string ⟨#[]⟩, .bool false].toArray 27) = x6 at HB hsz_x6 HC HL HR HS ⊢
    replace c0 := HC.out.1.at 0 _ rfl
    replace c1 := HC.out.1.at 1 _ rfl
    replace clt := HC.out.1.lt
    replace r0 := HR.out.1.at 0 _ rfl
    replace rf0 := HR.out.1.free 0
    replace r1 := HR.out.1.at 1 _ rfl
    replace rf1 := HR.out.1.free 1
    replace r2 := HR.out.1.at 2 _ rfl
    replace rf2 := HR.out.1.free 2
    replace rlt := HR.out.1.lt
    refine bodyPost_ret (v := .agg #[.bool hit, .string ⟨#[]⟩, .bool false]) (by simp [results, Try.results16, go_sem, r0, r1, r2]) rfl ⟨rfl, HB.out.mod hO.has, _, HB.out.leftLim hO.has 2, lim own6 2, lb, lim_owned own6 2, HC.out.keep (Keeps.lim _ _ (by decide)), (HL.out.keep (Keeps.lim _ _ (by decide))).up (by omega)⟩
  · have hm : (most == 0) = false := eqf h0
    by_cases h1 : key ∈ ks
    · rw [show lruStep most ks key = stepV true ⟨#[]⟩ false by unfold lruStep; rw [if_neg h0, if_pos h1], show lruReq most ks key = bk ks key by unfold lruReq; rw [if_neg h0, if_pos h1]]
      unfold stepV
      have hd : decide (key ∈ ks.reverse) = true := by simp [h1]
      have HD := hid hd
      clear h0 h1 hd
      have c0 := HC.out.1.at 0 _ rfl
      have c1 := HC.out.1.at 1 _ rfl
      have clt := HC.out.1.lt
      go_enter Try.func16, Try.ntmps16
      go_wp2_with fail
      obtain ⟨own1, hB', hL', hK'⟩ := home_alloc HB.out [.bool false, .string ⟨#[]⟩, .bool false] 27 3
      replace HC := hid (HC.out.keep (hK' 1))
      replace HL := hid (HL.out.keep (hK' 2))
      have HR := hid hL'
      replace HB := hid hB'
      clear hB' hL' hK'
      have hsz_x1 : Hid ((w.alloc (.cells [.bool false, .string ⟨#[]⟩, .bool false].toArray 27)).heap.size = w.heap.size + 1) := hid (by simp)
      generalize w.alloc (.cells [.bool false, .string ⟨#[]⟩, .bool false].toArray 27) = x1 at HB hsz_x1 HC HL HR ⊢
      replace c0 := HC.out.1.at 0 _ rfl
      replace c1 := HC.out.1.at 1 _ rfl
      replace clt := HC.out.1.lt
      have r0 := HR.out.1.at 0 _ rfl
      have rf0 := HR.out.1.free 0
      have r1 := HR.out.1.at 1 _ rfl
      have rf1 := HR.out.1.free 1
      have r2 := HR.out.1.at 2 _ rfl
      have rf2 := HR.out.1.free 2
      have rlt := HR.out.1.lt
      have hq := w_Has HL.out key
      rw [HD.out] at hq
      have HQ := hid hq
      clear hq
      go_wp2_with fail
      have hct := (HQ.out)
      with_reducible refine hct.mono ?_
      clear hct
      rintro e w' ⟨rfl, rfl⟩
      clear HQ
      go_wp2_with fail
      obtain ⟨own3, hB', hL', hK'⟩ := home_alloc HB.out [.bool true, .string ⟨#[]⟩, .bool false] 27 4
      replace HC := hid (HC.out.keep (hK' 1))
      replace HL := hid (HL.out.keep (hK' 2))
      replace HR := hid (HR.out.keep (hK' 3))
      have HS := hid hL'
      replace HB := hid hB'
      clear hB' hL' hK'
      have hsz_x3 : Hid ((x1.alloc (.cells [.bool true, .string ⟨#[]⟩, .bool false].toArray 27)).heap.size = x1.heap.size + 1) := hid (by simp)
      generalize x1.alloc (.cells [.bool true, .string ⟨#[]⟩, .bool false].toArray 27) = x3 at HB hsz_x3 HC HL HR HS ⊢
      replace c0 := HC.out.1.at 0 _ rfl
      replace c1 := HC.out.1.at 1 _ rfl
      replace clt := HC.out.1.lt
      replace r0 := HR.out.1.at 0 _ rfl
      replace rf0 := HR.out.1.free 0
      replace r1 := HR.out.1.at 1 _ rfl
      replace rf1 := HR.out.1.free 1
      replace r2 := HR.out.1.at 2 _ rfl
      replace rf2 := HR.out.1.free 2
      replace rlt := HR.out.1.lt
      have s0 := HS.out.1.at 0 _ rfl
      have sf0 := HS.out.1.free 0
      have s1 := HS.out.1.at 1 _ rfl
      have sf1 := HS.out.1.free 1
      have s2 := HS.out.1.at 2 _ rfl
      have sf2 := HS.out.1.free 2
      have slt := HS.out.1.lt
      go_quiet (fail)
      obtain ⟨hB', hK'⟩ := home_drewN HB.out nq
      replace HC := hid (HC.out.keep (hK' 1))
      replace HL := hid (HL.out.keep (hK' 2))
      replace HR := hid (HR.out.keep (hK' 3))
      replace HS := hid (HS.out.keep (hK' 4))
      replace HB := hid hB'
      clear hB' hK'
      have hsz_x4 : Hid ((x3.drewN nq).heap.size = x3.heap.size) := hid (by simp)
      generalize x3.drewN nq = x4 at HB hsz_x4 HC HL HR HS ⊢
      replace c0 := HC.out.1.at 0 _ rfl
      replace c1 := HC.out.1.at 1 _ rfl
      replace clt := HC.out.1.lt
      replace r0 := HR.out.1.at 0 _ rfl
      replace rf0 := HR.out.1.free 0
      replace r1 := HR.out.1.at 1 _ rfl
      replace rf1 := HR.out.1.free 1
      replace r2 := HR.out.1.at 2 _ rfl
      replace rf2 := HR.out.1.free 2
      replace rlt := HR.out.1.lt
      replace s0 := HS.out.1.at 0 _ rfl
      replace sf0 := HS.out.1.free 0
      replace s1 := HS.out.1.at 1 _ rfl
      replace sf1 := HS.out.1.free 1
      replace s2 := HS.out.1.at 2 _ rfl
      replace sf2 := HS.out.1.free 2
      replace slt := HS.out.1.lt
      have hq := w_Front HL.out (by omega) key
      rw [fr_reverse] at hq
      have HQ := hid hq
      clear hq
      go_wp2_with fail
      have hct := step_turn HB.out (by decide) (HQ.out)
      with_reducible refine hct.mono ?_
      clear hct
      rintro e x5 ⟨own5, rfl, hB', hL', hK'⟩
      replace HC := hid (HC.out.keep (hK' 1 (by decide)))
      replace HR := hid (HR.out.keep (hK' 3 (by decide)))
      replace HS := hid (HS.out.keep (hK' 4 (by decide)))
      replace HL := hid hL'
      replace HB := hid hB'
      clear hB' hL' hK'
      replace c0 := HC.out.1.at 0 _ rfl
      replace c1 := HC.out.1.at 1 _ rfl
      replace clt := HC.out.1.lt
      replace r0 := HR.out.1.at 0 _ rfl
      replace rf0 := HR.out.1.free 0
      replace r1 := HR.out.1.at 1 _ rfl
      replace rf1 := HR.out.1.free 1
      replace r2 := HR.out.1.at 2 _ rfl
      replace rf2 := HR.out.1.free 2
      replace rlt := HR.out.1.lt
      replace s0 := HS.out.1.at 0 _ rfl
      replace sf0 := HS.out.1.free 0
      replace s1 := HS.out.1.at 1 _ rfl
      replace sf1 := HS.out.1.free 1
      replace s2 := HS.out.1.at 2 _ rfl
      replace sf2 := HS.out.1.free 2
      replace slt := HS.out.1.lt
      go_wp2_with fail
      obtain ⟨hB', hL', hK'⟩ := home_store HB.out (by decide) HR.out 0 (.bool true)
      replace HC := hid (HC.out.keep (hK' 1 (by decide)))
      replace HL := hid (HL.out.keep (hK' 2 (by decide)))
      replace HS := hid (HS.out.keep (hK' 4 (by decide)))
      replace HR := hid hL'
      replace HB := hid hB'
      clear hB' hL' hK'
      have hsz_x6 : Hid ((x5.setCell ⟨w.heap.size, 0, none⟩ (.bool true)).heap.size = x5.heap.size) := hid (by simp)
      generalize x5.setCell ⟨w.heap.size, 0, none⟩ (.bool true) = x6 at HB hsz_x6 HC HL HR HS ⊢
      replace c0 := HC.out.1.at 0 _ rfl
      replace c1 := HC.out.1.at 1 _ rfl
      replace clt := HC.out.1.lt
      replace r0 := HR.out.1.at 0 _ rfl
      replace rf0 := HR.out.1.free 0
      replace r1 := HR.out.1.at 1 _ rfl
      replace rf1 := HR.out.1.free 1
      replace r2 := HR.out.1.at 2 _ rfl
      replace rf2 := HR.out.1.free 2
      replace rlt := HR.out.1.lt
      replace s0 := HS.out.1.at 0 _ rfl
      replace sf0 := HS.out.1.free 0
      replace s1 := HS.out.1.at 1 _ rfl
      replace sf1 := HS.out.1.free 1
      replace s2 := HS.out.1.at 2 _ rfl
      replace sf2 := HS.out.1.free 2
      replace slt := HS.out.1.lt
      obtain ⟨hB', hL', hK'⟩ := home_store HB.out (by decide) HR.out 1 (.string ⟨#[]⟩)
      replace HC := hid (HC.out.keep (hK' 1 (by decide)))
      replace HL := hid (HL.out.keep (hK' 2 (by decide)))
      replace HS := hid (HS.out.keep (hK' 4 (by decide)))
      replace HR := hid hL'
      replace HB := hid hB'
      clear hB' hL' hK'
      have hsz_x7 : Hid ((x6.setCell ⟨w.heap.size, 1, none⟩ (.string ⟨#[]⟩)).heap.size = x5.heap.size) := hid (by simp [hsz_x6.out])
      generalize x6.setCell ⟨w.heap.size, 1, none⟩ (.string ⟨#[]⟩) = x7 at HB hsz_x7 HC HL HR HS ⊢
      replace c0 := HC.out.1.at 0 _ rfl
      replace c1 := HC.out.1.at 1 _ rfl
      replace clt := HC.out.1.lt
      replace r0 := HR.out.1.at 0 _ rfl
      replace rf0 := HR.out.1.free 0
      replace r1 := HR.out.1.at 1 _ rfl
      replace rf1 := HR.out.1.free 1
      replace r2 := HR.out.1.at 2 _ rfl
      replace rf2 := HR.out.1.free 2
      replace rlt := HR.out.1.lt
      replace s0 := HS.out.1.at 0 _ rfl
      replace sf0 := HS.out.1.free 0
      replace s1 := HS.out.1.at 1 _ rfl
      replace sf1 := HS.out.1.free 1
      replace s2 := HS.out.1.at 2 _ rfl
      replace sf2 := HS.out.1.free 2
      replace slt := HS.out.1.lt
      obtain ⟨hB', hL', hK'⟩ := home_store HB.out (by decide) HR.out 2 (.bool false)
      replace HC := hid (HC.out.keep (hK' 1 (by decide)))
      replace HL := hid (HL.out.keep (hK' 2 (by decide)))
      replace HS := hid (HS.out.keep (hK' 4 (by decide)))
      replace HR := hid hL'
      replace HB := hid hB'
      clear hB' hL' hK'
      have hsz_x8 : Hid ((x7.setCell ⟨w.heap.size, 2, none⟩ (.bool false)).heap.size = x5.heap.size) := hid (by simp [hsz_x7.out])
      generalize x7.setCell ⟨w.heap.size, 2, none⟩ (.bool false) = x8 at HB hsz_x8 HC HL HR HS ⊢
      replace c0 := HC.out.1.at 0 _ rfl
      replace c1 := HC.out.1.at 1 _ rfl
      replace clt := HC.out.1.lt
      replace r0 := HR.out.1.at 0 _ rfl
      replace rf0 := HR.out.1.free 0
      replace r1 := HR.out.1.at 1 _ rfl
      replace rf1 := HR.out.1.free 1
      replace r2 := HR.out.1.at 2 _ rfl
      replace rf2 := HR.out.1.free 2
      replace rlt := HR.out.1.lt
      replace s0 := HS.out.1.at 0 _ rfl
      replace sf0 := HS.out.1.free 0
      replace s1 := HS.out.1.at 1 _ rfl
      replace sf1 := HS.out.1.free 1
      replace s2 := HS.out.1.at 2 _ rfl
      replace sf2 := HS.out.1.free 2
      replace slt := HS.out.1.lt
      refine bodyPost_ret (v := .agg #[.bool true, .string ⟨#[]⟩, .bool false]) (by simp [results, Try.results16, go_sem, r0, r1, r2]) rfl ⟨rfl, HB.out.mod hO.has, _, HB.out.leftLim hO.has 2, lim own5 2, lb, lim_owned own5 2, HC.out.keep (Keeps.lim _ _ (by decide)), (HL.out.keep (Keeps.lim _ _ (by decide))).up (by omega)⟩
    · have hd : decide (key ∈ ks.reverse) = false := by simp [h1]
      by_cases h2 : most ≤ (ks.length : Int)
      · rw [show lruStep most ks key = stepV false (ks.head?.getD ⟨#[]⟩) (decide (0 < ks.length)) by unfold lruStep; rw [if_neg h0, if_neg h1, if_pos h2], show lruReq most ks key = bk ks.tail key by unfold lruReq; rw [if_neg h0, if_neg h1, if_pos h2]]
        unfold stepV
        have HD := hid hd
        clear h0 h1 hd
        generalize hvic : ks.head?.getD ⟨#[]⟩ = vic
        generalize hout : decide (0 < ks.length) = out
        have HV := hid hvic; have HO := hid hout
        clear hvic hout
        have c0 := HC.out.1.at 0 _ rfl
        have c1 := HC.out.1.at 1 _ rfl
        have clt := HC.out.1.lt
        go_enter Try.func16, Try.ntmps16
        go_wp2_with fail
        obtain ⟨own1, hB', hL', hK'⟩ := home_alloc HB.out [.bool false, .string ⟨#[]⟩, .bool false] 27 3
        replace HC := hid (HC.out.keep (hK' 1))
        replace HL := hid (HL.out.keep (hK' 2))
        have HR := hid hL'
        replace HB := hid hB'
        clear hB' hL' hK'
        have hsz_x1 : Hid ((w.alloc (.cells [.bool false, .string ⟨#[]⟩, .bool false].toArray 27)).heap.size = w.heap.size + 1) := hid (by simp)
        generalize w.alloc (.cells [.bool false, .string ⟨#[]⟩, .bool false].toArray 27) = x1 at HB hsz_x1 HC HL HR ⊢
        replace c0 := HC.out.1.at 0 _ rfl
        replace c1 := HC.out.1.at 1 _ rfl
        replace clt := HC.out.1.lt
        have r0 := HR.out.1.at 0 _ rfl
        have rf0 := HR.out.1.free 0
        have r1 := HR.out.1.at 1 _ rfl
        have rf1 := HR.out.1.free 1
        have r2 := HR.out.1.at 2 _ rfl
        have rf2 := HR.out.1.free 2
        have rlt := HR.out.1.lt
        have hq := w_Has HL.out key
        rw [HD.out] at hq
        have HQ := hid hq
        clear hq
        go_wp2_with fail
        have hct := (HQ.out)
        with_reducible refine hct.mono ?_
        clear hct
        rintro e w' ⟨rfl, rfl⟩
        clear HQ
        go_wp2_with fail
        obtain ⟨own3, hB', hL', hK'⟩ := home_alloc HB.out [.bool false, .string ⟨#[]⟩, .bool false] 27 4
        replace HC := hid (HC.out.keep (hK' 1))
        replace HL := hid (HL.out.keep (hK' 2))
        replace HR := hid (HR.out.keep (hK' 3))
        have HS := hid hL'
        replace HB := hid hB'
        clear hB' hL' hK'
        have hsz_x3 : Hid ((x1.alloc (.cells [.bool false, .string ⟨#[]⟩, .bool false].toArray 27)).heap.size = x1.heap.size + 1) := hid (by simp)
        generalize x1.alloc (.cells [.bool false, .string ⟨#[]⟩, .bool false].toArray 27) = x3 at HB hsz_x3 HC HL HR HS ⊢
        replace c0 := HC.out.1.at 0 _ rfl
        replace c1 := HC.out.1.at 1 _ rfl
        replace clt := HC.out.1.lt
        replace r0 := HR.out.1.at 0 _ rfl
        replace rf0 := HR.out.1.free 0
        replace r1 := HR.out.1.at 1 _ rfl
        replace rf1 := HR.out.1.free 1
        replace r2 := HR.out.1.at 2 _ rfl
        replace rf2 := HR.out.1.free 2
        replace rlt := HR.out.1.lt
        have s0 := HS.out.1.at 0 _ rfl
        have sf0 := HS.out.1.free 0
        have s1 := HS.out.1.at 1 _ rfl
        have sf1 := HS.out.1.free 1
        have s2 := HS.out.1.at 2 _ rfl
        have sf2 := HS.out.1.free 2
        have slt := HS.out.1.lt
        have hq := fun m => w_Len (Mov.drewN (R := fun w S => LL w S lb ks.reverse n) HL.out m)
        rw [List.length_reverse] at hq
        have HQ := hid hq
        clear hq
        have ne_HC_HS := BlkAt.nec HC.out HS.out (by decide)
        have ne_HS_HC := BlkAt.nec HS.out HC.out (by decide)
        have ne_HR_HS := BlkAt.nec HR.out HS.out (by decide)
        have ne_HS_HR := BlkAt.nec HS.out HR.out (by decide)
        go_quiet ((go_at_call 61; exact quietSame (HQ.out _)))
        clear HQ
        obtain ⟨hB', hK'⟩ := home_drewN HB.out nq
        replace HC := hid (HC.out.keep (hK' 1))
        replace HL := hid (HL.out.keep (hK' 2))
        replace HR := hid (HR.out.keep (hK' 3))
        replace HS := hid (HS.out.keep (hK' 4))
        replace HB := hid hB'
        clear hB' hK'
        have hsz_x4 : Hid ((x3.drewN nq).heap.size = x3.heap.size) := hid (by simp)
        generalize x3.drewN nq = x4 at HB hsz_x4 HC HL HR HS ⊢
        replace c0 := HC.out.1.at 0 _ rfl
        replace c1 := HC.out.1.at 1 _ rfl
        replace clt := HC.out.1.lt
        replace r0 := HR.out.1.at 0 _ rfl
        replace rf0 := HR.out.1.free 0
        replace r1 := HR.out.1.at 1 _ rfl
        replace rf1 := HR.out.1.free 1
        replace r2 := HR.out.1.at 2 _ rfl
        replace rf2 := HR.out.1.free 2
        replace rlt := HR.out.1.lt
        replace s0 := HS.out.1.at 0 _ rfl
        replace sf0 := HS.out.1.free 0
        replace s1 := HS.out.1.at 1 _ rfl
        replace sf1 := HS.out.1.free 1
        replace s2 := HS.out.1.at 2 _ rfl
        replace sf2 := HS.out.1.free 2
        replace slt := HS.out.1.lt
        have hq := w_Pop HL.out (by omega)
        rw [List.length_reverse, head_getD_reverse, dropLast_reverse, HV.out, HO.out] at hq
        have HQ := hid hq
        clear hq
        go_wp2_with fail
        have hct := step_turn HB.out (by decide) (HQ.out)
        with_reducible refine hct.mono ?_
        clear hct
        rintro e x5 ⟨own5, rfl, hB', hL', hK'⟩
        replace HC := hid (HC.out.keep (hK' 1 (by decide)))
        replace HR := hid (HR.out.keep (hK' 3 (by decide)))
        replace HS := hid (HS.out.keep (hK' 4 (by decide)))
        replace HL := hid hL'
        replace HB := hid hB'
        clear hB' hL' hK'
        replace c0 := HC.out.1.at 0 _ rfl
        replace c1 := HC.out.1.at 1 _ rfl
        replace clt := HC.out.1.lt
        replace r0 := HR.out.1.at 0 _ rfl
        replace rf0 := HR.out.1.free 0
        replace r1 := HR.out.1.at 1 _ rfl
        replace rf1 := HR.out.1.free 1
        replace r2 := HR.out.1.at 2 _ rfl
        replace rf2 := HR.out.1.free 2
        replace rlt := HR.out.1.lt
        replace s0 := HS.out.1.at 0 _ rfl
        replace sf0 := HS.out.1.free 0
        replace s1 := HS.out.1.at 1 _ rfl
        replace sf1 := HS.out.1.free 1
        replace s2 := HS.out.1.at 2 _ rfl
        replace sf2 := HS.out.1.free 2
        replace slt := HS.out.1.lt
        clear HQ
        go_wp2_with fail
        obtain ⟨hB', hL', hK'⟩ := home_store HB.out (by decide) HS.out 1 (.string vic)
        replace HC := hid (HC.out.keep (hK' 1 (by decide)))
        replace HL := hid (HL.out.keep (hK' 2 (by decide)))
        replace HR := hid (HR.out.keep (hK' 3 (by decide)))
        replace HS := hid hL'
        replace HB := hid hB'
        clear hB' hL' hK'
        have hsz_x6 : Hid ((x5.setCell ⟨x1.heap.size, 1, none⟩ (.string vic)).heap.size = x5.heap.size) := hid (by simp)
        generalize x5.setCell ⟨x1.heap.size, 1, none⟩ (.string vic) = x6 at HB hsz_x6 HC HL HR HS ⊢
        replace c0 := HC.out.1.at 0 _ rfl
        replace c1 := HC.out.1.at 1 _ rfl
        replace clt := HC.out.1.lt
        replace r0 := HR.out.1.at 0 _ rfl
        replace rf0 := HR.out.1.free 0
        replace r1 := HR.out.1.at 1 _ rfl
        replace rf1 := HR.out.1.free 1
        replace r2 := HR.out.1.at 2 _ rfl
        replace rf2 := HR.out.1.free 2
        replace rlt := HR.out.1.lt
        replace s0 := HS.out.1.at 0 _ rfl
        replace sf0 := HS.out.1.free 0
        replace s1 := HS.out.1.at 1 _ rfl
        replace sf1 := HS.out.1.free 1
        replace s2 := HS.out.1.at 2 _ rfl
        replace sf2 := HS.out.1.free 2
        replace slt := HS.out.1.lt
        obtain ⟨hB', hL', hK'⟩ := home_store HB.out (by decide) HS.out 2 (.bool out)
        replace HC := hid (HC.out.keep (hK' 1 (by decide)))
        replace HL := hid (HL.out.keep (hK' 2 (by decide)))
        replace HR := hid (HR.out.keep (hK' 3 (by decide)))
        replace HS := hid hL'
        replace HB := hid hB'
        clear hB' hL' hK'
        have hsz_x7 : Hid ((x6.setCell ⟨x1.heap.size, 2, none⟩ (.bool out)).heap.size = x5.heap.size) := hid (by simp [hsz_x6.out])
        generalize x6.setCell ⟨x1.heap.size, 2, none⟩ (.bool out) = x7 at HB hsz_x7 HC HL HR HS ⊢
        replace c0 := HC.out.1.at 0 _ rfl
        replace c1 := HC.out.1.at 1 _ rfl
        replace clt := HC.out.1.lt
        replace r0 := HR.out.1.at 0 _ rfl
        replace rf0 := HR.out.1.free 0
        replace r1 := HR.out.1.at 1 _ rfl
        replace rf1 := HR.out.1.free 1
        replace r2 := HR.out.1.at 2 _ rfl
        replace rf2 := HR.out.1.free 2
        replace rlt := HR.out.1.lt
        replace s0 := HS.out.1.at 0 _ rfl
        replace sf0 := HS.out.1.free 0
        replace s1 := HS.out.1.at 1 _ rfl
        replace sf1 := HS.out.1.free 1
        replace s2 := HS.out.1.at 2 _ rfl
        replace sf2 := HS.out.1.free 2
        replace slt := HS.out.1.lt
        have hq := w_Front HL.out (by omega) key
        rw [fr_reverse] at hq
        have HQ := hid hq
        clear hq
        go_wp2_with fail
        have hct := step_turn HB.out (by decide) (HQ.out)
        with_reducible refine hct.mono ?_
        clear hct
        rintro e x8 ⟨own8, rfl, hB', hL', hK'⟩
        replace HC := hid (HC.out.keep (hK' 1 (by decide)))
        replace HR := hid (HR.out.keep (hK' 3 (by decide)))
        replace HS := hid (HS.out.keep (hK' 4 (by decide)))
        replace HL := hid hL'
        replace HB := hid hB'
        clear hB' hL' hK'
        replace c0 := HC.out.1.at 0 _ rfl
        replace c1 := HC.out.1.at 1 _ rfl
        replace clt := HC.out.1.lt
        replace r0 := HR.out.1.at 0 _ rfl
        replace rf0 := HR.out.1.free 0
        replace r1 := HR.out.1.at 1 _ rfl
        replace rf1 := HR.out.1.free 1
        replace r2 := HR.out.1.at 2 _ rfl
        replace rf2 := HR.out.1.free 2
        replace rlt := HR.out.1.lt
        replace s0 := HS.out.1.at 0 _ rfl
        replace sf0 := HS.out.1.free 0
        replace s1 := HS.out.1.at 1 _ rfl
        replace sf1 := HS.out.1.free 1
        replace s2 := HS.out.1.at 2 _ rfl
        replace sf2 := HS.out.1.free 2
        replace slt := HS.out.1.lt
        go_wp2_with fail
        obtain ⟨hB', hL', hK'⟩ := home_store HB.out (by decide) HR.out 0 (.bool false)
        replace HC := hid (HC.out.keep (hK' 1 (by decide)))
        replace HL := hid (HL.out.keep (hK' 2 (by decide)))
        replace HS := hid (HS.out.keep (hK' 4 (by decide)))
        replace HR := hid hL'
        replace HB := hid hB'
        clear hB' hL' hK'
        have hsz_x9 : Hid ((x8.setCell ⟨w.heap.size, 0, none⟩ (.bool false)).heap.size = x8.heap.size) := hid (by simp)
        generalize x8.setCell ⟨w.heap.size, 0, none⟩ (.bool false) = x9 at HB hsz_x9 HC HL HR HS ⊢
        replace c0 := HC.out.1.at 0 _ rfl
        replace c1 := HC.out.1.at 1 _ rfl
        replace clt := HC.out.1.lt
        replace r0 := HR.out.1.at 0 _ rfl
        replace rf0 := HR.out.1.free 0
        replace r1 := HR.out.1.at 1 _ rfl
        replace rf1 := HR.out.1.free 1
        replace r2 := HR.out.1.at 2 _ rfl
        replace rf2 := HR.out.1.free 2
        replace rlt := HR.out.1.lt
        replace s0 := HS.out.1.at 0 _ rfl
        replace sf0 := HS.out.1.free 0
        replace s1 := HS.out.1.at 1 _ rfl
        replace sf1 := HS.out.1.free 1
        replace s2 := HS.out.1.at 2 _ rfl
        replace sf2 := HS.out.1.free 2
        replace slt := HS.out.1.lt
        obtain ⟨hB', hL', hK'⟩ := home_store HB.out (by decide) HR.out 1 (.string vic)
        replace HC := hid (HC.out.keep (hK' 1 (by decide)))
        replace HL := hid (HL.out.keep (hK' 2 (by decide)))
        replace HS := hid (HS.out.keep (hK' 4 (by decide)))
        replace HR := hid hL'
        replace HB := hid hB'
        clear hB' hL' hK'
        have hsz_x10 : Hid ((x9.setCell ⟨w.heap.size, 1, none⟩ (.string vic)).heap.size = x8.heap.size) := hid (by simp [hsz_x9.out])
        generalize x9.setCell ⟨w.heap.size, 1, none⟩ (.string vic) = x10 at HB hsz_x10 HC HL HR HS ⊢
        replace c0 := HC.out.1.at 0 _ rfl
        replace c1 := HC.out.1.at 1 _ rfl
        replace clt := HC.out.1.lt
        replace r0 := HR.out.1.at 0 _ rfl
        replace rf0 := HR.out.1.free 0
        replace r1 := HR.out.1.at 1 _ rfl
        replace rf1 := HR.out.1.free 1
        replace r2 := HR.out.1.at 2 _ rfl
        replace rf2 := HR.out.1.free 2
        replace rlt := HR.out.1.lt
        replace s0 := HS.out.1.at 0 _ rfl
        replace sf0 := HS.out.1.free 0
        replace s1 := HS.out.1.at 1 _ rfl
        replace sf1 := HS.out.1.free 1
        replace s2 := HS.out.1.at 2 _ rfl
        replace sf2 := HS.out.1.free 2
        replace slt := HS.out.1.lt
        obtain ⟨hB', hL', hK'⟩ := home_store HB.out (by decide) HR.out 2 (.bool out)
        replace HC := hid (HC.out.keep (hK' 1 (by decide)))
        replace HL := hid (HL.out.keep (hK' 2 (by decide)))
        replace HS := hid (HS.out.keep (hK' 4 (by decide)))
        replace HR := hid hL'
        replace HB := hid hB'
        clear hB' hL' hK'
        have hsz_x11 : Hid ((x10.setCell ⟨w.heap.size, 2, none⟩ (.bool out)).heap.size = x8.heap.size) := hid (by simp [hsz_x10.out])
        generalize x10.setCell ⟨w.heap.size, 2, none⟩ (.bool out) = x11 at HB hsz_x11 HC HL HR HS ⊢
        replace c0 := HC.out.1.at 0 _ rfl
        replace c1 := HC.out.1.at 1 _ rfl
        replace clt := HC.out.1.lt
        replace r0 := HR.out.1.at 0 _ rfl
        replace rf0 := HR.out.1.free 0
        replace r1 := HR.out.1.at 1 _ rfl
        replace rf1 := HR.out.1.free 1
        replace r2 := HR.out.1.at 2 _ rfl
        replace rf2 := HR.out.1.free 2
        replace rlt := HR.out.1.lt
        replace s0 := HS.out.1.at 0 _ rfl
        replace sf0 := HS.out.1.free 0
        replace s1 := HS.out.1.at 1 _ rfl
        replace sf1 := HS.out.1.free 1
        replace s2 := HS.out.1.at 2 _ rfl
        replace sf2 := HS.out.1.free 2
        replace slt := HS.out.1.lt
        refine bodyPost_ret (v := .agg #[.bool false, .string vic, .bool out]) (by simp [results, Try.results16, go_sem, r0, r1, r2]) rfl ⟨rfl, HB.out.mod hO.has, _, HB.out.leftLim hO.has 2, lim own8 2, lb, lim_owned own8 2, HC.out.keep (Keeps.lim _ _ (by decide)), HL.out.keep (Keeps.lim _ _ (by decide))⟩
      · rw [show lruStep most ks key = stepV false ⟨#[]⟩ false by unfold lruStep; rw [if_neg h0, if_neg h1, if_neg h2], show lruReq most ks key = bk ks key by unfold lruReq; rw [if_neg h0, if_neg h1, if_neg h2]]
        unfold stepV
        have HD := hid hd
        clear h0 h1 hd
        have c0 := HC.out.1.at 0 _ rfl
        have c1 := HC.out.1.at 1 _ rfl
        have clt := HC.out.1.lt
        go_enter Try.func16, Try.ntmps16
        go_wp2_with fail
        obtain ⟨own1, hB', hL', hK'⟩ := home_alloc HB.out [.bool false, .string ⟨#[]⟩, .bool false] 27 3
        replace HC := hid (HC.out.keep (hK' 1))
        replace HL := hid (HL.out.keep (hK' 2))
        have HR := hid hL'
        replace HB := hid hB'
        clear hB' hL' hK'
        have hsz_x1 : Hid ((w.alloc (.cells [.bool false, .string ⟨#[]⟩, .bool false].toArray 27)).heap.size = w.heap.size + 1) := hid (by simp)
        generalize w.alloc (.cells [.bool false, .string ⟨#[]⟩, .bool false].toArray 27) = x1 at HB hsz_x1 HC HL HR ⊢
        replace c0 := HC.out.1.at 0 _ rfl
        replace c1 := HC.out.1.at 1 _ rfl
        replace clt := HC.out.1.lt
        have r0 := HR.out.1.at 0 _ rfl
        have rf0 := HR.out.1.free 0
        have r1 := HR.out.1.at 1 _ rfl
        have rf1 := HR.out.1.free 1
        have r2 := HR.out.1.at 2 _ rfl
        have rf2 := HR.out.1.free 2
        have rlt := HR.out.1.lt
        have hq := w_Has HL.out key
        rw [HD.out] at hq
        have HQ := hid hq
        clear hq
        go_wp2_with fail
        have hct := (HQ.out)
        with_reducible refine hct.mono ?_
        clear hct
        rintro e w' ⟨rfl, rfl⟩
        clear HQ
        go_wp2_with fail
        obtain ⟨own3, hB', hL', hK'⟩ := home_alloc HB.out [.bool false, .string ⟨#[]⟩, .bool false] 27 4
        replace HC := hid (HC.out.keep (hK' 1))
        replace HL := hid (HL.out.keep (hK' 2))
        replace HR := hid (HR.out.keep (hK' 3))
        have HS := hid hL'
        replace HB := hid hB'
        clear hB' hL' hK'
        have hsz_x3 : Hid ((x1.alloc (.cells [.bool false, .string ⟨#[]⟩, .bool false].toArray 27)).heap.size = x1.heap.size + 1) := hid (by simp)
        generalize x1.alloc (.cells [.bool false, .string ⟨#[]⟩, .bool false].toArray 27) = x3 at HB hsz_x3 HC HL HR HS ⊢
        replace c0 := HC.out.1.at 0 _ rfl
        replace c1 := HC.out.1.at 1 _ rfl
        replace clt := HC.out.1.lt
        replace r0 := HR.out.1.at 0 _ rfl
        replace rf0 := HR.out.1.free 0
        replace r1 := HR.out.1.at 1 _ rfl
        replace rf1 := HR.out.1.free 1
        replace r2 := HR.out.1.at 2 _ rfl
        replace rf2 := HR.out.1.free 2
        replace rlt := HR.out.1.lt
        have s0 := HS.out.1.at 0 _ rfl
        have sf0 := HS.out.1.free 0
        have s1 := HS.out.1.at 1 _ rfl
        have sf1 := HS.out.1.free 1
        have s2 := HS.out.1.at 2 _ rfl
        have sf2 := HS.out.1.free 2
        have slt := HS.out.1.lt
        have hq := fun m => w_Len (Mov.drewN (R := fun w S => LL w S lb ks.reverse n) HL.out m)
        rw [List.length_reverse] at hq
        have HQ := hid hq
        clear hq
        go_quiet ((go_at_call 61; exact quietSame (HQ.out _)))
        clear HQ
        obtain ⟨hB', hK'⟩ := home_drewN HB.out nq
        replace HC := hid (HC.out.keep (hK' 1))
        replace HL := hid (HL.out.keep (hK' 2))
        replace HR := hid (HR.out.keep (hK' 3))
        replace HS := hid (HS.out.keep (hK' 4))
        replace HB := hid hB'
        clear hB' hK'
        have hsz_x4 : Hid ((x3.drewN nq).heap.size = x3.heap.size) := hid (by simp)
        generalize x3.drewN nq = x4 at HB hsz_x4 HC HL HR HS ⊢
        replace c0 := HC.out.1.at 0 _ rfl
        replace c1 := HC.out.1.at 1 _ rfl
        replace clt := HC.out.1.lt
        replace r0 := HR.out.1.at 0 _ rfl
        replace rf0 := HR.out.1.free 0
        replace r1 := HR.out.1.at 1 _ rfl
        replace rf1 := HR.out.1.free 1
        replace r2 := HR.out.1.at 2 _ rfl
        replace rf2 := HR.out.1.free 2
        replace rlt := HR.out.1.lt
        replace s0 := HS.out.1.at 0 _ rfl
        replace sf0 := HS.out.1.free 0
        replace s1 := HS.out.1.at 1 _ rfl
        replace sf1 := HS.out.1.free 1
        replace s2 := HS.out.1.at 2 _ rfl
        replace sf2 := HS.out.1.free 2
        replace slt := HS.out.1.lt
        have hq := w_Front HL.out (by omega) key
        rw [fr_reverse] at hq
        have HQ := hid hq
        clear hq
        go_wp2_with fail
        have hct := step_turn HB.out (by decide) (HQ.out)
        with_reducible refine hct.mono ?_
        clear hct
        rintro e x5 ⟨own5, rfl, hB', hL', hK'⟩
        replace HC := hid (HC.out.keep (hK' 1 (by decide)))
        replace HR := hid (HR.out.keep (hK' 3 (by decide)))
        replace HS := hid (HS.out.keep (hK' 4 (by decide)))
        replace HL := hid hL'
        replace HB := hid hB'
        clear hB' hL' hK'
        replace c0 := HC.out.1.at 0 _ rfl
        replace c1 := HC.out.1.at 1 _ rfl
        replace clt := HC.out.1.lt
        replace r0 := HR.out.1.at 0 _ rfl
        replace rf0 := HR.out.1.free 0
        replace r1 := HR.out.1.at 1 _ rfl
        replace rf1 := HR.out.1.free 1
        replace r2 := HR.out.1.at 2 _ rfl
        replace rf2 := HR.out.1.free 2
        replace rlt := HR.out.1.lt
        replace s0 := HS.out.1.at 0 _ rfl
        replace sf0 := HS.out.1.free 0
        replace s1 := HS.out.1.at 1 _ rfl
        replace sf1 := HS.out.1.free 1
        replace s2 := HS.out.1.at 2 _ rfl
        replace sf2 := HS.out.1.free 2
        replace slt := HS.out.1.lt
        go_wp2_with fail
        obtain ⟨hB', hL', hK'⟩ := home_store HB.out (by decide) HR.out 0 (.bool false)
        replace HC := hid (HC.out.keep (hK' 1 (by decide)))
        replace HL := hid (HL.out.keep (hK' 2 (by decide)))
        replace HS := hid (HS.out.keep (hK' 4 (by decide)))
        replace HR := hid hL'
        replace HB := hid hB'
        clear hB' hL' hK'
        have hsz_x6 : Hid ((x5.setCell ⟨w.heap.size, 0, none⟩ (.bool false)).heap.size = x5.heap.size) := hid (by simp)
        generalize x5.setCell ⟨w.heap.size, 0, none⟩ (.bool false) = x6 at HB hsz_x6 HC HL HR HS ⊢
        replace c0 := HC.out.1.at 0 _ rfl
        replace c1 := HC.out.1.at 1 _ rfl
        replace clt := HC.out.1.lt
        replace r0 := HR.out.1.at 0 _ rfl
        replace rf0 := HR.out.1.free 0
        replace r1 := HR.out.1.at 1 _ rfl
        replace rf1 := HR.out.1.free 1
        replace r2 := HR.out.1.at 2 _ rfl
        replace rf2 := HR.out.1.free 2
        replace rlt := HR.out.1.lt
        replace s0 := HS.out.1.at 0 _ rfl
        replace sf0 := HS.out.1.free 0
        replace s1 := HS.out.1.at 1 _ rfl
        replace sf1 := HS.out.1.free 1
        replace s2 := HS.out.1.at 2 _ rfl
        replace sf2 := HS.out.1.free 2
        replace slt := HS.out.1.lt
        obtain ⟨hB', hL', hK'⟩ := home_store HB.out (by decide) HR.out 1 (.string ⟨#[]⟩)
        replace HC := hid (HC.out.keep (hK' 1 (by decide)))
        replace HL := hid (HL.out.keep (hK' 2 (by decide)))
        replace HS := hid (HS.out.keep (hK' 4 (by decide)))
        replace HR := hid hL'
        replace HB := hid hB'
        clear hB' hL' hK'
        have hsz_x7 : Hid ((x6.setCell ⟨w.heap.size, 1, none⟩ (.string ⟨#[]⟩)).heap.size = x5.heap.size) := hid (by simp [hsz_x6.out])
        generalize x6.setCell ⟨w.heap.size, 1, none⟩ (.string ⟨#[]⟩) = x7 at HB hsz_x7 HC HL HR HS ⊢
        replace c0 := HC.out.1.at 0 _ rfl
        replace c1 := HC.out.1.at 1 _ rfl
        replace clt := HC.out.1.lt
        replace r0 := HR.out.1.at 0 _ rfl
        replace rf0 := HR.out.1.free 0
        replace r1 := HR.out.1.at 1 _ rfl
        replace rf1 := HR.out.1.free 1
        replace r2 := HR.out.1.at 2 _ rfl
        replace rf2 := HR.out.1.free 2
        replace rlt := HR.out.1.lt
        replace s0 := HS.out.1.at 0 _ rfl
        replace sf0 := HS.out.1.free 0
        replace s1 := HS.out.1.at 1 _ rfl
        replace sf1 := HS.out.1.free 1
        replace s2 := HS.out.1.at 2 _ rfl
        replace sf2 := HS.out.1.free 2
        replace slt := HS.out.1.lt
        obtain ⟨hB', hL', hK'⟩ := home_store HB.out (by decide) HR.out 2 (.bool false)
        replace HC := hid (HC.out.keep (hK' 1 (by decide)))
        replace HL := hid (HL.out.keep (hK' 2 (by decide)))
        replace HS := hid (HS.out.keep (hK' 4 (by decide)))
        replace HR := hid hL'
        replace HB := hid hB'
        clear hB' hL' hK'
        have hsz_x8 : Hid ((x7.setCell ⟨w.heap.size, 2, none⟩ (.bool false)).heap.size = x5.heap.size) := hid (by simp [hsz_x7.out])
        generalize x7.setCell ⟨w.heap.size, 2, none⟩ (.bool false) = x8 at HB hsz_x8 HC HL HR HS ⊢
        replace c0 := HC.out.1.at 0 _ rfl
        replace c1 := HC.out.1.at 1 _ rfl
        replace clt := HC.out.1.lt
        replace r0 := HR.out.1.at 0 _ rfl
        replace rf0 := HR.out.1.free 0
        replace r1 := HR.out.1.at 1 _ rfl
        replace rf1 := HR.out.1.free 1
        replace r2 := HR.out.1.at 2 _ rfl
        replace rf2 := HR.out.1.free 2
        replace rlt := HR.out.1.lt
        replace s0 := HS.out.1.at 0 _ rfl
        replace sf0 := HS.out.1.free 0
        replace s1 := HS.out.1.at 1 _ rfl
        replace sf1 := HS.out.1.free 1
        replace s2 := HS.out.1.at 2 _ rfl
        replace sf2 := HS.out.1.free 2
        replace slt := HS.out.1.lt
        refine bodyPost_ret (v := .agg #[.bool false, .string ⟨#[]⟩, .bool false]) (by simp [results, Try.results16, go_sem, r0, r1, r2]) rfl ⟨rfl, HB.out.mod hO.has, _, HB.out.leftLim hO.has 2, lim own5 2, lb, lim_owned own5 2, HC.out.keep (Keeps.lim _ _ (by decide)), HL.out.keep (Keeps.lim _ _ (by decide))⟩

def lruRoom (most : Int) (ks : List ByteArray) (k : ByteArray) : Bool := decide (k ∉ ks ∧ (ks.length : Int) < most)
set_option maxHeartbeats 1600000 in
set_option maxRecDepth 100000 in
theorem lru_Adopt (h : LruAt w S b most ks n) (hb : n ≤ 100000000) (key : ByteArray) :
    Calls Try.prog 24 #[.pointer (some ⟨b, 0, none⟩), .string key] w (After S w (.bool (lruRoom most ks key)) fun w S => LruAt w S b most (if lruRoom most ks key then bk ks key else ks) (n + 1)) := by
  have H0 := hid h
  obtain ⟨own, lb, hO, hC, hL⟩ := h
  have HB := hid (Home.start own w)
  have HC := hid hC; have HL := hid hL
  clear hC hL
  by_cases h1 : key ∈ ks
  · rw [show lruRoom most ks key = false by unfold lruRoom; simp [h1], if_neg (by decide)]
    have hq := fun m => w_Has (Mov.drewN (R := fun w S => LL w S lb ks.reverse n) HL.out m) key
    rw [show decide (key ∈ ks.reverse) = true by simp [h1]] at hq
    have HQ := hid hq
    clear hq h1
    have c0 := HC.out.1.at 0 _ rfl
    have c1 := HC.out.1.at 1 _ rfl
    have clt := HC.out.1.lt
    go_enter Try.func24, Try.ntmps24
    go_wp2_with fail
    go_quiet ((go_at_call 60; exact quietSame (HQ.out _)))
    clear HQ
    go_wp2
    go_ret
    exact ⟨rfl, (Mod.refl _ _).drewN nq, S, fun _ q => .inl q, Mov.drewN (R := fun w S => LruAt w S b most ks (n + 1)) (H0.out.up (by omega)) nq⟩
  · have hq := fun m => w_Has (Mov.drewN (R := fun w S => LL w S lb ks.reverse n) HL.out m) key
    rw [show decide (key ∈ ks.reverse) = false by simp [h1]] at hq
    have hq2 := fun m => w_Len (Mov.drewN (R := fun w S => LL w S lb ks.reverse n) HL.out m)
    rw [List.length_reverse] at hq2
    have HQ := hid hq; have HQ2 := hid hq2
    clear hq hq2
    by_cases h2 : (ks.length : Int) < most
    · rw [show lruRoom most ks key = true by unfold lruRoom; simp [h1, h2], if_pos rfl]
      clear h1
      have c0 := HC.out.1.at 0 _ rfl
      have c1 := HC.out.1.at 1 _ rfl
      have clt := HC.out.1.lt
      go_enter Try.func24, Try.ntmps24
      go_wp2_with fail
      go_quiet ((first | (go_at_call 60; exact quietSame (HQ.out _)) | (go_at_call 61; exact quietSame (HQ2.out _))))
      clear HQ HQ2
      obtain ⟨hB', hK'⟩ := home_drewN HB.out nq
      replace HC := hid (HC.out.keep (hK' 1))
      replace HL := hid (HL.out.keep (hK' 2))
      replace HB := hid hB'
      clear hB' hK'
      have hsz_x1 : Hid ((w.drewN nq).heap.size = w.heap.size) := hid (by simp)
      generalize w.drewN nq = x1 at HB hsz_x1 HC HL ⊢
      replace c0 := HC.out.1.at 0 _ rfl
      replace c1 := HC.out.1.at 1 _ rfl
      replace clt := HC.out.1.lt
      have hq := w_Front HL.out (by omega) key
      rw [fr_reverse] at hq
      have HQ := hid hq
      clear hq
      go_wp2_with fail
      have hct := step_turn HB.out (by decide) (HQ.out)
      with_reducible refine hct.mono ?_
      clear hct
      rintro e x2 ⟨own2, rfl, hB', hL', hK'⟩
      replace HC := hid (HC.out.keep (hK' 1 (by decide)))
      replace HL := hid hL'
      replace HB := hid hB'
      clear hB' hL' hK'
      replace c0 := HC.out.1.at 0 _ rfl
      replace c1 := HC.out.1.at 1 _ rfl
      replace clt := HC.out.1.lt
      go_wp2
      go_ret
      exact ⟨rfl, HB.out.mod hO.has, _, HB.out.leftLim hO.has 2, lim own2 2, lb, lim_owned own2 2, HC.out.keep (Keeps.lim _ _ (by decide)), HL.out.keep (Keeps.lim _ _ (by decide))⟩
    · rw [show lruRoom most ks key = false by unfold lruRoom; simp [h2], if_neg (by decide)]
      clear h1
      have c0 := HC.out.1.at 0 _ rfl
      have c1 := HC.out.1.at 1 _ rfl
      have clt := HC.out.1.lt
      go_enter Try.func24, Try.ntmps24
      go_wp2_with fail
      go_quiet ((first | (go_at_call 60; exact quietSame (HQ.out _)) | (go_at_call 61; exact quietSame (HQ2.out _))))
      clear HQ HQ2
      go_wp2
      go_ret
      exact ⟨rfl, (Mod.refl _ _).drewN nq, S, fun _ q => .inl q, Mov.drewN (R := fun w S => LruAt w S b most ks (n + 1)) (H0.out.up (by omega)) nq⟩

/-- What goes, when a cache is made of so many; what stays. -/
def lruOut (most : Int) (ks : List ByteArray) : List ByteArray := ks.take (ks.length - most.toNat)
def lruKeep (most : Int) (ks : List ByteArray) : List ByteArray := ks.drop (ks.length - most.toNat)

theorem take_snoc {ks : List ByteArray} {j : Nat} {r : List ByteArray} {x : ByteArray} (h : ks.drop j = x :: r) : ks.take (j + 1) = ks.take j ++ [x] ∧ ks.drop (j + 1) = r ∧ (ks.take j).length = j ∧ j < ks.length := by
  have hj : j < ks.length := Nat.lt_of_not_le fun q => by rw [List.drop_eq_nil_of_le q] at h; cases h
  rw [List.drop_eq_getElem_cons hj] at h
  injection h with h1 h2
  exact ⟨by rw [List.take_succ_eq_append_getElem hj, h1], h2, by rw [List.length_take]; omega, hj⟩

set_option maxHeartbeats 1600000 in
set_option maxRecDepth 100000 in
theorem lru_goes {own0 own : Nat → Nat} {w0 : World} {b lb pb ob : Nat} {v : Value} {x : ByteArray} {xs r : List ByteArray} (hB : Home own0 w0 w own) (hC : BlkAt w (fun k => own k = 1) b [.int .i64 most, .pointer (some ⟨lb, 0, none⟩)] 78) (hL : LL w (fun k => own k = 2) lb (x :: r).reverse n)
    (hP : BlkAt w (fun k => own k = 3) pb [.pointer (some ⟨b, 0, none⟩)] 24) (hO : BlkAt w (fun k => own k = 4) ob [v] 22) (hR : Row w (fun k => own k = 5) 9 1 v xs.length (xs.map Value.string)) (hb : n ≤ 100000000) (hx : xs.length ≤ 100000000) :
    Calls Try.prog 66 #[.pointer (some ⟨pb, 0, none⟩), .pointer (some ⟨ob, 0, none⟩)] w fun e w' => e = .returned (.tuple #[]) ∧ ∃ own' v', Home own0 w0 w' own' ∧ BlkAt w' (fun k => own' k = 1) b [.int .i64 most, .pointer (some ⟨lb, 0, none⟩)] 78 ∧ LL w' (fun k => own' k = 2) lb r.reverse n ∧
      BlkAt w' (fun k => own' k = 3) pb [.pointer (some ⟨b, 0, none⟩)] 24 ∧ BlkAt w' (fun k => own' k = 4) ob [v'] 22 ∧ Row w' (fun k => own' k = 5) 9 1 v' (xs ++ [x]).length ((xs ++ [x]).map Value.string) := by
  have HB := hid hB; have HC := hid hC; have HL := hid hL; have HP := hid hP; have HO := hid hO; have HR := hid hR
  clear hB hC hL hP hO hR
  have hq := w_Pop HL.out (by omega)
  rw [head_getD_reverse, dropLast_reverse] at hq
  have HQ := hid hq
  clear hq
  have c0 := HC.out.1.at 0 _ rfl
  have c1 := HC.out.1.at 1 _ rfl
  have clt := HC.out.1.lt
  have p0 := HP.out.1.at 0 _ rfl
  have plt := HP.out.1.lt
  have o0 := HO.out.1.at 0 _ rfl
  have of0 := HO.out.1.free 0
  have olt := HO.out.1.lt
  go_enter Try.func66, Try.ntmps66
  go_wp2_with fail
  have hct := step_turn HB.out (by decide) (HQ.out)
  with_reducible refine hct.mono ?_
  clear hct
  rintro e x1 ⟨own1, rfl, hB', hL', hK'⟩
  replace HC := hid (HC.out.keep (hK' 1 (by decide)))
  replace HP := hid (HP.out.keep (hK' 3 (by decide)))
  replace HO := hid (HO.out.keep (hK' 4 (by decide)))
  replace HR := hid (HR.out.keep (hK' 5 (by decide)))
  replace HL := hid hL'
  replace HB := hid hB'
  clear hB' hL' hK'
  replace c0 := HC.out.1.at 0 _ rfl
  replace c1 := HC.out.1.at 1 _ rfl
  replace clt := HC.out.1.lt
  replace p0 := HP.out.1.at 0 _ rfl
  replace plt := HP.out.1.lt
  replace o0 := HO.out.1.at 0 _ rfl
  replace of0 := HO.out.1.free 0
  replace olt := HO.out.1.lt
  go_wp2_with (at_builtin; refine wpRowPush rfl _ _ rfl sl_str (by omega) HR.out rfl rfl rfl [.string x] 9 rfl ?_ ?_ ?_ ?_)
  · simp [Value.oneCell']
  · unfold maxLen; omega
  · omega
  · intro v2 w2 hr2 hm2 hs2
    obtain ⟨a2, cp2, rfl, _, _⟩ := hr2.len
    obtain ⟨own2, hB', hL', hK'⟩ := home_turnrow HB.out (by decide) hm2 hr2
    replace HC := hid (HC.out.keep (hK' 1 (by decide)))
    replace HL := hid (HL.out.keep (hK' 2 (by decide)))
    replace HP := hid (HP.out.keep (hK' 3 (by decide)))
    replace HO := hid (HO.out.keep (hK' 4 (by decide)))
    replace HR := hid hL'
    replace HB := hid hB'
    clear hB' hL' hK'
    clear hr2 hm2
    replace c0 := HC.out.1.at 0 _ rfl
    replace c1 := HC.out.1.at 1 _ rfl
    replace clt := HC.out.1.lt
    replace p0 := HP.out.1.at 0 _ rfl
    replace plt := HP.out.1.lt
    replace o0 := HO.out.1.at 0 _ rfl
    replace of0 := HO.out.1.free 0
    replace olt := HO.out.1.lt
    go_wp2_with fail
    obtain ⟨hB', hL', hK'⟩ := home_store HB.out (by decide) HO.out 0 (.slice a2 (xs.length + 1) cp2)
    replace HC := hid (HC.out.keep (hK' 1 (by decide)))
    replace HL := hid (HL.out.keep (hK' 2 (by decide)))
    replace HP := hid (HP.out.keep (hK' 3 (by decide)))
    replace HR := hid (HR.out.keep (hK' 5 (by decide)))
    replace HO := hid hL'
    replace HB := hid hB'
    clear hB' hL' hK'
    have hsz_x3 : Hid ((w2.setCell ⟨ob, 0, none⟩ (.slice a2 (xs.length + 1) cp2)).heap.size = w2.heap.size) := hid (by simp)
    generalize w2.setCell ⟨ob, 0, none⟩ (.slice a2 (xs.length + 1) cp2) = x3 at HB hsz_x3 HC HL HP HO HR ⊢
    replace c0 := HC.out.1.at 0 _ rfl
    replace c1 := HC.out.1.at 1 _ rfl
    replace clt := HC.out.1.lt
    replace p0 := HP.out.1.at 0 _ rfl
    replace plt := HP.out.1.lt
    replace o0 := HO.out.1.at 0 _ rfl
    replace of0 := HO.out.1.free 0
    replace olt := HO.out.1.lt
    go_end0
    exact ⟨rfl, own2, _, HB.out, HC.out, HL.out, HP.out, HO.out, by simpa using HR.out⟩

/-- After j went. -/
def ResizeInv (own0 : Nat → Nat) (w wr : World) (b lb pb ob : Nat) (x : Int) (ks : List ByteArray) (n j : Nat) : Prop :=
  ∃ own v, Home own0 w wr own ∧ BlkAt wr (fun k => own k = 1) b [.int .i64 x, .pointer (some ⟨lb, 0, none⟩)] 78 ∧ LL wr (fun k => own k = 2) lb (ks.drop j).reverse n ∧
      BlkAt wr (fun k => own k = 3) pb [.pointer (some ⟨b, 0, none⟩)] 24 ∧ BlkAt wr (fun k => own k = 4) ob [v] 22 ∧ Row wr (fun k => own k = 5) 9 1 v (ks.take j).length ((ks.take j).map Value.string)

set_option maxHeartbeats 1600000 in
set_option maxRecDepth 100000 in
theorem lru_Resize (h : LruAt w S b most ks n) (hb : n ≤ 100000000) (m : Int) (hm : -9223372036854775808 ≤ m ∧ m ≤ 9223372036854775807) :
    Calls Try.prog 23 #[.pointer (some ⟨b, 0, none⟩), .int .i64 m] w (AfterMake S w (fun w S => LruAt w S b (max m 0) (lruKeep m ks) n) fun v w S => Row w S 9 1 v (lruOut m ks).length ((lruOut m ks).map Value.string)) := by
  have hle := h.le
  obtain ⟨own, lb, hO, hC, hL⟩ := h
  have HB := hid (Home.start own w)
  have HC := hid hC; have HL := hid hL
  clear hC hL
  obtain ⟨N, hN⟩ : ∃ N : Nat, ks.length - m.toNat = N := ⟨_, rfl⟩
  have hN2 : N ≤ ks.length := by omega
  unfold lruKeep lruOut
  rw [hN]
  by_cases h0 : m < 0
  · rw [show max m 0 = 0 by omega]
    have c0 := HC.out.1.at 0 _ rfl
    have cf0 := HC.out.1.free 0
    have c1 := HC.out.1.at 1 _ rfl
    have cf1 := HC.out.1.free 1
    have clt := HC.out.1.lt
    go_enter Try.func23, Try.ntmps23
    go_wp2_with fail
    obtain ⟨hB', hL', hK'⟩ := home_store HB.out (by decide) HC.out 0 (.int .i64 0)
    replace HL := hid (HL.out.keep (hK' 2 (by decide)))
    replace HC := hid hL'
    replace HB := hid hB'
    clear hB' hL' hK'
    have hsz_x1 : Hid ((w.setCell ⟨b, 0, none⟩ (.int .i64 0)).heap.size = w.heap.size) := hid (by simp)
    generalize w.setCell ⟨b, 0, none⟩ (.int .i64 0) = x1 at HB hsz_x1 HC HL ⊢
    replace c0 := HC.out.1.at 0 _ rfl
    replace cf0 := HC.out.1.free 0
    replace c1 := HC.out.1.at 1 _ rfl
    replace cf1 := HC.out.1.free 1
    replace clt := HC.out.1.lt
    obtain ⟨own2, hB', hL', hK'⟩ := home_alloc HB.out [.pointer (some ⟨b, 0, none⟩)] 24 3
    replace HC := hid (HC.out.keep (hK' 1))
    replace HL := hid (HL.out.keep (hK' 2))
    rw [hsz_x1.out] at hL'
    have HP := hid hL'
    replace HB := hid hB'
    clear hB' hL' hK'
    have hsz_x2 : Hid ((x1.alloc (.cells [.pointer (some ⟨b, 0, none⟩)].toArray 24)).heap.size = w.heap.size + 1) := hid (by simp [hsz_x1.out])
    generalize x1.alloc (.cells [.pointer (some ⟨b, 0, none⟩)].toArray 24) = x2 at HB hsz_x2 HC HL HP ⊢
    replace c0 := HC.out.1.at 0 _ rfl
    replace cf0 := HC.out.1.free 0
    replace c1 := HC.out.1.at 1 _ rfl
    replace cf1 := HC.out.1.free 1
    replace clt := HC.out.1.lt
    obtain ⟨own3, hB', hL', hK'⟩ := home_alloc HB.out [.slice none 0 0] 22 4
    replace HC := hid (HC.out.keep (hK' 1))
    replace HL := hid (HL.out.keep (hK' 2))
    replace HP := hid (HP.out.keep (hK' 3))
    rw [hsz_x2.out] at hL'
    have HV := hid hL'
    replace HB := hid hB'
    clear hB' hL' hK'
    have hsz_x3 : Hid ((x2.alloc (.cells [.slice none 0 0].toArray 22)).heap.size = w.heap.size + 2) := hid (by simp [hsz_x2.out])
    generalize x2.alloc (.cells [.slice none 0 0].toArray 22) = x3 at HB hsz_x3 HC HL HP HV ⊢
    replace c0 := HC.out.1.at 0 _ rfl
    replace cf0 := HC.out.1.free 0
    replace c1 := HC.out.1.at 1 _ rfl
    replace cf1 := HC.out.1.free 1
    replace clt := HC.out.1.lt
    go_loopg [] N (fun k wr => ∃ j, j + k = N ∧ ResizeInv own w wr b lb w.heap.size (w.heap.size + 1) 0 ks n j)
    case atStart => exact ⟨0, by omega, own3, _, HB.out, HC.out, HL.out, HP.out, HV.out, Row.nil _ _ _ _⟩
    case round =>
      clear HB HC HL HP HV c0 cf0 c1 cf1 clt
      obtain ⟨j, hj, own', v, hB, hC, hL, hP, hV, hR⟩ := hrel
      have HB := hid hB
      have HC := hid hC
      have HL := hid hL
      have HP := hid hP
      have HV := hid hV
      have HR := hid hR
      clear hB hC hL hP hV hR
      have c0 := HC.out.1.at 0 _ rfl
      have c1 := HC.out.1.at 1 _ rfl
      have clt := HC.out.1.lt
      have p0 := HP.out.1.at 0 _ rfl
      have plt := HP.out.1.lt
      have v0 := HV.out.1.at 0 _ rfl
      have vlt := HV.out.1.lt
      have hq := fun m => w_Len (Mov.drewN (R := fun w S => LL w S lb (ks.drop j).reverse n) HL.out m)
      rw [List.length_reverse, List.length_drop] at hq
      have HQ := hid hq
      clear hq
      by_cases hlt : j < N
      · have ht : 0 < ((ks.length - j : Nat) : Int) := by omega
        obtain ⟨x, r, hr⟩ : ∃ x r, ks.drop j = x :: r := by
          cases hq : ks.drop j with
          | nil => have := congrArg List.length hq; rw [List.length_drop] at this; simp at this; omega
          | cons x r => exact ⟨x, r, rfl⟩
        obtain ⟨t1, t2, t3, t4⟩ := take_snoc hr
        have HX := hid hr; have T1 := hid t1; have T2 := hid t2; have T3 := hid t3
        clear hr t1 t2 t3
        go_wp2_with fail
        go_quiet ((go_at_call 61; exact quietSame (HQ.out _)))
        clear HQ ht
        obtain ⟨hB', hK'⟩ := home_drewN HB.out nq
        replace HC := hid (HC.out.keep (hK' 1))
        replace HL := hid (HL.out.keep (hK' 2))
        replace HP := hid (HP.out.keep (hK' 3))
        replace HV := hid (HV.out.keep (hK' 4))
        replace HR := hid (HR.out.keep (hK' 5))
        replace HB := hid hB'
        clear hB' hK'
        have hsz_x1 : Hid ((wr.drewN nq).heap.size = wr.heap.size) := hid (by simp)
        generalize wr.drewN nq = x1 at HB hsz_x1 HC HL HP HV HR ⊢
        replace c0 := HC.out.1.at 0 _ rfl
        replace c1 := HC.out.1.at 1 _ rfl
        replace clt := HC.out.1.lt
        replace p0 := HP.out.1.at 0 _ rfl
        replace plt := HP.out.1.lt
        replace v0 := HV.out.1.at 0 _ rfl
        replace vlt := HV.out.1.lt
        go_wp2_with fail
        have hq := lru_goes HB.out HC.out (by have := HL.out; rw [HX.out] at this; exact this) HP.out HV.out HR.out hb (by rw [T3.out]; omega)
        with_reducible refine hq.mono ?_
        rintro e x9 ⟨rfl, own9, v9, hB, hC, hL, hP, hV, hR⟩
        have HB := hid hB
        have HC := hid hC
        have HL := hid hL
        have HP := hid hP
        have HV := hid hV
        have HR := hid hR
        clear hB hC hL hP hV hR
        clear hq
        go_wp2_with fail
        go_roundg (gk - 1)
        case measure => omega
        case rel => exact ⟨j + 1, by omega, own9, v9, HB.out, HC.out, by rw [T2.out]; exact HL.out, HP.out, HV.out, by rw [T1.out]; exact HR.out⟩
      · have hjN : j = N := by omega
        have ht : ((ks.length - j : Nat) : Int) ≤ 0 := by omega
        go_wp2_with fail
        go_quiet ((go_at_call 61; exact quietSame (HQ.out _)))
        clear HQ ht
        obtain ⟨hB', hK'⟩ := home_drewN HB.out nq
        replace HC := hid (HC.out.keep (hK' 1))
        replace HL := hid (HL.out.keep (hK' 2))
        replace HP := hid (HP.out.keep (hK' 3))
        replace HV := hid (HV.out.keep (hK' 4))
        replace HR := hid (HR.out.keep (hK' 5))
        replace HB := hid hB'
        clear hB' hK'
        have hsz_x2 : Hid ((x1.drewN nq).heap.size = x1.heap.size) := hid (by simp)
        generalize x1.drewN nq = x2 at HB hsz_x2 HC HL HP HV HR ⊢
        replace c0 := HC.out.1.at 0 _ rfl
        replace c1 := HC.out.1.at 1 _ rfl
        replace clt := HC.out.1.lt
        replace p0 := HP.out.1.at 0 _ rfl
        replace plt := HP.out.1.lt
        replace v0 := HV.out.1.at 0 _ rfl
        replace vlt := HV.out.1.lt
        go_wp2_with fail
        go_ret
        subst hjN
        exact ⟨_, rfl, HB.out.mod hO.has, (fun k => lim own' 2 k ≠ 0), (fun k => own' k = 5), HB.out.leftLim hO.has 2, HB.out.new (hO.lack (by decide)), lim_apart own' (by decide), ⟨lim own' 2, lb, lim_owned own' 2, HC.out.keep (Keeps.lim _ _ (by decide)), HL.out.keep (Keeps.lim _ _ (by decide))⟩, HR.out⟩
  · rw [show max m 0 = m by omega]
    have c0 := HC.out.1.at 0 _ rfl
    have cf0 := HC.out.1.free 0
    have c1 := HC.out.1.at 1 _ rfl
    have cf1 := HC.out.1.free 1
    have clt := HC.out.1.lt
    go_enter Try.func23, Try.ntmps23
    go_wp2_with fail
    obtain ⟨hB', hL', hK'⟩ := home_store HB.out (by decide) HC.out 0 (.int .i64 m)
    replace HL := hid (HL.out.keep (hK' 2 (by decide)))
    replace HC := hid hL'
    replace HB := hid hB'
    clear hB' hL' hK'
    have hsz_x1 : Hid ((w.setCell ⟨b, 0, none⟩ (.int .i64 m)).heap.size = w.heap.size) := hid (by simp)
    generalize w.setCell ⟨b, 0, none⟩ (.int .i64 m) = x1 at HB hsz_x1 HC HL ⊢
    replace c0 := HC.out.1.at 0 _ rfl
    replace cf0 := HC.out.1.free 0
    replace c1 := HC.out.1.at 1 _ rfl
    replace cf1 := HC.out.1.free 1
    replace clt := HC.out.1.lt
    obtain ⟨own2, hB', hL', hK'⟩ := home_alloc HB.out [.pointer (some ⟨b, 0, none⟩)] 24 3
    replace HC := hid (HC.out.keep (hK' 1))
    replace HL := hid (HL.out.keep (hK' 2))
    rw [hsz_x1.out] at hL'
    have HP := hid hL'
    replace HB := hid hB'
    clear hB' hL' hK'
    have hsz_x2 : Hid ((x1.alloc (.cells [.pointer (some ⟨b, 0, none⟩)].toArray 24)).heap.size = w.heap.size + 1) := hid (by simp [hsz_x1.out])
    generalize x1.alloc (.cells [.pointer (some ⟨b, 0, none⟩)].toArray 24) = x2 at HB hsz_x2 HC HL HP ⊢
    replace c0 := HC.out.1.at 0 _ rfl
    replace cf0 := HC.out.1.free 0
    replace c1 := HC.out.1.at 1 _ rfl
    replace cf1 := HC.out.1.free 1
    replace clt := HC.out.1.lt
    obtain ⟨own3, hB', hL', hK'⟩ := home_alloc HB.out [.slice none 0 0] 22 4
    replace HC := hid (HC.out.keep (hK' 1))
    replace HL := hid (HL.out.keep (hK' 2))
    replace HP := hid (HP.out.keep (hK' 3))
    rw [hsz_x2.out] at hL'
    have HV := hid hL'
    replace HB := hid hB'
    clear hB' hL' hK'
    have hsz_x3 : Hid ((x2.alloc (.cells [.slice none 0 0].toArray 22)).heap.size = w.heap.size + 2) := hid (by simp [hsz_x2.out])
    generalize x2.alloc (.cells [.slice none 0 0].toArray 22) = x3 at HB hsz_x3 HC HL HP HV ⊢
    replace c0 := HC.out.1.at 0 _ rfl
    replace cf0 := HC.out.1.free 0
    replace c1 := HC.out.1.at 1 _ rfl
    replace cf1 := HC.out.1.free 1
    replace clt := HC.out.1.lt
    go_loopg [] N (fun k wr => ∃ j, j + k = N ∧ ResizeInv own w wr b lb w.heap.size (w.heap.size + 1) m ks n j)
    case atStart => exact ⟨0, by omega, own3, _, HB.out, HC.out, HL.out, HP.out, HV.out, Row.nil _ _ _ _⟩
    case round =>
      clear HB HC HL HP HV c0 cf0 c1 cf1 clt
      obtain ⟨j, hj, own', v, hB, hC, hL, hP, hV, hR⟩ := hrel
      have HB := hid hB
      have HC := hid hC
      have HL := hid hL
      have HP := hid hP
      have HV := hid hV
      have HR := hid hR
      clear hB hC hL hP hV hR
      have c0 := HC.out.1.at 0 _ rfl
      have c1 := HC.out.1.at 1 _ rfl
      have clt := HC.out.1.lt
      have p0 := HP.out.1.at 0 _ rfl
      have plt := HP.out.1.lt
      have v0 := HV.out.1.at 0 _ rfl
      have vlt := HV.out.1.lt
      have hq := fun m => w_Len (Mov.drewN (R := fun w S => LL w S lb (ks.drop j).reverse n) HL.out m)
      rw [List.length_reverse, List.length_drop] at hq
      have HQ := hid hq
      clear hq
      by_cases hlt : j < N
      · have ht : m < ((ks.length - j : Nat) : Int) := by omega
        obtain ⟨x, r, hr⟩ : ∃ x r, ks.drop j = x :: r := by
          cases hq : ks.drop j with
          | nil => have := congrArg List.length hq; rw [List.length_drop] at this; simp at this; omega
          | cons x r => exact ⟨x, r, rfl⟩
        obtain ⟨t1, t2, t3, t4⟩ := take_snoc hr
        have HX := hid hr; have T1 := hid t1; have T2 := hid t2; have T3 := hid t3
        clear hr t1 t2 t3
        go_wp2_with fail
        go_quiet ((go_at_call 61; exact quietSame (HQ.out _)))
        clear HQ ht
        obtain ⟨hB', hK'⟩ := home_drewN HB.out nq
        replace HC := hid (HC.out.keep (hK' 1))
        replace HL := hid (HL.out.keep (hK' 2))
        replace HP := hid (HP.out.keep (hK' 3))
        replace HV := hid (HV.out.keep (hK' 4))
        replace HR := hid (HR.out.keep (hK' 5))
        replace HB := hid hB'
        clear hB' hK'
        have hsz_x1 : Hid ((wr.drewN nq).heap.size = wr.heap.size) := hid (by simp)
        generalize wr.drewN nq = x1 at HB hsz_x1 HC HL HP HV HR ⊢
        replace c0 := HC.out.1.at 0 _ rfl
        replace c1 := HC.out.1.at 1 _ rfl
        replace clt := HC.out.1.lt
        replace p0 := HP.out.1.at 0 _ rfl
        replace plt := HP.out.1.lt
        replace v0 := HV.out.1.at 0 _ rfl
        replace vlt := HV.out.1.lt
        go_wp2_with fail
        have hq := lru_goes HB.out HC.out (by have := HL.out; rw [HX.out] at this; exact this) HP.out HV.out HR.out hb (by rw [T3.out]; omega)
        with_reducible refine hq.mono ?_
        rintro e x9 ⟨rfl, own9, v9, hB, hC, hL, hP, hV, hR⟩
        have HB := hid hB
        have HC := hid hC
        have HL := hid hL
        have HP := hid hP
        have HV := hid hV
        have HR := hid hR
        clear hB hC hL hP hV hR
        clear hq
        go_wp2_with fail
        go_roundg (gk - 1)
        case measure => omega
        case rel => exact ⟨j + 1, by omega, own9, v9, HB.out, HC.out, by rw [T2.out]; exact HL.out, HP.out, HV.out, by rw [T1.out]; exact HR.out⟩
      · have hjN : j = N := by omega
        have ht : ((ks.length - j : Nat) : Int) ≤ m := by omega
        go_wp2_with fail
        go_quiet ((go_at_call 61; exact quietSame (HQ.out _)))
        clear HQ ht
        obtain ⟨hB', hK'⟩ := home_drewN HB.out nq
        replace HC := hid (HC.out.keep (hK' 1))
        replace HL := hid (HL.out.keep (hK' 2))
        replace HP := hid (HP.out.keep (hK' 3))
        replace HV := hid (HV.out.keep (hK' 4))
        replace HR := hid (HR.out.keep (hK' 5))
        replace HB := hid hB'
        clear hB' hK'
        have hsz_x2 : Hid ((x1.drewN nq).heap.size = x1.heap.size) := hid (by simp)
        generalize x1.drewN nq = x2 at HB hsz_x2 HC HL HP HV HR ⊢
        replace c0 := HC.out.1.at 0 _ rfl
        replace c1 := HC.out.1.at 1 _ rfl
        replace clt := HC.out.1.lt
        replace p0 := HP.out.1.at 0 _ rfl
        replace plt := HP.out.1.lt
        replace v0 := HV.out.1.at 0 _ rfl
        replace vlt := HV.out.1.lt
        go_wp2_with fail
        go_ret
        subst hjN
        exact ⟨_, rfl, HB.out.mod hO.has, (fun k => lim own' 2 k ≠ 0), (fun k => own' k = 5), HB.out.leftLim hO.has 2, HB.out.new (hO.lack (by decide)), lim_apart own' (by decide), ⟨lim own' 2, lb, lim_owned own' 2, HC.out.keep (Keeps.lim _ _ (by decide)), HL.out.keep (Keeps.lim _ _ (by decide))⟩, HR.out⟩
end
end Go.Proofs.Ytjijjfdkghcjkaa
