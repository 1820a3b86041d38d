/- PolicyNames: its walk. -/
import Derived.Test.YtholinnmjoelkaaGreatDoorM30
set_option linter.unusedVariables false
set_option linter.unusedSimpArgs false
namespace Go.Proofs.YtholinnmjoelkaaGreatDoor
set_option maxHeartbeats 8000000
set_option maxRecDepth 100000
open Go.RowKit Go.MapKept
theorem policyNames_tri {w0 : World} {kind other : Int} (hg : errT w0) (hkind : -9223372036854775808 ≤ kind ∧ kind ≤ 9223372036854775807) (hother : -9223372036854775808 ≤ other ∧ other ≤ 9223372036854775807) : Tri Tryz.prog 3 #[iV kind, iV other] [oldR w0] (LawP w0) := by
 refine Tri.en (args := [iV kind, iV other]) Tryz.func3 (fun B wz => ?_)
 refine Cd.s1 (Sq.vl [0] [bV false] (Sq.d4 (Cd.seq (Cd.s1 (Sq.sm [0] (l := [oldR w0]) (o_cl Tryz.call11 (pol_awake hg)) rfl (Sq.vl [1] [bV false] (Sq.d4 (Cd.cF (Cd.skip (Ex'.next (Cd.s1 ?_)))))))))))
 refine Sq.vl [0] [iV kind] ?_
 by_cases h1 : 0 ≤ kind ∧ kind ≤ 6
 ·
  refine Sq.sm [] (l := []) (o_cl Tryz.call12 (pol_Name (k := kind) h1)) rfl (Sq.vl [2, 3, 4, 5, 6] [.tuple #[sV (pName kind), .nilIface], sV (pName kind), .nilIface, sV (pName kind), .nilIface] (Sq.d1 (Sq.vl [0] [iV kind] (Sq.sm [] (l := []) (o_cl Tryz.call13 (ref_Name (k := kind) h1)) rfl (Sq.vl [2, 3, 4, 5, 6] [.tuple #[sV (pName kind), iV 0], sV (pName kind), iV 0, sV (pName kind), iV 0] (Sq.d1 (Sq.vl [0] [iV other] ?_)))))))
  by_cases h2 : 0 ≤ other ∧ other ≤ 6
  ·
   refine Sq.sm [] (l := []) (o_cl Tryz.call12 (pol_Name (k := other) h2)) rfl (Sq.vl [2, 3, 4, 5, 6] [.tuple #[sV (pName other), .nilIface], sV (pName other), .nilIface, sV (pName other), .nilIface] (Sq.d1 (Sq.vl [0, 1] [sV (pName kind), sV (pName kind)] (Sq.v (r := bV (decide ((pName kind) = (pName kind)))) (o_eqS (a := (pName kind)) (b := (pName kind)) (by kernel_rfl) (by kernel_rfl)) rfl (by kernel_rfl) (Sq.re 30 rfl (vT rfl) (Sq.vl [3, 4, 5] [bV true, .nilIface, iV 0] (Sq.sm [] (l := []) (o_cl Tryz.call14 ((wraps_nil (op := ⟨#[110, 97, 109, 101]⟩) (key := ⟨#[]⟩) (d := 0)).re (vT (by decide)))) rfl ?_)))))))
   refine Sq.vl [7, 8, 9, 10, 11, 12, 13, 14, 15, 16, 17] [bV true, bV true, .nilIface, bV false, bV false, .nilIface, bV false, bV false, bV false, sV (pName kind), sV (pName other)] (Sq.v (r := bV (decide ((pName kind) = (pName other)))) (o_eqS (a := (pName kind)) (b := (pName other)) (by kernel_rfl) (by kernel_rfl)) rfl (by kernel_rfl) (Sq.vl [19, 20] [iV kind, iV other] (Sq.v (r := bV (decide (kind = other))) (o_eqI (k := .i64) (a := kind) (b := other) (by kernel_rfl) (by kernel_rfl)) rfl (by kernel_rfl) (Sq.vl [22, 23, 24, 25] [bV ((decide ((pName kind) = (pName other))) == (decide (kind = other))), bV ((decide ((pName kind) = (pName other))) == (decide (kind = other))), bV ((decide ((pName kind) = (pName other))) == (decide (kind = other))), bV ((decide ((pName kind) = (pName other))) == (decide (kind = other)))] (Sq.d4 (Cd.ret (Ex'.ret Tryz.results3 (RVs.tm (v := bV ((decide ((pName kind) = (pName other))) == (decide (kind = other)))) RVs.nil) (fun w hw => ?_))))))))
   exact ⟨_, ⟨congrArg Value.bool (pName_inj h1 h2), by kernel_rfl⟩, hw⟩
  ·
   refine Sq.e1 [] (l := []) (o_cl Tryz.call12 (pol_NameE (k := other) h2)) rfl ?_; rintro e3 _
   refine Sq.vl [2, 3, 4, 5, 6] [.tuple #[sV ⟨#[]⟩, .iface 84 (pV e3 0)], sV ⟨#[]⟩, .iface 84 (pV e3 0), sV ⟨#[]⟩, .iface 84 (pV e3 0)] (Sq.d1 (Sq.vl [0, 1] [sV (pName kind), sV (pName kind)] (Sq.v (r := bV (decide ((pName kind) = (pName kind)))) (o_eqS (a := (pName kind)) (b := (pName kind)) (by kernel_rfl) (by kernel_rfl)) rfl (by kernel_rfl) (Sq.re 30 rfl (vT rfl) (Sq.vl [3, 4, 5] [bV true, .nilIface, iV 0] (Sq.sm [] (l := []) (o_cl Tryz.call14 ((wraps_nil (op := ⟨#[110, 97, 109, 101]⟩) (key := ⟨#[]⟩) (d := 0)).re (vT (by decide)))) rfl (Sq.vl [7, 8, 9, 10, 11, 12, 13, 14, 15, 16, 17, 18, 19, 20, 21, 22, 23, 24, 25] [bV true, bV true, .nilIface, bV false, bV false, .iface 84 (pV e3 0), bV true, bV true, bV true, undef, undef, undef, undef, undef, undef, undef, bV true, bV true, bV true] ?_)))))))
   refine Sq.d4 (Cd.ret (Ex'.ret Tryz.results3 (RVs.tm (v := bV true) RVs.nil) (fun w hw => ?_)))
   exact ⟨_, ⟨rfl, by kernel_rfl⟩, hw⟩
 ·
  refine Sq.e1 [] (l := []) (o_cl Tryz.call12 (pol_NameE (k := kind) h1)) rfl ?_; rintro e4 _
  refine Sq.vl [2, 3, 4, 5, 6] [.tuple #[sV ⟨#[]⟩, .iface 84 (pV e4 0)], sV ⟨#[]⟩, .iface 84 (pV e4 0), sV ⟨#[]⟩, .iface 84 (pV e4 0)] (Sq.d1 (Sq.vl [0] [iV kind] (Sq.sm [] (l := []) (o_cl Tryz.call13 (ref_NameE (k := kind) h1)) rfl (Sq.vl [2, 3, 4, 5, 6] [.tuple #[sV ⟨#[]⟩, iV 7], sV ⟨#[]⟩, iV 7, sV ⟨#[]⟩, iV 7] (Sq.d1 (Sq.vl [0] [iV other] ?_))))))
  by_cases h5 : 0 ≤ other ∧ other ≤ 6
  ·
   refine Sq.sm [] (l := []) (o_cl Tryz.call12 (pol_Name (k := other) h5)) rfl (Sq.vl [2, 3, 4, 5, 6] [.tuple #[sV (pName other), .nilIface], sV (pName other), .nilIface, sV (pName other), .nilIface] (Sq.d1 (Sq.vl [0, 1] [sV ⟨#[]⟩, sV ⟨#[]⟩] (Sq.v (r := bV (decide ((⟨#[]⟩ : ByteArray) = ⟨#[]⟩))) (o_eqS (a := ⟨#[]⟩) (b := ⟨#[]⟩) (by kernel_rfl) (by kernel_rfl)) rfl (by kernel_rfl) (Sq.re 30 rfl (vT (by decide)) (Sq.vl [3, 4, 5] [bV true, .iface 84 (pV e4 0), iV 7] (Sq.sm [0, 1] (l := [oldR w0, blkR e4 [sV ⟨#[110, 97, 109, 101]⟩, sV ⟨#[]⟩, .iface 83 (iV 7)] 88]) (o_cl Tryz.call14 ((wraps_fault hg (op := ⟨#[110, 97, 109, 101]⟩) (key := ⟨#[]⟩) (d := 7) (x := ⟨#[110, 97, 109, 101]⟩) (y := ⟨#[]⟩) (c := 7)).re (vT ⟨by decide, rfl, rfl, rfl⟩))) rfl ?_)))))))
   refine Sq.vl [7, 8, 9, 10, 11, 12, 13, 14, 15, 16, 17, 18, 19, 20, 21, 22, 23, 24, 25] [bV true, bV true, .iface 84 (pV e4 0), bV true, bV true, undef, undef, bV true, bV true, undef, undef, undef, undef, undef, undef, undef, bV true, bV true, bV true] (Sq.d4 (Cd.ret (Ex'.ret Tryz.results3 (RVs.tm (v := bV true) RVs.nil) (fun w hw => ?_))))
   exact ⟨_, ⟨rfl, by kernel_rfl⟩, hw⟩
  ·
   refine Sq.e1 [] (l := []) (o_cl Tryz.call12 (pol_NameE (k := other) h5)) rfl ?_; rintro e6 _
   refine Sq.vl [2, 3, 4, 5, 6] [.tuple #[sV ⟨#[]⟩, .iface 84 (pV e6 0)], sV ⟨#[]⟩, .iface 84 (pV e6 0), sV ⟨#[]⟩, .iface 84 (pV e6 0)] (Sq.d1 (Sq.vl [0, 1] [sV ⟨#[]⟩, sV ⟨#[]⟩] (Sq.v (r := bV (decide ((⟨#[]⟩ : ByteArray) = ⟨#[]⟩))) (o_eqS (a := ⟨#[]⟩) (b := ⟨#[]⟩) (by kernel_rfl) (by kernel_rfl)) rfl (by kernel_rfl) (Sq.re 30 rfl (vT (by decide)) (Sq.vl [3, 4, 5] [bV true, .iface 84 (pV e4 0), iV 7] (Sq.sm [0, 1] (l := [oldR w0, blkR e4 [sV ⟨#[110, 97, 109, 101]⟩, sV ⟨#[]⟩, .iface 83 (iV 7)] 88]) (o_cl Tryz.call14 ((wraps_fault hg (op := ⟨#[110, 97, 109, 101]⟩) (key := ⟨#[]⟩) (d := 7) (x := ⟨#[110, 97, 109, 101]⟩) (y := ⟨#[]⟩) (c := 7)).re (vT ⟨by decide, rfl, rfl, rfl⟩))) rfl (Sq.vl [7, 8, 9, 10, 11, 12, 13, 14, 15, 16, 17, 18, 19, 20, 21, 22, 23, 24, 25] [bV true, bV true, .iface 84 (pV e4 0), bV true, bV true, undef, undef, bV true, bV true, undef, undef, undef, undef, undef, undef, undef, bV true, bV true, bV true] ?_)))))))
   refine Sq.d4 (Cd.ret (Ex'.ret Tryz.results3 (RVs.tm (v := bV true) RVs.nil) (fun w hw => ?_)))
   exact ⟨_, ⟨rfl, by kernel_rfl⟩, hw⟩
theorem policyNames_walk (kind other : Int) (w : World) (h1 : (Lit.int .i64 kind).wf = true) (h2 : (Lit.int .i64 other).wf = true) (hg : errT w) :
  Calls Tryz.prog 3 #[.int .i64 kind, .int .i64 other] w fun e w' => e = .returned (.bool true) ∧ Below w.heap.size w w' :=
 law_of (policyNames_tri hg (range64 h1) (range64 h2))
end Go.Proofs.YtholinnmjoelkaaGreatDoor
