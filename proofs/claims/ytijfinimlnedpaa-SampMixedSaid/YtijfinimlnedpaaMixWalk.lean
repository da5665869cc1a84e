/- The law SampMixed, walked by hand: out of the contracts of what it calls. -/
import Derived.Test.YtijfinimlnedpaaPSampx2
import Derived.Test.YtijfinimlnedpaaPSampx7
import Derived.Test.YtijfinimlnedpaaPSampx8
import Derived.Test.YtijfinimlnedpaaPSampx9
import Derived.Test.YtijfinimlnedpaaPSampx12
import Derived.Test.YtijfinimlnedpaaPSampx13
import Derived.Test.YtijfinimlnedpaaPSampx14
namespace Go.Proofs.Ytijfinimlnedpaa.PSamp
open Go.RowKit Go.Proofs.YtijfinimlnedpaaW.PrintWords Go.Proofs.YtijfinimlnedpaaW.PrintLast Go.Proofs.YtijfinimlnedpaaW.PrintMore
set_option linter.unusedVariables false

theorem pair_C {W : World} {g : Nat} {A B : Option Addr} {ca cb : Nat} {a b : List Int} (h0 : W.cell? ⟨g, 0, none⟩ = some (.slice A a.length ca)) (h1 : W.cell? ⟨g, 1, none⟩ = some (.slice B b.length cb))
    (la : a.length ≤ ca) (lb : b.length ≤ cb) (hA : Kd.C (Kd.int .i64) W A a.length a) (hB : Kd.C (Kd.int .i64) W B b.length b) : Kd.C (Kd.slice 3 (Kd.int .i64)) W (some ⟨g, 0, none⟩) ([a, b] : List (List Int)).length [a, b] := by
  refine ⟨rfl, by simp, fun _ => ⟨⟨g, 0, none⟩, rfl, fun j p hj => ?_⟩⟩
  match j, hj with
  | 0, hj =>
    obtain rfl : a = p := by simpa using hj
    refine ⟨[.slice A a.length ca], rfl, ⟨A, ca, rfl, la, hA⟩, fun i u hi => ?_⟩
    match i, hi with
    | 0, hi => obtain rfl : (.slice A a.length ca : Value) = u := by simpa using hi
               exact h0
  | 1, hj =>
    obtain rfl : b = p := by simpa using hj
    refine ⟨[.slice B b.length cb], rfl, ⟨B, cb, rfl, lb, hB⟩, fun i u hi => ?_⟩
    match i, hi with
    | 0, hi => obtain rfl : (.slice B b.length cb : Value) = u := by simpa using hi
               exact h1

/-- What the plain law gives: some rounds at which all that is called answers, and how the answers hang together. -/
structure MixedOk (l0 l1 : List Int) (n : Int) (k : Nat) (a b x z v : List Int) (q sa sb lo hi jj kk : Int) : Prop where
  la : bakekeep3_levels.f k l0 = some a
  lb : bakekeep3_levels.f k l1 = some b
  mx : samp_Mix.f k [a, b] = some (x, 0)
  my : samp_Mix.f k [b, a] = some (x, 0)
  sz : samp_Smooth.f k a 1 = some (z, 0)
  bq : bakemake_Below.f n 20 = some q
  q0 : 0 ≤ q
  q1 : q ≤ 20
  sv : samp_Smooth.f k a (1 + q) = some (v, 0)
  ra : samp_Range.f k a = some (lo, hi, 0)
  rv : samp_Range.f k v = some (jj, kk, 0)
  he : bakekeep3_heard.f k = some true
  xx : slices_Equal_int_int.f k x x = some true
  sx : bakekeep3_sum.f k x = some (sa + sb)
  sa' : bakekeep3_sum.f k a = some sa
  sb' : bakekeep3_sum.f k b = some sb
  sb0 : -1000000000 ≤ sa ∧ sa ≤ 1000000000
  sb1 : -1000000000 ≤ sb ∧ sb ≤ 1000000000
  za : slices_Equal_int_int.f k z a = some true
  vl : v.length = a.length
  lj : lo ≤ jj
  kh : kk ≤ hi

set_option maxRecDepth 100000 in
set_option maxHeartbeats 4000000 in
theorem mixed_calls (l0 l1 : List Int) (n : Int) (k : Nat) (a b x z v : List Int) (q sa sb lo hi jj kk : Int) (H : MixedOk l0 l1 n k a b x z v q sa sb lo hi jj kk) (A0 A1 : Option Addr) (c0 c1 : Nat) (w : World)
    (hr0 : Kd.C (Kd.int .i64) w A0 l0.length l0) (hc0 : l0.length ≤ c0) (hr1 : Kd.C (Kd.int .i64) w A1 l1.length l1) (hc1 : l1.length ≤ c1) :
    Calls Try.prog 7 #[.slice A0 l0.length c0, .slice A1 l1.length c1, .int .i64 n] w fun e w' => e = .returned (.bool true) ∧ Below w.heap.size w w' := by
  have HH := Aside0.mk H
  have q0 := H.q0
  have q1 := H.q1
  have s0 := H.sb0
  have s1 := H.sb1
  have lj := H.lj
  have kh := H.kh
  have HR1 := Aside0.mk hr1
  have HC1 := Aside0.mk hc1
  have L1 := bakekeep3_levels.calls k A0 c0 l0 a w hr0 hc0 H.la
  have L1' := Aside0.mk L1
  clear L1 H hr0 hr1 hc0 hc1
  go_enter Try.func7, Try.ntmps7
  go_wp2_with fail
  refine L1'.out.mono ?_
  rintro e w1 ⟨va, rfl, Ra, B1⟩
  obtain ⟨Aa, ca, rfl, hca, Ca⟩ := Kd.R_reads Ra
  have HCa := Aside0.mk hca
  have B1' := Aside0.mk B1
  have Ca' := Aside0.mk Ca
  have L2 := Aside0.mk (bakekeep3_levels.calls k A1 c1 l1 b w1 (Kd.C_below HR1.out B1) HC1.out HH.out.lb)
  clear Ra B1 Ca hca L1'
  go_wp2_with fail
  refine L2.out.mono ?_
  rintro e w2 ⟨vb, rfl, Rb, B2⟩
  obtain ⟨Ab, cb, rfl, hcb, Cb⟩ := Kd.R_reads Rb
  have HCb := Aside0.mk hcb
  have B2' := Aside0.mk (B1'.out.trans (B2.mono B1'.out.size))
  have Ca2 := Aside0.mk (Kd.C_below Ca'.out B2)
  have Cb2 := Aside0.mk Cb
  clear Rb B2 Cb hcb L2 Ca' B1' HR1 HC1
  have Z := Aside0.mk B2'.out.size
  have P1 : Aside0 (Kd.C (Kd.slice 3 (Kd.int .i64)) (w2.alloc (Obj.cells #[Value.slice Aa a.length ca, Value.slice Ab b.length cb] 22)) (some ⟨w2.heap.size, 0, none⟩) ([a, b] : List (List Int)).length [a, b]) :=
    ⟨pair_C (by go_simp) (by go_simp) HCa.out HCb.out (Kd.C_alloc Ca2.out _) (Kd.C_alloc Cb2.out _)⟩
  have M1 := Aside0.mk (samp_Mix.calls k _ 2 [a, b] x 0 _ P1.out (by simp) HH.out.mx)
  go_wp2_with fail
  refine M1.out.mono ?_
  rintro e w3 ⟨vx, rfl, Rx, B3⟩
  obtain ⟨Ax, cx, rfl, hcx, Cx⟩ := Kd.R_reads Rx
  have HCx := Aside0.mk hcx
  have B3' := Aside0.mk ((below_alloc B2'.out _).trans (B3.mono (by simp; have := Z.out; omega)))
  have Ca3 := Aside0.mk (Kd.C_below (Kd.C_alloc Ca2.out _) B3)
  have Cb3 := Aside0.mk (Kd.C_below (Kd.C_alloc Cb2.out _) B3)
  have Cx3 := Aside0.mk Cx
  clear Rx B3 Cx hcx M1 P1 Ca2 Cb2 B2' Z
  have Z := Aside0.mk B3'.out.size
  have P1 : Aside0 (Kd.C (Kd.slice 3 (Kd.int .i64)) (w3.alloc (Obj.cells #[Value.slice Ab b.length cb, Value.slice Aa a.length ca] 22)) (some ⟨w3.heap.size, 0, none⟩) ([b, a] : List (List Int)).length [b, a]) :=
    ⟨pair_C (by go_simp) (by go_simp) HCb.out HCa.out (Kd.C_alloc Cb3.out _) (Kd.C_alloc Ca3.out _)⟩
  have M1 := Aside0.mk (samp_Mix.calls k _ 2 [b, a] x 0 _ P1.out (by simp) HH.out.my)
  go_wp2_with fail
  refine M1.out.mono ?_
  rintro e w4 ⟨vy, rfl, Ry, B4⟩
  obtain ⟨Ay, cy, rfl, hcy, Cy⟩ := Kd.R_reads Ry
  have HCy := Aside0.mk hcy
  have B4' := Aside0.mk ((below_alloc B3'.out _).trans (B4.mono (by simp; have := Z.out; omega)))
  have Ca4 := Aside0.mk (Kd.C_below (Kd.C_alloc Ca3.out _) B4)
  have Cb4 := Aside0.mk (Kd.C_below (Kd.C_alloc Cb3.out _) B4)
  have Cx4 := Aside0.mk (Kd.C_below (Kd.C_alloc Cx3.out _) B4)
  have Cy4 := Aside0.mk Cy
  clear Ry B4 Cy hcy M1 P1 Ca3 Cb3 Cx3 B3' Z
  have Z := Aside0.mk B4'.out.size
  have M1 := Aside0.mk (samp_Smooth.calls k Aa ca a 1 z 0 w4 Ca4.out HCa.out HH.out.sz)
  go_wp2_with fail
  refine M1.out.mono ?_
  rintro e w5 ⟨vz, rfl, Rz, B5⟩
  obtain ⟨Az, cz, rfl, hcz, Cz⟩ := Kd.R_reads Rz
  have HCz := Aside0.mk hcz
  have B5' := Aside0.mk (B4'.out.trans (B5.mono Z.out))
  have Ca5 := Aside0.mk (Kd.C_below Ca4.out B5)
  have Cb5 := Aside0.mk (Kd.C_below Cb4.out B5)
  have Cx5 := Aside0.mk (Kd.C_below Cx4.out B5)
  have Cy5 := Aside0.mk (Kd.C_below Cy4.out B5)
  have Cz5 := Aside0.mk Cz
  clear Rz B5 Cz hcz M1 Ca4 Cb4 Cx4 Cy4 B4' Z
  have Z := Aside0.mk B5'.out.size
  have M1 := Aside0.mk (bakemake_Below.calls n 20 q w5 HH.out.bq)
  go_wp2_with fail
  refine M1.out.mono ?_
  rintro e w6 ⟨rfl, nd, rfl⟩
  clear M1
  have M1 := Aside0.mk (samp_Smooth.calls k Aa ca a (1 + q) v 0 _ (Kd.C_drewN Ca5.out nd) HCa.out HH.out.sv)
  go_wp2_with fail
  refine M1.out.mono ?_
  rintro e w7 ⟨vv, rfl, Rv, B7⟩
  obtain ⟨Av, cv, rfl, hcv, Cv⟩ := Kd.R_reads Rv
  have HCv := Aside0.mk hcv
  have B7' := Aside0.mk ((pw_below_drewN B5'.out nd).trans (B7.mono (by simp; exact Z.out)))
  have Ca7 := Aside0.mk (Kd.C_below (Kd.C_drewN Ca5.out nd) B7)
  have Cb7 := Aside0.mk (Kd.C_below (Kd.C_drewN Cb5.out nd) B7)
  have Cx7 := Aside0.mk (Kd.C_below (Kd.C_drewN Cx5.out nd) B7)
  have Cy7 := Aside0.mk (Kd.C_below (Kd.C_drewN Cy5.out nd) B7)
  have Cz7 := Aside0.mk (Kd.C_below (Kd.C_drewN Cz5.out nd) B7)
  have Cv7 := Aside0.mk Cv
  clear Rv B7 Cv hcv M1 Ca5 Cb5 Cx5 Cy5 Cz5 B5' Z
  have Z := Aside0.mk B7'.out.size
  have M1 := Aside0.mk (samp_Range.calls k Aa ca a lo hi 0 w7 Ca7.out HCa.out HH.out.ra)
  go_wp2_with fail
  refine M1.out.mono ?_
  rintro e w8 ⟨rfl, B8⟩
  clear M1
  have B8' := Aside0.mk (B7'.out.trans (B8.mono Z.out))
  have Ca8 := Aside0.mk (Kd.C_below Ca7.out B8)
  have Cb8 := Aside0.mk (Kd.C_below Cb7.out B8)
  have Cx8 := Aside0.mk (Kd.C_below Cx7.out B8)
  have Cy8 := Aside0.mk (Kd.C_below Cy7.out B8)
  have Cz8 := Aside0.mk (Kd.C_below Cz7.out B8)
  have Cv8 := Aside0.mk (Kd.C_below Cv7.out B8)
  clear B8 Ca7 Cb7 Cx7 Cy7 Cz7 Cv7 B7' Z
  have Z := Aside0.mk B8'.out.size
  have M1 := Aside0.mk (samp_Range.calls k Av cv v jj kk 0 w8 Cv8.out HCv.out HH.out.rv)
  go_wp2_with fail
  refine M1.out.mono ?_
  rintro e w9 ⟨rfl, B9⟩
  clear M1
  have B9' := Aside0.mk (B8'.out.trans (B9.mono Z.out))
  have Ca9 := Aside0.mk (Kd.C_below Ca8.out B9)
  have Cb9 := Aside0.mk (Kd.C_below Cb8.out B9)
  have Cx9 := Aside0.mk (Kd.C_below Cx8.out B9)
  have Cy9 := Aside0.mk (Kd.C_below Cy8.out B9)
  have Cz9 := Aside0.mk (Kd.C_below Cz8.out B9)
  have Cv9 := Aside0.mk (Kd.C_below Cv8.out B9)
  clear B9 Ca8 Cb8 Cx8 Cy8 Cz8 Cv8 B8' Z
  have Z := Aside0.mk B9'.out.size
  have M1 := Aside0.mk (bakekeep3_heard.calls k true w9 HH.out.he)
  go_wp2_with fail
  refine M1.out.mono ?_
  rintro e wA ⟨rfl, BA⟩
  clear M1
  have BA' := Aside0.mk (B9'.out.trans (BA.mono Z.out))
  have CaA := Aside0.mk (Kd.C_below Ca9.out BA)
  have CbA := Aside0.mk (Kd.C_below Cb9.out BA)
  have CxA := Aside0.mk (Kd.C_below Cx9.out BA)
  have CyA := Aside0.mk (Kd.C_below Cy9.out BA)
  have CzA := Aside0.mk (Kd.C_below Cz9.out BA)
  have CvA := Aside0.mk (Kd.C_below Cv9.out BA)
  clear BA Ca9 Cb9 Cx9 Cy9 Cz9 Cv9 B9' Z
  have Z := Aside0.mk BA'.out.size
  have M1 := Aside0.mk (slices_Equal_int_int.calls k Ax cx x Ay cy x true wA CxA.out HCx.out CyA.out HCy.out HH.out.xx)
  go_wp2_with fail
  refine M1.out.mono ?_
  rintro e wB ⟨rfl, n1, rfl⟩
  clear M1
  have M1 := Aside0.mk (fun m => bakekeep3_sum.calls k Ax cx x (sa + sb) (wA.drewN m) (Kd.C_drewN CxA.out m) HCx.out HH.out.sx)
  have M2 := Aside0.mk (fun m => bakekeep3_sum.calls k Aa ca a sa (wA.drewN m) (Kd.C_drewN CaA.out m) HCa.out HH.out.sa')
  have M3 := Aside0.mk (fun m => bakekeep3_sum.calls k Ab cb b sb (wA.drewN m) (Kd.C_drewN CbA.out m) HCb.out HH.out.sb')
  have M4 := Aside0.mk (fun m => slices_Equal_int_int.calls k Az cz z Aa ca a true (wA.drewN m) (Kd.C_drewN CzA.out m) HCz.out (Kd.C_drewN CaA.out m) HCa.out HH.out.za)
  have g1 : ((v.length : Int) == (a.length : Int)) = true := by rw [HH.out.vl]; simp
  have g2 : v.length = a.length := HH.out.vl
  have G2 := Aside0.mk g2
  clear g2
  go_wp2_with fail
  refine (M1.out n1).mono ?_
  rintro e wC ⟨rfl, n2, rfl⟩
  go_wp2_with fail
  refine (M2.out _).mono ?_
  rintro e wD ⟨rfl, n3, rfl⟩
  go_wp2_with fail
  refine (M3.out _).mono ?_
  rintro e wE ⟨rfl, n4, rfl⟩
  go_wp2_with fail
  refine (M4.out _).mono ?_
  rintro e wF ⟨rfl, n5, rfl⟩
  go_wp2
  go_ret
  exact ⟨rfl, by simpa using pw_below_drewN BA'.out _⟩
end Go.Proofs.Ytijfinimlnedpaa.PSamp
