/- Lemmas for TopFencedSaid, which YtdeiicbleafjaaaGreatFinT3 proves. -/
import Derived.Test.YtdeiicbleafjaaaGreatCode1
open Array renaming replicate → xC
open Int renaming tmod → zI
open List renaming length_map → zJ, replicate → zK
open Nat renaming le_refl → yD, zero_add → zH
open Go.Proofs.Tryz renaming prog → zA
namespace Go.Lift
set_option maxRecDepth 10000
open Go.RowKit
open Go.Proofs
theorem K1 (N : Nat) (p0 : Ad) (p1 : Ai) (p2 : Al) (r : Ai × Bool) (h : G6 N p0 p1 p2 = some r) : Ar zA 98 [.e (.agg (Aw p0)), .e (.agg (AR p1)), .e (.agg (Bz p2))] [(1, r.1.ff.map Aa), (1, r.1.fd.map Aa), (1, r.1.fg.map Bd)] (.tup [.agg [.own 0, .own 1, .own 2], .one (.pure (.val (.bool r.2)))]) := by
 unfold G6 at h
 refine cw (n := 51) (rs := [.cell 6 52, .tmp 7]) Tryz.func98 fun w0 S0 => ?_
 refine wq rfl (qb rfl (qb rfl (qb rfl (qz C4 rfl (qa rfl (Ab (wq rfl (qL Bq AO rfl ?_))))))))
 refine Be h fun v1 a1 h => Av [2001, 2002, 2003] (JZ N p1 v1 a1) Tj rfl (qz C4 rfl (qs AO rfl (Ab (wp rfl (qf DJ rfl (ql Bs rfl (Ab (AI (wq rfl (AL rfl (qe rfl ?_)))))))))))
 refine A0 h (fun h => ?_) fun h => ?_
 ·refine wq rfl (qL Bq AO rfl (qL Cp Cm rfl (qL E5 BG rfl ?_)))
  refine Be h fun v3 a3 h => CQ (ds0 := [_, _, _]) [8, 2001, 2002, 2003] [] [false, false, true, true] (NQ N p0 v1 p2 v3 a3) (.p rfl) UT rfl ⟨rfl, rfl, rfl, tv⟩ rfl rfl (Bf rfl) ⟨rfl, rfl, rfl, rfl, tv⟩ rfl (Bm rfl) tv ⟨(fun _ => rfl), (fun _ => rfl), (fun h => by cases h), (fun h => by cases h), tv⟩ rfl rfl rfl ?_
  refine qs AO rfl (qa rfl (AJ (by kernel_rfl) ?_))
  obtain rfl := sj h
  refine Ag (sm [(1000, 2001), (1001, 2002), (1002, 2003)] [(6, oD (.ptr 6 0)), (7, bD v3.1)] [(6, .box [.own 1000, .own 1001, .own 1002]), (1000, .vec 1 (v1.ff.map Aa)), (1001, .vec 1 (v3.2.1.map Aa)), (1002, .vec 1 (v3.2.2.map Bd))] rfl rfl) (Ap ?_)
  exact ⟨⟨[_, _], ⟨.cellN _ _ _ _ _ _ _ rfl rfl Bq AO rfl rfl (EU rfl), tm⟩, rfl⟩, ⟨rfl, rfl, rfl, tv⟩⟩
 ·refine wq rfl (AL rfl (qe rfl ?_))
  refine A0 h (fun h => ?_) fun h => ?_
  ·refine wq rfl (qL Bq AO rfl (qL Cp Cm rfl (qf CB rfl (ql Bs rfl ?_))))
   refine Be h fun v5 a5 h => CQ (ds0 := [_, _, _]) [8, 2001, 2002, 2003] [] [false, false, false, true] (NO N p0 v1 p2.fy v5 a5) (.p rfl) Vr rfl ⟨rfl, rfl, rfl, tv⟩ rfl rfl (Bf rfl) ⟨rfl, rfl, rfl, rfl, tv⟩ rfl (Bm rfl) tv ⟨(fun _ => rfl), (fun _ => rfl), (fun _ => rfl), (fun h => by cases h), tv⟩ rfl rfl rfl ?_
   refine qs AO rfl (qa rfl (AJ (by kernel_rfl) ?_))
   obtain rfl := sj h
   refine Ag (sm [(1000, 2001), (1001, 2002), (1002, 2003)] [(6, oD (.ptr 6 0)), (7, bD v5.1)] [(6, .box [.own 1000, .own 1001, .own 1002]), (1000, .vec 1 (v1.ff.map Aa)), (1001, .vec 1 (v1.fd.map Aa)), (1002, .vec 1 (v5.2.map Bd))] rfl rfl) (Ap ?_)
   exact ⟨⟨[_, _], ⟨.cellN _ _ _ _ _ _ _ rfl rfl Bq AO rfl rfl (EU rfl), tm⟩, rfl⟩, ⟨rfl, rfl, rfl, tv⟩⟩
  ·refine An (wq rfl (qf CP rfl (ql B6 rfl (qf CB rfl (ql Bs rfl ?_)))))
   refine Cn h fun v6 a6 b6 h => qI AP Dz a6 (Ao b6) rfl (qj Bs (Ao b6) rfl (qa rfl (Ab (wp rfl (qm rfl (A8 rfl (Ab ?_)))))))
   refine A0 h (fun h => ?_) fun h => ?_
   ·refine wq rfl (qL Bq AO rfl (qs AO rfl (qe rfl ?_)))
    obtain rfl := sj h
    refine Ag (sm [(1000, 2001), (1001, 2002), (1002, 2003)] [(6, oD (.ptr 6 0)), (7, bD false)] [(6, .box [.own 1000, .own 1001, .own 1002]), (1000, .vec 1 (v1.ff.map Aa)), (1001, .vec 1 (v1.fd.map Aa)), (1002, .vec 1 (v1.fg.map Bd))] rfl rfl) (Ap ?_)
    exact ⟨⟨[_, _], ⟨.cellN _ _ _ _ _ _ _ rfl rfl Bq AO rfl rfl (EU rfl), tm⟩, rfl⟩, ⟨rfl, rfl, rfl, tv⟩⟩
   ·refine An (wq rfl (qf CP rfl (ql B6 rfl (qf CB rfl (ql Bs rfl ?_)))))
    refine Cn h fun v8 a8 b8 h => qI AP Dz a8 (Ao b8) rfl ?_
    refine ER rfl rfl rfl rfl (Ao b8) rfl Dz rfl (Da rfl) (EB Aa v1.fd _ ((-1))) ?_
    refine Ab ?_
    refine AF h (fun v9 => mk [(6, oD (.ptr 6 0)), (8, oD (.ptr 8 0))] [(6, .box [.pure (.nil0), .pure (.nil0), .pure (.nil0)]), (8, .box [.own 2004, .own 2005, .own 2006]), (2004, .vec 1 (v9.map Aa)), (2005, .vec 1 ((v1.fd.set ((p2.fy).toNat) ((-1))).map Aa)), (2006, .vec 1 (v1.fg.map Bd))]) (fun j9 h => ?_) (fun v9 h => ?_)
    ·refine wq rfl (qf DJ rfl (ql Bs rfl (AL rfl (Ab ?_))))
     refine A0 h (fun h => ?_) fun h => ?_
     ·refine Aj Az rfl (qf Dn rfl (ql B6 rfl (qf CB rfl (ql Bs rfl (qm rfl ?_)))))
      refine Cn h fun v11 a11 b11 h => qI AP Dz a11 (Ao b11) rfl ?_
      refine ER rfl rfl rfl rfl (Ao b11) rfl Dz rfl (Da rfl) (EB Aa v1.ff _ v6) ?_
      refine Ab ?_
      exact sn [(2004, 2001), (2005, 2002), (2006, 2003)] h
     ·refine An ?_
      exact sn [(2004, 2001), (2005, 2002), (2006, 2003)] h
    ·refine wq rfl (qL Bq AO rfl (qs AO rfl (qe rfl ?_)))
     obtain rfl := sj h
     refine Ag (sm [(1000, 2004), (1001, 2005), (1002, 2006)] [(6, oD (.ptr 6 0)), (7, bD true)] [(6, .box [.own 1000, .own 1001, .own 1002]), (1000, .vec 1 (v9.map Aa)), (1001, .vec 1 ((v1.fd.set ((p2.fy).toNat) ((-1))).map Aa)), (1002, .vec 1 (v1.fg.map Bd))] rfl rfl) (Ap ?_)
     exact ⟨⟨[_, _], ⟨.cellN _ _ _ _ _ _ _ rfl rfl Bq AO rfl rfl (EU rfl), tm⟩, rfl⟩, ⟨rfl, rfl, rfl, tv⟩⟩
theorem K7 (N : Nat) (p0 : Al) (p1 : List Int) (p2 : List Int) (p3 : List Int) (p4 : List A9) (p5 : List Int) (p6 : List Int) (p7 : List Int) (r : Bool) (h : D2 N p0 p1 p2 p3 p4 p5 p6 p7 = some r) : Ar zA 97 [.e (.agg (Bz p0)), oD (.rop [.sl (p1.map Aa), .sl (p2.map Aa), .sl (p3.map Aa), .sl (p4.map Am)]), oD (.rop [.sl (p5.map Aa), .sl (p6.map Aa), .sl (p7.map Bd)])] [] (bD r) := by
 unfold D2 at h
 refine cw (n := 16) (rs := [.tmp 4]) Tryz.func97 fun w0 S0 => ?_
 refine wq rfl (qb rfl (qa rfl (Ab (wq rfl (qK Cp Cm rfl (qK Bq AO rfl (qL E5 BG rfl ?_)))))))
 refine Be h fun v1 a1 h => Av [2001, 2002, 2003] (K1 N ((Ad.mk p1 p2 p3 p4)) ((Ai.mk p5 p6 p7)) p0 v1 a1) UY rfl (qm rfl (qx rfl (qx rfl (qz C4 rfl (qs AO rfl (qa rfl (Ab (wq rfl (qm rfl (B2 rfl (qe rfl ?_)))))))))))
 obtain rfl := sj h
 refine Ag (sm [] [(4, bD ((!v1.2)))] [] rfl rfl) (Ap ?_)
 exact ⟨⟨[_], tm, rfl⟩, tv⟩
theorem Fw (N : Nat) (p0 : List Al) (p1 : Al → Option Bool) (r : Int) (h : B3 N p0 p1 = some r) : Ar zA 116 [pD (.sl (p0.map Ae)), oD (.clo (Iq (LM true Ae) tB p1))] [] (iD r) := by
 unfold B3 at h
 refine cw (n := 19) (rs := [.tmp 4]) Tryz.func116 fun w0 S0 => ?_
 refine wq rfl (qa rfl (Ab (wp rfl (qm rfl (AT BH rfl (qm rfl (Ab ?_)))))))
 refine AS (L := Bu N p0 p1) h (fun v1 => mk [(0, pD (.sl (p0.map Ae))), (1, oD (.clo (Iq (LM true Ae) tB p1))), (7, iD ((p0.length : Int))), (8, iD v1)] []) (fun v2 => mk [] []) (fun _ _ => rfl) (sm [] _ _ rfl rfl) (fun j1 n1 v1 h => ?_) (fun v2 s h hs => ?_)
 ·unfold Bu at h
  refine wq rfl (A8 rfl (Ab (AH ?_)))
  refine A0 h (fun h => ?_) fun h => ?_
  ·refine An (AH (AI (wq rfl (qm rfl (qa rfl (Ab (wq rfl (qw 3 rfl ?_))))))))
   refine Cn h fun v4 a4 b4 h => qi BH BG a4 (Ao b4) rfl (qK E5 BG rfl ?_)
   refine Be h fun v5 a5 h => Ks (ds0 := [_]) (ar := (LM true Ae) v4) (.p rfl) rfl rfl ⟨rfl, tv⟩ rfl rfl rfl (KM (KE _ _ Mh) a5) ?_
   refine Ab ?_
   refine A0 h (fun h => ?_) fun h => ?_
   ·refine wq rfl (qm rfl (qe rfl ?_))
    obtain rfl := sj h
    refine Ag (sm [] [(4, iD v1)] [] rfl rfl) (Ap ?_)
    exact ⟨⟨[_], tm, rfl⟩, tv⟩
   ·refine An (Aj Az rfl (A6 rfl (qm rfl (Ab ?_))))
    exact sn [] h
  ·refine Bg ?_
   exact sn [] h
 ·refine Ag hs (wq rfl (qe rfl ?_))
  obtain rfl := sj h
  refine Ag (sm [] [(4, iD ((-1)))] [] rfl rfl) (Ap ?_)
  exact ⟨⟨[_], tm, rfl⟩, tv⟩
theorem Fk (N : Nat) (p0 : List Al) (p1 : Al → Option Bool) (r : Nat × (List Al)) (h : BZ N p0 p1 = some r) : Cc zA 95 [oD (.own 90000), oD (.clo (Iq (LM true Ae) tB p1))] [(.vec 3 (p0.map Ae), .vec 3 (r.2.map Ae))] [] (oD (.view 90000 3 0 r.1)) := by
 unfold BZ at h
 refine BP (n := 42) (rs := [.tmp 4]) Tryz.func95 rfl rfl rfl (Da rfl) (Da rfl) rfl rfl (Da rfl) rfl (Da rfl) fun w0 S0 GL => ?_
 refine Ag (sm [] [(0, oD (.own 90000)), (1, oD (.clo (Iq (LM true Ae) tB p1)))] [(90000, .vec 3 (p0.map Ae))] rfl rfl) (wq rfl (qa rfl (Ab (wq rfl (qw 2 rfl ?_)))))
 refine Be h fun v1 a1 h => FM [] [90000] (Fw N p0 p1 v1 a1) UB DW rfl (qa rfl (Ab (wp rfl (qm rfl (AL rfl (Ab ?_))))))
 refine A0 h (fun h => ?_) fun h => ?_
 ·refine wq rfl (qm rfl (qe rfl ?_))
  obtain rfl := sj h
  refine Ag ((Sd Ae p0 4 90000 3 rfl rfl).trans (sm [] [(4, oD (.view 90000 3 0 p0.length))] [(90000, .vec 3 (p0.map Ae))] rfl rfl)) (Ap ?_)
  exact ⟨⟨[_], tm, rfl⟩, ⟨rfl, tv⟩, tv⟩
 ·refine An (wp rfl (qm rfl (A6 rfl (qe rfl ?_))))
  refine AS (L := Br N p1) h (fun v3 => mk [(0, oD (.own 90000)), (1, oD (.clo (Iq (LM true Ae) tB p1))), (5, iD v3.2.1), (6, iD v3.2.2)] [(90000, .vec 3 (v3.1.map Ae))]) (fun v4 => mk [(0, oD (.own 90000)), (5, iD v4.2)] [(90000, .vec 3 (v4.1.map Ae))]) (fun _ _ => rfl) (sm [] _ _ rfl rfl) (fun j3 n3 v3 h => ?_) (fun v4 s h hs => ?_)
  ·unfold Br at h
   refine wp rfl (qw 2 rfl (Iv BH rfl (A8 rfl (Ab ?_))))
   refine A0 h (fun h => ?_) fun h => ?_
   ·refine An ?_
    refine AF h (fun v6 => mk [(0, oD (.own 90000)), (1, oD (.clo (Iq (LM true Ae) tB p1))), (5, iD v6.2), (6, iD v3.2.2)] [(90000, .vec 3 (v6.1.map Ae))]) (fun j6 h => ?_) (fun v6 h => ?_)
    ·refine AI (wq rfl (qw 2 rfl ?_))
     refine Cn h fun v7 a7 b7 h => qI BH BG a7 (Ao b7) rfl (qJ E5 BG (Ao b7) rfl (qz Gd rfl (qs BG rfl (Ab (wq rfl (qm rfl (qL E5 BG rfl ?_)))))))
     refine Be h fun v8 a8 h => Ks (ds0 := [_]) (ar := (LM true Ae) v7) (.p rfl) rfl rfl ⟨rfl, tv⟩ rfl rfl rfl (KM (KE _ _ Mh) a8) ?_
     refine B2 rfl (Ab ?_)
     refine A0 h (fun h => ?_) fun h => ?_
     ·refine wq rfl (qw 2 rfl (qL E5 BG rfl ?_))
      refine Cn h fun v10 a10 b10 h => qI BH BG a10 (Ao b10) rfl ?_
      refine ER rfl rfl rfl rfl (Ao b10) rfl BG rfl (Da rfl) (EB Ae v3.1 _ v7) ?_
      refine Ab (Aj Az rfl (qm rfl (A6 rfl (qe rfl ?_))))
      exact sn [] h
     ·refine An ?_
      exact sn [] h
    ·refine Aj Az rfl (qm rfl (A6 rfl (qe rfl ?_)))
     exact sn [] h
   ·refine Bg ?_
    exact sn [] h
  ·refine Ag hs (wq rfl (qw 2 rfl ?_))
   obtain ⟨c11, h⟩ := Hd h
   have w12 : ((v4.2).toNat) + ((v4.1.length - (v4.2).toNat)) ≤ v4.1.length := by have := c11.2.1; have := c11.2.2; omega
   refine KX Ae v4.1 (.p rfl) rfl (JD Ae _ _ v4.1) rfl BH BG (.some _ _ _ _ c11.1) (.none _) ⟨rfl, tv⟩ tv c11.2.1 (by rw [zH]; exact c11.2.2) (zH _) rfl ?_
   have w13 : (JG v4.1 ((v4.2).toNat) (zK ((v4.1.length - (v4.2).toNat)) ((Al.mk 0 0 0)))).length = v4.1.length := Kc (by rw [List.length_replicate]; exact w12)
   refine Rj Ae v4.1 ((Al.mk 0 0 0)) rfl rfl (Nj Ae _ _ ((v4.2).toNat) ((v4.1.length - (v4.2).toNat)) v4.1 w12) rfl BH Gd rfl rfl rfl rfl ?_
   refine Ab (wq rfl (qw 2 rfl ?_))
   obtain ⟨c14, h⟩ := Hd h
   have w15 : 0 + ((v4.2).toNat) ≤ (JG v4.1 ((v4.2).toNat) (zK ((v4.1.length - (v4.2).toNat)) ((Al.mk 0 0 0)))).length := by have := c14.2.1; have := c14.2.2; omega
   refine KX Ae (JG v4.1 ((v4.2).toNat) (zK ((v4.1.length - (v4.2).toNat)) ((Al.mk 0 0 0)))) (.p rfl) rfl (JD Ae _ _ (JG v4.1 ((v4.2).toNat) (zK ((v4.1.length - (v4.2).toNat)) ((Al.mk 0 0 0))))) rfl BH BG (.none _) (.some _ _ _ _ c14.1) tv ⟨rfl, tv⟩ c14.2.1 (by rw [zH]; exact c14.2.2) (zH _) rfl ?_
   refine qa rfl (Ab ?_)
   obtain rfl := sj h
   refine Ag (sm [] [(4, oD (.view 90000 3 0 ((v4.2).toNat)))] [(90000, .vec 3 ((JG v4.1 ((v4.2).toNat) (zK ((v4.1.length - (v4.2).toNat)) ((Al.mk 0 0 0)))).map Ae))] rfl rfl) (Ap ?_)
   exact ⟨⟨[_], tm, rfl⟩, ⟨rfl, tv⟩, tv⟩
theorem Ma (N : Nat) (p0 : Ad) (p1 : Ai) (r : (List Al) × Int) (h : Hp N p0 p1 = some r) : Ar zA 68 [.e (.agg (Aw p0)), .e (.agg (AR p1))] [(3, r.1.map Ae)] (.tup [.one (.own 0), .one (iC r.2)]) := by
 unfold Hp at h
 refine cw (n := 17) (rs := [.tmp 4, .tmp 5]) Tryz.func68 fun w0 S0 => ?_
 refine wq rfl (qb rfl (qb rfl (qa rfl (qa rfl (Ab (wp rfl (qL Cp Cm rfl (qL Bq AO rfl ?_))))))))
 refine Be h fun v1 a1 h => Av [] (Hi N p0 p1 v1 a1) Q4 rfl (qa rfl (Ab (wq rfl (qm rfl (Ba rfl (Ab ?_))))))
 refine A0 h (fun h => ?_) fun h => ?_
 ·refine wq rfl (qm rfl (qa rfl (qe rfl ?_)))
  obtain rfl := sj h
  refine Ag ((BF 4 2001 3 rfl rfl rfl).trans (sm [(1000, 2001)] [(4, oD (.own 1000)), (5, iD v1)] [(1000, .vec 3 ((([] : List Al)).map Ae))] rfl rfl)) (Ap ?_)
  exact ⟨⟨[_, _], ⟨.tmp _ _ rfl, tm⟩, rfl⟩, ⟨rfl, tv⟩⟩
 ·refine An (wq rfl (qL Cp Cm rfl ?_))
  refine Be h fun v3 a3 h => Av [2002] (Po N p0 v3 a3) WC rfl (Cs (KF 2 [.sl (p0.fi.map Aa), .sl (p0.fm.map Aa), .sl (p0.fq.map Aa), .sl (p0.fh.map Am)] rfl rfl) (Cs (KF 3 [.sl (p1.ff.map Aa), .sl (p1.fd.map Aa), .sl (p1.fg.map Bd)] rfl rfl) ?_))
  refine Kh (capD := [_, _]) (Iq (LM true Ae) tB ((fun (x : Al) => D2 N x p0.fi p0.fm p0.fq p0.fh p1.ff p1.fd p1.fg))) (.p rfl) VO rfl ⟨rfl, rfl, tv⟩ rfl (fun ar t ht => by obtain ⟨x, r, rfl, hq, rfl⟩ := Ix ht; exact K7 N x p0.fi p0.fm p0.fq p0.fh p1.ff p1.fd p1.fg r hq) ?_
  obtain ⟨v4, a4, h⟩ := bind_some h
  obtain ⟨c5, h⟩ := Hd h
  have w6 : 0 + v4.1 ≤ v4.2.length := by rw [zH]; exact c5
  refine CQ (ds0 := [_, _]) [2002] [] [true] (Fk N v3 ((fun (x : Al) => D2 N x p0.fi p0.fm p0.fq p0.fh p1.ff p1.fd p1.fg)) v4 a4) (.p rfl) VN rfl ⟨rfl, rfl, tv⟩ rfl rfl (by decide) ⟨rfl, tv⟩ rfl (Bm rfl) tv ⟨(fun h => by cases h), tv⟩ rfl rfl rfl ?_
  refine Cs (T2 Ae v4.2 16 2002 2003 3 v4.1 rfl rfl rfl rfl rfl c5) (qa rfl (qe rfl ?_))
  obtain rfl := sj h
  refine Ag (sm [(1000, 2003)] [(4, oD (.own 1000)), (5, iD 0)] [(1000, .vec 3 ((v4.2.take v4.1).map Ae))] rfl rfl) (Ap ?_)
  exact ⟨⟨[_, _], ⟨.tmp _ _ rfl, tm⟩, rfl⟩, ⟨rfl, tv⟩⟩
theorem NH (N : Nat) (p0 : Al) (r : Bool) (h : Ig N p0 = some r) : Ar zA 120 [.e (.agg (Bz p0))] [] (bD r) := by
 unfold Ig at h
 refine cw (n := 27) (rs := [.tmp 2]) Tryz.func120 fun w0 S0 => ?_
 refine wq rfl (qb rfl (qa rfl (Ab (AH ?_))))
 refine AF h (fun v1 => mk [(1, oD (.ptr 1 0)), (18, bD v1)] [(1, .box (Bz p0))]) (fun j1 h => ?_) (fun v1 h => ?_)
 ·refine Aj Az rfl (qf CB rfl (ql Bs rfl (qf JL rfl (ql Bs rfl ?_))))
  refine Tp (.p rfl) rfl rfl ?_
  refine A8 rfl (qm rfl ?_)
  refine Dv 9 h rfl (fun h => ?_) fun h => ?_
  ·refine qw 3 rfl (qp rfl (qw 4 rfl (qp rfl (Ab ?_))))
   exact sn [] h
  ·refine qf DJ rfl (ql Bs rfl (A8 rfl (qp rfl (qm rfl ?_))))
   refine Dv 14 h rfl (fun h => ?_) fun h => ?_
   ·refine qw 3 rfl (qp rfl (Ab ?_))
    exact sn [] h
   ·refine qf DJ rfl (ql Bs rfl (EA rfl (qp rfl (Ab ?_))))
    exact sn [] h
 ·refine A0 h (fun h => ?_) fun h => ?_
  ·refine wq rfl (qe rfl ?_)
   obtain rfl := sj h
   refine Ag (sm [] [(2, bD false)] [] rfl rfl) (Ap ?_)
   exact ⟨⟨[_], tm, rfl⟩, tv⟩
  ·refine An ?_
   refine AF h (fun v5 => mk [(2, bD v5)] []) (fun j5 h => ?_) (fun v5 h => ?_)
   ·refine Aj Az rfl (qf DJ rfl (ql Bs rfl (AL rfl (qm rfl ?_))))
    refine Dv 22 h rfl (fun h => ?_) fun h => ?_
    ·refine qw 3 rfl (qp rfl (qe rfl ?_))
     exact sn [] h
    ·refine qf JL rfl (ql Bs rfl (AL rfl (qp rfl (qe rfl ?_))))
     exact sn [] h
   ·obtain rfl := sj h
    refine Ag (sm [] [(2, bD v5)] [] rfl rfl) (Ap ?_)
    exact ⟨⟨[_], tm, rfl⟩, tv⟩
theorem MW (N : Nat) (p0 : Ad) (p1 : Al) (r : Bool) (h : HS N p0 p1 = some r) : Ar zA 121 [.e (.agg (Aw p0)), .e (.agg (Bz p1))] [] (bD r) := by
 unfold HS at h
 refine cw (n := 36) (rs := [.tmp 4]) Tryz.func121 fun w0 S0 => ?_
 refine wq rfl (qb rfl (qb rfl (qa rfl (Ab (wp rfl (qf DJ rfl (ql Bs rfl (AL rfl (Ab ?_)))))))))
 refine A0 h (fun h => ?_) fun h => ?_
 ·refine wq rfl (qf CB rfl (ql Bs rfl (qf Gq rfl (ql Mk rfl (AT Hs rfl (A8 rfl (qe rfl ?_)))))))
  obtain rfl := sj h
  refine Ag (sm [] [(4, bD ((decide (p1.fy < (p0.fh.length : Int)))))] [] rfl rfl) (Ap ?_)
  exact ⟨⟨[_], tm, rfl⟩, tv⟩
 ·refine An ?_
  refine AF h (fun v2 => mk [(4, bD v2)] []) (fun j2 h => ?_) (fun v2 h => ?_)
  ·refine Aj Az rfl (qf CB rfl (ql Bs rfl (qf EK rfl (ql B6 rfl (AT AP rfl (A8 rfl (qm rfl ?_)))))))
   refine Dv 20 h rfl (fun h => ?_) fun h => ?_
   ·refine qf DJ rfl (ql Bs rfl (Ba rfl (qm rfl ?_)))
    refine Dv 24 h rfl (fun h => ?_) fun h => ?_
    ·refine qw 9 rfl (qp rfl (qp rfl (qa rfl (AJ (by kernel_rfl) ?_))))
     exact sn [] h
    ·refine qf JL rfl (ql Bs rfl (qf EK rfl (ql B6 rfl (qf CB rfl (ql Bs rfl ?_)))))
     refine Cn h fun v5 a5 b5 h => qi AP Dz a5 (Ao b5) rfl (qk Bs rfl (A8 rfl (qp rfl (qp rfl (qa rfl (AJ (by kernel_rfl) ?_))))))
     exact sn [] h
   ·refine qw 4 rfl (qu rfl (qu rfl (qu rfl (qu rfl (qu rfl (qu rfl (qu rfl (qu rfl (qu rfl (qn rfl (qp rfl (qa rfl (AJ (by kernel_rfl) ?_)))))))))))))
    exact sn [] h
  ·obtain rfl := sj h
   refine Ag (sm [] [(4, bD v2)] [] rfl rfl) (Ap ?_)
   exact ⟨⟨[_], tm, rfl⟩, tv⟩
theorem K0 (N : Nat) (p0 : Ad) (p1 : Ai) (p2 : Al) (r : Ai × Int) (h : G5 N p0 p1 p2 = some r) : Ar zA 99 [.e (.agg (Aw p0)), .e (.agg (AR p1)), .e (.agg (Bz p2))] [(1, r.1.ff.map Aa), (1, r.1.fd.map Aa), (1, r.1.fg.map Bd)] (.tup [.agg [.own 0, .own 1, .own 2], .one (iC r.2)]) := by
 unfold G5 at h
 refine cw (n := 32) (rs := [.cell 6 52, .tmp 7]) Tryz.func99 fun w0 S0 => ?_
 refine wq rfl (qb rfl (qb rfl (qb rfl (qz C4 rfl (qa rfl (Ab (AH (AI (wq rfl (qL E5 BG rfl ?_))))))))))
 refine Be h fun v1 a1 h => Av [] (NH N p2 v1 a1) US rfl (B2 rfl (qe rfl ?_))
 refine A0 h (fun h => ?_) fun h => ?_
 ·refine wq rfl (AG C4 Jo rfl (qs AO rfl (qe rfl ?_)))
  obtain rfl := sj h
  refine Ag ((AZ 6 0 2001 1 _ rfl rfl rfl rfl).trans ((AZ 6 1 2002 1 _ rfl rfl rfl rfl).trans ((AZ 6 2 2003 1 _ rfl rfl rfl rfl).trans (sm [(1000, 2001), (1001, 2002), (1002, 2003)] [(6, oD (.ptr 6 0)), (7, iD 1)] [(6, .box [.own 1000, .own 1001, .own 1002]), (1000, .vec 1 ((([] : List Int)).map Aa)), (1001, .vec 1 ((([] : List Int)).map Aa)), (1002, .vec 1 ((([] : List Int)).map Bd))] rfl rfl)))) (Ap ?_)
  exact ⟨⟨[_, _], ⟨.cellN _ _ _ _ _ _ _ rfl rfl Bq AO rfl rfl (EU rfl), tm⟩, rfl⟩, ⟨rfl, rfl, rfl, tv⟩⟩
 ·refine wq rfl (qL Cp Cm rfl (qL E5 BG rfl ?_))
  refine Be h fun v3 a3 h => Av [] (MW N p0 p2 v3 a3) UA rfl (B2 rfl (qe rfl ?_))
  refine A0 h (fun h => ?_) fun h => ?_
  ·refine wq rfl (AG C4 Jo rfl (qs AO rfl (qe rfl ?_)))
   obtain rfl := sj h
   refine Ag ((AZ 6 0 2004 1 _ rfl rfl rfl rfl).trans ((AZ 6 1 2005 1 _ rfl rfl rfl rfl).trans ((AZ 6 2 2006 1 _ rfl rfl rfl rfl).trans (sm [(1000, 2004), (1001, 2005), (1002, 2006)] [(6, oD (.ptr 6 0)), (7, iD 4)] [(6, .box [.own 1000, .own 1001, .own 1002]), (1000, .vec 1 ((([] : List Int)).map Aa)), (1001, .vec 1 ((([] : List Int)).map Aa)), (1002, .vec 1 ((([] : List Int)).map Bd))] rfl rfl)))) (Ap ?_)
   exact ⟨⟨[_, _], ⟨.cellN _ _ _ _ _ _ _ rfl rfl Bq AO rfl rfl (EU rfl), tm⟩, rfl⟩, ⟨rfl, rfl, rfl, tv⟩⟩
  ·refine An (wq rfl (qL Cp Cm rfl (qL Bq AO rfl (qL E5 BG rfl ?_))))
   refine Be h fun v5 a5 h => Av [2007, 2008, 2009] (K1 N p0 p1 p2 v5 a5) UY rfl (qm rfl (qx rfl (qx rfl (qz C4 rfl (qs AO rfl (qa rfl (Ab (wp rfl (qm rfl (B2 rfl (Ab ?_)))))))))))
   refine A0 h (fun h => ?_) fun h => ?_
   ·refine wq rfl (AG C4 Jo rfl (qs AO rfl (qe rfl ?_)))
    obtain rfl := sj h
    refine Ag ((AZ 6 0 2010 1 _ rfl rfl rfl rfl).trans ((AZ 6 1 2011 1 _ rfl rfl rfl rfl).trans ((AZ 6 2 2012 1 _ rfl rfl rfl rfl).trans (sm [(1000, 2010), (1001, 2011), (1002, 2012)] [(6, oD (.ptr 6 0)), (7, iD 11)] [(6, .box [.own 1000, .own 1001, .own 1002]), (1000, .vec 1 ((([] : List Int)).map Aa)), (1001, .vec 1 ((([] : List Int)).map Aa)), (1002, .vec 1 ((([] : List Int)).map Bd))] rfl rfl)))) (Ap ?_)
    exact ⟨⟨[_, _], ⟨.cellN _ _ _ _ _ _ _ rfl rfl Bq AO rfl rfl (EU rfl), tm⟩, rfl⟩, ⟨rfl, rfl, rfl, tv⟩⟩
   ·refine An (wq rfl (qL Bq AO rfl (qs AO rfl (qe rfl ?_))))
    obtain rfl := sj h
    refine Ag (sm [(1000, 2007), (1001, 2008), (1002, 2009)] [(6, oD (.ptr 6 0)), (7, iD 0)] [(6, .box [.own 1000, .own 1001, .own 1002]), (1000, .vec 1 (v5.1.ff.map Aa)), (1001, .vec 1 (v5.1.fd.map Aa)), (1002, .vec 1 (v5.1.fg.map Bd))] rfl rfl) (Ap ?_)
    exact ⟨⟨[_, _], ⟨.cellN _ _ _ _ _ _ _ rfl rfl Bq AO rfl rfl (EU rfl), tm⟩, rfl⟩, ⟨rfl, rfl, rfl, tv⟩⟩
theorem Gt (N : Nat) (p0 : Ad) (p1 : Ai) (p2 : Al) (r : Ai × Int) (h : Ee N p0 p1 p2 = some r) : Ar zA 69 [.e (.agg (Aw p0)), .e (.agg (AR p1)), .e (.agg (Bz p2))] [(1, r.1.ff.map Aa), (1, r.1.fd.map Aa), (1, r.1.fg.map Bd)] (.tup [.agg [.own 0, .own 1, .own 2], .one (iC r.2)]) := by
 unfold Ee at h
 refine cw (n := 22) (rs := [.cell 6 52, .tmp 7]) Tryz.func69 fun w0 S0 => ?_
 refine wq rfl (qb rfl (qb rfl (qb rfl (qz C4 rfl (qa rfl (Ab (wp rfl (qL Cp Cm rfl (qL Bq AO rfl ?_)))))))))
 refine Be h fun v1 a1 h => Av [] (Hi N p0 p1 v1 a1) Q4 rfl (qa rfl (Ab (wq rfl (qm rfl (Ba rfl (Ab ?_))))))
 refine A0 h (fun h => ?_) fun h => ?_
 ·refine wq rfl (AG C4 Jo rfl (qm rfl (qs AO rfl (qe rfl ?_))))
  obtain rfl := sj h
  refine Ag ((AZ 6 0 2001 1 _ rfl rfl rfl rfl).trans ((AZ 6 1 2002 1 _ rfl rfl rfl rfl).trans ((AZ 6 2 2003 1 _ rfl rfl rfl rfl).trans (sm [(1000, 2001), (1001, 2002), (1002, 2003)] [(6, oD (.ptr 6 0)), (7, iD v1)] [(6, .box [.own 1000, .own 1001, .own 1002]), (1000, .vec 1 ((([] : List Int)).map Aa)), (1001, .vec 1 ((([] : List Int)).map Aa)), (1002, .vec 1 ((([] : List Int)).map Bd))] rfl rfl)))) (Ap ?_)
  exact ⟨⟨[_, _], ⟨.cellN _ _ _ _ _ _ _ rfl rfl Bq AO rfl rfl (EU rfl), tm⟩, rfl⟩, ⟨rfl, rfl, rfl, tv⟩⟩
 ·refine An (wq rfl (qL Cp Cm rfl (qL Bq AO rfl (qL E5 BG rfl ?_))))
  refine Be h fun v3 a3 h => Av [2004, 2005, 2006] (K0 N p0 p1 p2 v3 a3) Uu rfl (qx rfl (qx rfl (qs AO rfl (qe rfl ?_))))
  obtain rfl := sj h
  refine Ag (sm [(1000, 2004), (1001, 2005), (1002, 2006)] [(6, oD (.ptr 6 0)), (7, iD v3.2)] [(6, .box [.own 1000, .own 1001, .own 1002]), (1000, .vec 1 (v3.1.ff.map Aa)), (1001, .vec 1 (v3.1.fd.map Aa)), (1002, .vec 1 (v3.1.fg.map Bd))] rfl rfl) (Ap ?_)
  exact ⟨⟨[_, _], ⟨.cellN _ _ _ _ _ _ _ rfl rfl Bq AO rfl rfl (EU rfl), tm⟩, rfl⟩, ⟨rfl, rfl, rfl, tv⟩⟩
theorem MY (N : Nat) (p0 : Ad) (p1 : Ai) (r : (List AN) × Int) (h : HW N p0 p1 = some r) : Ar zA 45 [.e (.agg (Aw p0)), .e (.agg (AR p1))] [] (.tup [.one (sC (r.1.map A7)), .one (iC r.2)]) := by
 unfold HW at h
 refine cw (n := 119) (rs := [.tmp 4, .tmp 5]) Tryz.func45 fun w0 S0 => ?_
 refine wq rfl (qb rfl (qb rfl (qa rfl (qa rfl (Ab (wq rfl (qL Bq AO rfl (AG Oo Tc rfl ?_))))))))
 refine JX [(0, .tmp 21, _)] (.p rfl) rfl ⟨rfl, tv⟩ rfl Fy Jb Oo rfl rfl (Da rfl) rfl rfl ?_
 refine Cs (M9 22 8 [.s, .s, .s, .s, .s, .s, .s, .x 1 []] _ ((([(AN.mk p1 ((-1)) ((Al.mk 0 0 0)) (([] : List Int)))] : List AN)).map A7) rfl rfl) (qa rfl (Ab (wq rfl ?_)))
 refine P1 (.p rfl) rfl ?_
 refine qL Bq AO rfl ?_
 refine Be h fun v1 a1 h => Av [] (Ms N p1 v1 a1) U1 rfl ?_
 refine ON (kv := Value.string) (vt := MU) (m := ([] : List (ByteArray × Int))) (k := v1) (v := 0) rfl (.inr rfl) rfl rfl rfl rfl (K5 NX TL) rfl ?_
 refine qm rfl (qa rfl (Ab (wp rfl (qe rfl ?_))))
 refine AS (L := E1 N p0) h (fun v2 => mk [(2, oD (.ptr 2 0)), (6, oD (.own 2001)), (7, oD (.mref 2002)), (8, iD v2.2.2)] [(2, .box (Aw p0)), (2001, .dvec 8 [.s, .s, .s, .s, .s, .s, .s, .x 1 []] (v2.1.map A7)), (2002, .mp (Hg Value.string MU v2.2.1))]) (fun v3 => mk [(6, oD (.own 2003))] [(2003, .dvec 8 [.s, .s, .s, .s, .s, .s, .s, .x 1 []] (v3.map A7))]) (fun _ _ => rfl) (sm [(2001, 22), (2002, 23)] _ _ rfl rfl) (fun j2 n2 v2 h => ?_) (fun v3 s h hs => ?_)
 ·unfold E1 at h
  refine wp rfl (qw 2 rfl ?_)
  refine O8 (.p rfl) rfl rfl (JK A7 v2.1 _ _) Fy ?_
  refine A8 rfl (Ab ?_)
  refine A0 h (fun h => ?_) fun h => ?_
  ·refine An (AH (AI (wq rfl (qL Cp Cm rfl (qw 2 rfl ?_)))))
   refine Cn h fun v5 a5 b5 h => KQ (.p rfl) rfl rfl rfl (JK A7 v2.1 _ _) Fy Jb a5 (Au b5) ?_
   refine qh L8 rfl ?_
   refine Oy (.p rfl) rfl Bq AO rfl (Ao b5) rfl rfl (by decide) rfl ?_
   refine Be h fun v6 a6 h => Av [2004] (Ma N p0 ((Ai.mk v5.fD.ff v5.fD.fd v5.fD.fg)) v6 a6) VG rfl (qm rfl (qx rfl (qx rfl (qa rfl (qa rfl (AJ (by kernel_rfl) (wp rfl (qm rfl (Ba rfl (Ab ?_))))))))))
   refine A0 h (fun h => ?_) fun h => ?_
   ·refine wq rfl (qm rfl (qa rfl (qe rfl ?_)))
    obtain rfl := sj h
    refine Ag ((MS 4 _ rfl).trans (sm [] [(4, pD (.sl ((([] : List AN)).map A7))), (5, iD v6.2)] [] rfl rfl)) (Ap ?_)
    exact ⟨⟨[_, _], ⟨.tmp _ _ rfl, tm⟩, rfl⟩, tv⟩
   ·refine An (wq rfl (qm rfl (Iv BH rfl (qm rfl (Ab ?_)))))
    refine AS (L := E2 N p0 v2 v6) h (fun v8 => mk [(2, oD (.ptr 2 0)), (6, oD (.own 2005)), (7, oD (.mref 2006)), (8, iD v2.2.2), (46, oD (.own 2007)), (47, iD ((v6.1.length : Int))), (48, iD v8.2.2)] [(2, .box (Aw p0)), (2005, .dvec 8 [.s, .s, .s, .s, .s, .s, .s, .x 1 []] (v8.1.map A7)), (2006, .mp (Hg Value.string MU v8.2.1)), (2007, .vec 3 (v6.1.map Ae))]) (fun v9 => mk [(2, oD (.ptr 2 0)), (6, oD (.own 2008)), (7, oD (.mref 2009)), (8, iD v2.2.2)] [(2, .box (Aw p0)), (2008, .dvec 8 [.s, .s, .s, .s, .s, .s, .s, .x 1 []] (v9.1.map A7)), (2009, .mp (Hg Value.string MU v9.2))]) (fun _ _ => rfl) (sm [(2005, 2001), (2006, 2002), (2007, 2004)] _ _ rfl rfl) (fun j8 n8 v8 h => ?_) (fun v9 s h hs => ?_)
    ·unfold E2 at h
     refine wq rfl (A8 rfl (Ab (AH ?_)))
     refine A0 h (fun h => ?_) fun h => ?_
     ·refine An (AH (AI (wq rfl ?_)))
      refine Cn h fun v11 a11 b11 h => qI BH BG a11 (Ao b11) rfl (qJ E5 BG (Ao b11) rfl (qz Gd rfl (qs BG rfl (Ab (wq rfl (qL Cp Cm rfl (qw 2 rfl ?_)))))))
      refine Cn h fun v12 a12 b12 h => KQ (.p rfl) rfl rfl rfl (JK A7 v8.1 _ _) Fy Jb a12 (Au b12) ?_
      refine qh L8 rfl ?_
      refine Oy (.p rfl) rfl Bq AO rfl (Ao b12) rfl rfl (by decide) rfl ?_
      refine qL E5 BG rfl ?_
      refine Be h fun v13 a13 h => Av [2010, 2011, 2012] (Gt N p0 ((Ai.mk v12.fD.ff v12.fD.fd v12.fD.fg)) v11 v13 a13) QD rfl (qm rfl (qx rfl (qx rfl (qz C4 rfl (qs AO rfl (qa rfl (AJ (by kernel_rfl) (wp rfl (qm rfl (Ba rfl (Ab ?_)))))))))))
      refine A0 h (fun h => ?_) fun h => ?_
      ·refine wq rfl (qm rfl (qa rfl (qe rfl ?_)))
       obtain rfl := sj h
       refine Ag ((MS 4 _ rfl).trans (sm [] [(4, pD (.sl ((([] : List AN)).map A7))), (5, iD v13.2)] [] rfl rfl)) (Ap ?_)
       exact ⟨⟨[_, _], ⟨.tmp _ _ rfl, tm⟩, rfl⟩, tv⟩
      ·refine An (wq rfl (qL Bq AO rfl ?_))
       refine Be h fun v15 a15 h => FM [] [2010, 2011, 2012] (Ms N v13.1 v15 a15) U1 DW rfl (qa rfl (Ab (wq rfl (qw 2 rfl ?_))))
       refine RO (kv := Value.string) (vt := MU) (m := v8.2.1) (dv := 0) (.p rfl) rfl rfl rfl (K5 NX TL) (by rw [NX]; rfl) O3 rfl rfl rfl ?_
       refine qm rfl (qx rfl (qx rfl (qa rfl (qe rfl ?_))))
       refine AF h (fun v16 => mk [(2, oD (.ptr 2 0)), (6, oD (.own 2013)), (7, oD (.mref 2014)), (8, iD v2.2.2), (16, iD v16.2.2), (46, oD (.own 2015)), (47, iD ((v6.1.length : Int))), (48, iD v8.2.2)] [(2, .box (Aw p0)), (2013, .dvec 8 [.s, .s, .s, .s, .s, .s, .s, .x 1 []] (v16.1.map A7)), (2014, .mp (Hg Value.string MU v16.2.1)), (2015, .vec 3 (v6.1.map Ae))]) (fun j16 h => ?_) (fun v16 h => ?_)
       ·refine wq rfl (qm rfl (B2 rfl (Ab ?_)))
        refine A0 h (fun h => ?_) fun h => ?_
        ·refine AF h (fun v18 => mk [(2, oD (.ptr 2 0)), (6, oD (.own 2016)), (7, oD (.mref 2017)), (8, iD v2.2.2), (15, pD (.val (.string v15))), (16, iD v18.2), (46, oD (.own 2018)), (47, iD ((v6.1.length : Int))), (48, iD v8.2.2)] [(2, .box (Aw p0)), (2016, .dvec 8 [.s, .s, .s, .s, .s, .s, .s, .x 1 []] (v18.1.map A7)), (2017, .mp (Hg Value.string MU v8.2.1)), (2018, .vec 3 (v6.1.map Ae))]) (fun j18 h => ?_) (fun v18 h => ?_)
         ·refine wq rfl (qL Cp Cm rfl (qL Bq AO rfl ?_))
          refine Be h fun v19 a19 h => FM [] [2010, 2011, 2012] (Ko N p0 v13.1 v19 a19) UX DW rfl (qm rfl (qx rfl (qx rfl (qa rfl (qe rfl ?_)))))
          refine AF h (fun v20 => mk [(2, oD (.ptr 2 0)), (6, oD (.own 2022)), (7, oD (.mref 2023)), (8, iD v2.2.2), (12, oD (.ptr 12 0)), (13, oD (.ptr 13 0)), (15, pD (.val (.string v15))), (46, oD (.own 2024)), (47, iD ((v6.1.length : Int))), (48, iD v8.2.2), (87, bD v20)] [(2, .box (Aw p0)), (12, .box (Bz v11)), (13, .box [.own 2019, .own 2020, .own 2021]), (2019, .vec 1 (v13.1.ff.map Aa)), (2020, .vec 1 (v13.1.fd.map Aa)), (2021, .vec 1 (v13.1.fg.map Bd)), (2022, .dvec 8 [.s, .s, .s, .s, .s, .s, .s, .x 1 []] (v8.1.map A7)), (2023, .mp (Hg Value.string MU v8.2.1)), (2024, .vec 3 (v6.1.map Ae))]) (fun j20 h => ?_) (fun v20 h => ?_)
          ·refine Aj Az rfl (qm rfl (Ba rfl (qm rfl ?_)))
           refine Dv 84 h rfl (fun h => ?_) fun h => ?_
           ·refine qw 2 rfl (qp rfl (Ab ?_))
            exact sn [(2019, 2010), (2020, 2011), (2021, 2012), (2022, 2005), (2023, 2006), (2024, 2007)] h
           ·refine qm rfl (B2 rfl (qp rfl (Ab ?_)))
            exact sn [(2019, 2010), (2020, 2011), (2021, 2012), (2022, 2005), (2023, 2006), (2024, 2007)] h
          ·refine A0 h (fun h => ?_) fun h => ?_
           ·refine Aj Az rfl (qe rfl ?_)
            exact sn [(2016, 2022), (2017, 2023), (2018, 2024)] h
           ·refine wq rfl (qm rfl ?_)
            refine O8 (.p rfl) rfl rfl (JK A7 v8.1 _ _) Fy ?_
            refine qa rfl (Ab (Aj Az rfl (qm rfl (qL Bq AO rfl (qm rfl (qL E5 BG rfl (AG Oo Tc rfl (Cs (AM 2019 _ _ rfl rfl) (Cs (AM 2020 _ _ rfl rfl) (Cs (AM 2021 _ _ rfl rfl) ?_))))))))))
            refine JX [(0, .tmp 94, _)] (.p rfl) rfl ⟨rfl, tv⟩ rfl Fy Jb Oo rfl rfl (Da rfl) rfl rfl ?_
            refine Cs (M9 95 8 [.s, .s, .s, .s, .s, .s, .s, .x 1 []] _ ((([(AN.mk v13.1 v2.2.2 v11 (([] : List Int)))] : List AN)).map A7) rfl rfl) ?_
            refine Ge h fun c23 h => P3 (.p rfl) rfl rfl rfl rfl rfl (by decide) Fy Fy Jb TR (Da rfl) Oo rfl (Kz (f := A7) (g := A7) (xs := v8.1) (ys := (([(AN.mk v13.1 v2.2.2 v11 (([] : List Int)))] : List AN))) c23) (JN A7 v8.1 (([(AN.mk v13.1 v2.2.2 v11 (([] : List Int)))] : List AN))) rfl rfl ?_
            refine qa rfl (Ab ?_)
            exact sn [(2016, 96), (2017, 2023), (2018, 2024)] h
         ·refine Aj Az rfl (qw 3 rfl ?_)
          refine ON (kv := Value.string) (vt := MU) (m := v8.2.1) (k := v15) (v := v18.2) rfl (.inl rfl) rfl rfl rfl rfl (K5 NX TL) rfl ?_
          refine Ab ?_
          exact sn [(2013, 2016), (2014, 2017), (2015, 2018)] h
        ·refine An ?_
         exact sn [(2013, 2005), (2014, 2006), (2015, 2007)] h
       ·refine AF h (fun v24 => mk [(2, oD (.ptr 2 0)), (6, oD (.own 2025)), (7, oD (.mref 2026)), (8, iD v2.2.2), (46, oD (.own 2027)), (47, iD ((v6.1.length : Int))), (48, iD v8.2.2)] [(2, .box (Aw p0)), (2025, .dvec 8 [.s, .s, .s, .s, .s, .s, .s, .x 1 []] (v24.map A7)), (2026, .mp (Hg Value.string MU v16.2.1)), (2027, .vec 3 (v6.1.map Ae))]) (fun j24 h => ?_) (fun v24 h => ?_)
        ·refine wq rfl (qm rfl (EC rfl (Ab ?_)))
         refine A0 h (fun h => ?_) fun h => ?_
         ·refine Aj Az rfl (qw 4 rfl ?_)
          refine Cn h fun v26 a26 b26 h => KQ (.p rfl) rfl rfl rfl (JK A7 v16.1 _ _) Fy Jb a26 (Au b26) ?_
          refine qh Oj rfl ?_
          refine TV (.p rfl) rfl B6 rfl (Ao b26) rfl rfl rfl rfl ?_
          refine qm rfl (FD AP Dz O3 rfl ?_)
          refine Ge h fun c27 h => G1 (f := Aa) AP AP Dz SN O3 c27 rfl ?_
          refine Cn h fun v28 a28 b28 h => KQ (.p rfl) rfl rfl rfl (TN A7 v16.1 _ _ _ _ _) Fy Jb a28 (Au b28) ?_
          refine qh Oj rfl ?_
          refine RN rfl rfl rfl rfl (rows2 := (v26.fd ++ (([v16.2.2] : List Int))).map Aa) (cols2 := []) rfl rfl (Ao b28) (by decide) Wh rfl rfl (EB A7 v16.1 _ ((AN.mk ((Ai.mk v28.fD.ff v28.fD.fd v28.fD.fg)) v28.fF ((Al.mk v28.fG.fw v28.fG.fy v28.fG.fA)) (v26.fd ++ (([v16.2.2] : List Int)))))) ?_
          refine Ab ?_
          exact sn [(2025, 2013), (2026, 2014), (2027, 2015)] h
         ·refine An ?_
          exact sn [(2025, 2013), (2026, 2014), (2027, 2015)] h
        ·refine wq rfl (qm rfl ?_)
         refine O8 (.p rfl) rfl rfl (JK A7 v24 _ _) Fy ?_
         refine EA rfl (Ab ?_)
         refine A0 h (fun h => ?_) fun h => ?_
         ·refine wq rfl (qa rfl (qe rfl ?_))
          obtain rfl := sj h
          refine Ag ((MS 4 _ rfl).trans (sm [] [(4, pD (.sl ((([] : List AN)).map A7))), (5, iD 3)] [] rfl rfl)) (Ap ?_)
          exact ⟨⟨[_, _], ⟨.tmp _ _ rfl, tm⟩, rfl⟩, tv⟩
         ·refine An (Aj Az rfl (A6 rfl (qm rfl (Ab ?_))))
          exact sn [(2005, 2025), (2006, 2026), (2007, 2027)] h
     ·refine Bg ?_
      exact sn [(2008, 2005), (2009, 2006)] h
    ·refine Ag hs (Aj Az rfl (qm rfl (A6 rfl (qe rfl ?_))))
     exact sn [(2001, 2008), (2002, 2009)] h
  ·refine Bg ?_
   exact sn [(2003, 2001)] h
 ·refine Ag hs (wq rfl (qm rfl (qa rfl (qe rfl ?_))))
  obtain rfl := sj h
  refine Ag ((Qm 2003 _ _ _ rfl rfl).trans (sm [] [(4, pD (.sl (v3.map A7))), (5, iD 0)] [] rfl rfl)) (Ap ?_)
  exact ⟨⟨[_, _], ⟨.tmp _ _ rfl, tm⟩, rfl⟩, tv⟩
theorem I3 (N : Nat) (p0 : List Int) (p1 : List Int) (r : Bool) (h : Ez N p0 p1 = some r) : Ar zA 71 [pD (.sl (p0.map Aa)), pD (.sl (p1.map Aa))] [] (bD r) := by
 unfold Ez at h
 refine cw (n := 26) (rs := [.tmp 4]) Tryz.func71 fun w0 S0 => ?_
 refine wq rfl (qa rfl (Ab (wp rfl (qm rfl (AT AP rfl (qm rfl (AT AP rfl (Ba rfl (Ab ?_)))))))))
 refine A0 h (fun h => ?_) fun h => ?_
 ·refine wq rfl (qe rfl ?_)
  obtain rfl := sj h
  refine Ag (sm [] [(4, bD false)] [] rfl rfl) (Ap ?_)
  exact ⟨⟨[_], tm, rfl⟩, tv⟩
 ·refine An (wp rfl (qm rfl (AT AP rfl (qm rfl (Ab ?_)))))
  refine AS (L := CA N p0 p1) h (fun v2 => mk [(0, pD (.sl (p0.map Aa))), (1, pD (.sl (p1.map Aa))), (12, iD ((p0.length : Int))), (13, iD v2)] []) (fun v3 => mk [] []) (fun _ _ => rfl) (sm [] _ _ rfl rfl) (fun j2 n2 v2 h => ?_) (fun v3 s h hs => ?_)
  ·unfold CA at h
   refine wq rfl (A8 rfl (Ab (AH ?_)))
   refine A0 h (fun h => ?_) fun h => ?_
   ·refine An (AH (AI (wq rfl (qm rfl (qa rfl (Ab (wq rfl (qw 2 rfl ?_))))))))
    refine Cn h fun v5 a5 b5 h => qi AP Dz a5 (Ao b5) rfl (qk Bs rfl (qw 2 rfl ?_))
    refine Cn h fun v6 a6 b6 h => qi AP Dz a6 (Ao b6) rfl (qk Bs rfl (Ba rfl (AJ (by kernel_rfl) ?_)))
    refine A0 h (fun h => ?_) fun h => ?_
    ·refine wq rfl (qe rfl ?_)
     obtain rfl := sj h
     refine Ag (sm [] [(4, bD false)] [] rfl rfl) (Ap ?_)
     exact ⟨⟨[_], tm, rfl⟩, tv⟩
    ·refine An (Aj Az rfl (A6 rfl (qm rfl (Ab ?_))))
     exact sn [] h
   ·refine Bg ?_
    exact sn [] h
  ·refine Ag hs (wq rfl (qe rfl ?_))
   obtain rfl := sj h
   refine Ag (sm [] [(4, bD true)] [] rfl rfl) (Ap ?_)
   exact ⟨⟨[_], tm, rfl⟩, tv⟩
theorem HJ (N : Nat) (p0 : List Int) (p1 : Int → Option Bool) (r : Int) (h : Dl N p0 p1 = some r) : Ar zA 74 [pD (.sl (p0.map Aa)), oD (.clo (Iq (LM false Aa) tB p1))] [] (iD r) := by
 unfold Dl at h
 refine cw (n := 19) (rs := [.tmp 4]) Tryz.func74 fun w0 S0 => ?_
 refine wq rfl (qa rfl (Ab (wp rfl (qm rfl (AT AP rfl (qm rfl (Ab ?_)))))))
 refine AS (L := B4 N p0 p1) h (fun v1 => mk [(0, pD (.sl (p0.map Aa))), (1, oD (.clo (Iq (LM false Aa) tB p1))), (7, iD ((p0.length : Int))), (8, iD v1)] []) (fun v2 => mk [] []) (fun _ _ => rfl) (sm [] _ _ rfl rfl) (fun j1 n1 v1 h => ?_) (fun v2 s h hs => ?_)
 ·unfold B4 at h
  refine wq rfl (A8 rfl (Ab (AH ?_)))
  refine A0 h (fun h => ?_) fun h => ?_
  ·refine An (AH (AI (wq rfl (qm rfl (qa rfl (Ab (wq rfl (qw 3 rfl ?_))))))))
   refine Cn h fun v4 a4 b4 h => qi AP Dz a4 (Ao b4) rfl (qk Bs rfl ?_)
   refine Be h fun v5 a5 h => Ks (ds0 := [_]) (ar := (LM false Aa) v4) (.p rfl) rfl rfl ⟨rfl, tv⟩ rfl rfl rfl (KM (KE _ _ NC) a5) ?_
   refine Ab ?_
   refine A0 h (fun h => ?_) fun h => ?_
   ·refine wq rfl (qm rfl (qe rfl ?_))
    obtain rfl := sj h
    refine Ag (sm [] [(4, iD v1)] [] rfl rfl) (Ap ?_)
    exact ⟨⟨[_], tm, rfl⟩, tv⟩
   ·refine An (Aj Az rfl (A6 rfl (qm rfl (Ab ?_))))
    exact sn [] h
  ·refine Bg ?_
   exact sn [] h
 ·refine Ag hs (wq rfl (qe rfl ?_))
  obtain rfl := sj h
  refine Ag (sm [] [(4, iD ((-1)))] [] rfl rfl) (Ap ?_)
  exact ⟨⟨[_], tm, rfl⟩, tv⟩
theorem ED (N : Nat) (p0 : List Int) (p1 : Int → Option Bool) (r : Bool) (h : B5 N p0 p1 = some r) : Ar zA 50 [pD (.sl (p0.map Aa)), oD (.clo (Iq (LM false Aa) tB p1))] [] (bD r) := by
 unfold B5 at h
 refine cw (n := 9) (rs := [.tmp 4]) Tryz.func50 fun w0 S0 => ?_
 refine wq rfl (qa rfl (Ab (wq rfl (qw 2 rfl ?_))))
 refine Be h fun v1 a1 h => Av [] (HJ N p0 p1 v1 a1) WB rfl (EC rfl (qe rfl ?_))
 obtain rfl := sj h
 refine Ag (sm [] [(4, bD ((decide (0 ≤ v1))))] [] rfl rfl) (Ap ?_)
 exact ⟨⟨[_], tm, rfl⟩, tv⟩
theorem NA (N : Nat) (p0 : Int) (r : Bool) (h : Ha N p0 = some r) : Ar zA 72 [iD p0] [] (bD r) := by
 unfold Ha at h
 refine cw (n := 5) (rs := [.tmp 2]) Tryz.func72 fun w0 S0 => ?_
 refine wq rfl (qa rfl (Ab (wq rfl (qm rfl (EC rfl (qe rfl ?_))))))
 obtain rfl := sj h
 refine Ag (sm [] [(2, bD ((decide (0 ≤ p0))))] [] rfl rfl) (Ap ?_)
 exact ⟨⟨[_], tm, rfl⟩, tv⟩
theorem MH (N : Nat) (p0 : Ad) (p1 : Ai) (r : Bool) (h : H1 N p0 p1 = some r) : Ar zA 48 [.e (.agg (Aw p0)), .e (.agg (AR p1))] [] (bD r) := by
 unfold H1 at h
 refine cw (n := 22) (rs := [.tmp 4]) Tryz.func48 fun w0 S0 => ?_
 refine wq rfl (qb rfl (qb rfl (qe rfl ?_)))
 refine AF h (fun v1 => mk [(4, bD v1)] []) (fun j1 h => ?_) (fun v1 h => ?_)
 ·refine Aj Az rfl (qL Cp Cm rfl (qL Bq AO rfl ?_))
  refine Be h fun v2 a2 h => Av [] (Hi N p0 p1 v2 a2) Q4 rfl (AL rfl (qm rfl ?_))
  refine Dv 9 h rfl (fun h => ?_) fun h => ?_
  ·refine qf Dn rfl (ql B6 rfl (qf NE rfl (ql B6 rfl ?_)))
   refine Be h fun v4 a4 h => Av [] (I3 N p1.ff p0.fq v4 a4) Wp rfl (qp rfl (qm rfl ?_))
   refine Dv 16 h rfl (fun h => ?_) fun h => ?_
   ·refine qf CP rfl (ql B6 rfl ?_)
    refine Be h fun v6 a6 h => Av [] (Ar.weak (ds' := [pD (.sl (p1.fd.map Aa)), oD (.fnc 72)]) (ED N p1.fd ((fun (x : Int) => Ha N x)) v6 a6) ⟨(fun _ _ _ hh => hh), (fun _ _ _ hh => PI VY (fun ar t ht => by obtain ⟨x, r, rfl, hq, rfl⟩ := Ix ht; exact NA N x r hq) hh), tv⟩) UO rfl ?_
    refine B2 rfl (qp rfl (qe rfl ?_))
    exact sn [] h
   ·refine qw 4 rfl (qp rfl (qe rfl ?_))
    exact sn [] h
  ·refine qw 5 rfl (qp rfl (qw 5 rfl (qp rfl (qe rfl ?_))))
   exact sn [] h
 ·obtain rfl := sj h
  refine Ag (sm [] [(4, bD v1)] [] rfl rfl) (Ap ?_)
  exact ⟨⟨[_], tm, rfl⟩, tv⟩
theorem M5 (N : Nat) (p0 : AN) (p1 : List Int) (p2 : List Int) (p3 : List Int) (p4 : List A9) (r : Bool) (h : E7 N p0 p1 p2 p3 p4 = some r) : Ar zA 47 [.e (.agg (Qa p0)), oD (.rop [.sl (p1.map Aa), .sl (p2.map Aa), .sl (p3.map Aa), .sl (p4.map Am)])] [] (bD r) := by
 unfold E7 at h
 refine cw (n := 8) (rs := [.tmp 3]) Tryz.func47 fun w0 S0 => ?_
 refine wq rfl (qb rfl (qa rfl (Ab (wq rfl (qK Cp Cm rfl (qf L8 rfl (qL Bq AO rfl ?_)))))))
 refine Be h fun v1 a1 h => Av [] (MH N ((Ad.mk p1 p2 p3 p4)) ((Ai.mk p0.fD.ff p0.fD.fd p0.fD.fg)) v1 a1) U8 rfl (qe rfl ?_)
 obtain rfl := sj h
 refine Ag (sm [] [(3, bD v1)] [] rfl rfl) (Ap ?_)
 exact ⟨⟨[_], tm, rfl⟩, tv⟩
theorem Fg (N : Nat) (p0 : List AN) (p1 : AN → Option Bool) (r : Int) (h : BX N p0 p1 = some r) : Ar zA 46 [pD (.sl (p0.map A7)), oD (.clo (Iq (LM true A7) tB p1))] [] (iD r) := by
 unfold BX at h
 refine cw (n := 19) (rs := [.tmp 4]) Tryz.func46 fun w0 S0 => ?_
 refine wq rfl (qa rfl (Ab (wp rfl (qm rfl (AT Fy rfl (qm rfl (Ab ?_)))))))
 refine AS (L := Bo N p0 p1) h (fun v1 => mk [(0, pD (.sl (p0.map A7))), (1, oD (.clo (Iq (LM true A7) tB p1))), (7, iD ((p0.length : Int))), (8, iD v1)] []) (fun v2 => mk [] []) (fun _ _ => rfl) (sm [] _ _ rfl rfl) (fun j1 n1 v1 h => ?_) (fun v2 s h hs => ?_)
 ·unfold Bo at h
  refine wq rfl (A8 rfl (Ab (AH ?_)))
  refine A0 h (fun h => ?_) fun h => ?_
  ·refine An (AH (AI (wq rfl (qm rfl (qa rfl (Ab (wq rfl (qw 3 rfl ?_))))))))
   refine Cn h fun v4 a4 b4 h => qi Fy Jb a4 (Ao b4) rfl (qK UL Jb rfl ?_)
   refine Be h fun v5 a5 h => Ks (ds0 := [_]) (ar := (LM true A7) ((AN.mk ((Ai.mk v4.fD.ff v4.fD.fd v4.fD.fg)) v4.fF ((Al.mk v4.fG.fw v4.fG.fy v4.fG.fA)) v4.fd))) (.p rfl) rfl rfl ⟨rfl, tv⟩ rfl rfl rfl (KM (KE _ _ Oh) a5) ?_
   refine Ab ?_
   refine A0 h (fun h => ?_) fun h => ?_
   ·refine wq rfl (qm rfl (qe rfl ?_))
    obtain rfl := sj h
    refine Ag (sm [] [(4, iD v1)] [] rfl rfl) (Ap ?_)
    exact ⟨⟨[_], tm, rfl⟩, tv⟩
   ·refine An (Aj Az rfl (A6 rfl (qm rfl (Ab ?_))))
    exact sn [] h
  ·refine Bg ?_
   exact sn [] h
 ·refine Ag hs (wq rfl (qe rfl ?_))
  obtain rfl := sj h
  refine Ag (sm [] [(4, iD ((-1)))] [] rfl rfl) (Ap ?_)
  exact ⟨⟨[_], tm, rfl⟩, tv⟩
theorem F1 (N : Nat) (p0 : List Al) (r : (List Al)) (h : Ce N p0 = some r) : Cc zA 73 [oD (.own 90000)] [(.vec 3 (p0.map Ae), .vec 3 (r.map Ae))] [] (.tup []) := by
 unfold Ce at h
 refine BP (n := 28) (rs := []) Tryz.func73 rfl rfl rfl (Da rfl) (Da rfl) rfl rfl (Da rfl) rfl (Da rfl) fun w0 S0 GL => Ja ?_
 refine Ag (sm [] [(0, oD (.own 90000))] [(90000, .vec 3 (p0.map Ae))] rfl rfl) (wq rfl (qm rfl (Iv BH rfl (J5 rfl (qa rfl (qe rfl ?_))))))
 refine AS (L := Bw N) h (fun v1 => mk [(0, oD (.own 90000)), (2, iD v1.2.1), (3, iD v1.2.2)] [(90000, .vec 3 (v1.1.map Ae))]) (fun v2 => mk [] [(90000, .vec 3 (v2.map Ae))]) (fun _ _ => rfl) (sm [] _ _ rfl rfl) (fun j1 n1 v1 h => ?_) (fun v2 s h hs => ?_)
 ·unfold Bw at h
  refine wp rfl (qw 2 rfl (A8 rfl (Ab ?_)))
  refine A0 h (fun h => ?_) fun h => ?_
  ·refine An (AH (AI (Aj Az rfl (qw 6 rfl ?_))))
   refine Cn h fun v4 a4 b4 h => qI BH BG a4 (Ao b4) rfl (qJ E5 BG (Ao b4) rfl (qw 2 rfl ?_))
   refine Cn h fun v5 a5 b5 h => qI BH BG a5 (Ao b5) rfl (qJ E5 BG (Ao b5) rfl ?_)
   refine Cn h fun v6 a6 b6 h => qI BH BG a6 (Ao b6) rfl ?_
   refine ER rfl rfl rfl rfl (Ao b6) rfl BG rfl (Da rfl) (EB Ae v1.1 _ v4) ?_
   refine Cn h fun v7 a7 b7 h => qI BH BG a7 (Ao b7) rfl ?_
   refine ER rfl rfl rfl rfl (Ao b7) rfl BG rfl (Da rfl) (EB Ae (v1.1.set ((v1.2.1).toNat) v4) _ v5) ?_
   refine AJ (by kernel_rfl) (Aj Az rfl (qm rfl (A6 rfl (qm rfl (J5 rfl (qa rfl (qe rfl ?_)))))))
   exact sn [] h
  ·refine Bg ?_
   exact sn [] h
 ·obtain rfl := sj h
  refine ⟨_, hs.trans (sm [] [] [(90000, .vec 3 (v2.map Ae))] rfl rfl), ?_⟩
  exact ⟨⟨[], tv, rfl⟩, ⟨rfl, tv⟩, tv⟩
theorem Pm (N : Nat) (p0 : List AN) (p1 : Int) (r : (List Al)) (h : JA N p0 p1 = some r) : Ar zA 49 [pD (.sl (p0.map A7)), iD p1] [(3, r.map Ae)] (oD (.own 0)) := by
 unfold JA at h
 refine cw (n := 28) (rs := [.tmp 4]) Tryz.func49 fun w0 S0 => ?_
 refine wq rfl (qa rfl (Ab (wq rfl (qa rfl (Ab (AH ?_))))))
 refine AS (L := Gv N p0) h (fun v1 => mk [(0, pD (.sl (p0.map A7))), (1, iD v1.1), (5, oD (.own 2001))] [(2001, .vec 3 (v1.2.map Ae))]) (fun v2 => mk [(5, oD (.own 2002))] [(2002, .vec 3 (v2.map Ae))]) (fun _ _ => rfl) ((BF 5 2003 3 rfl rfl rfl).trans (sm [(2001, 2003)] _ _ rfl rfl)) (fun j1 n1 v1 h => ?_) (fun v2 s h hs => ?_)
 ·unfold Gv at h
  refine wp rfl (qw 2 rfl ?_)
  refine Cn h fun v3 a3 b3 h => qi Fy Jb a3 (Ao b3) rfl (qg OI rfl (qk Bs rfl (EC rfl (Ab ?_))))
  refine A0 h (fun h => ?_) fun h => ?_
  ·refine An (AH (AI (Aj Az rfl (qw 3 rfl ?_))))
   refine Cn h fun v5 a5 b5 h => qi Fy Jb a5 (Ao b5) rfl (qg Rd rfl (qK E5 BG rfl (FD BH BG Gd rfl ?_)))
   refine Ge h fun c6 h => G1 (f := Ae) BH BH BG OV Gd c6 rfl (qa rfl (Ab (Aj Az rfl (qw 2 rfl ?_))))
   refine Cn h fun v7 a7 b7 h => qi Fy Jb a7 (Ao b7) rfl (qg OI rfl (qk Bs rfl (qe rfl ?_)))
   exact sn [(2001, 24)] h
  ·refine Bg ?_
   exact sn [(2002, 2001)] h
 ·refine Ag hs (wq rfl (qm rfl ?_))
  refine Be h fun v8 a8 h => CQ (ds0 := [_]) [2002] [] [true] (F1 N v2 v8 a8) (.p rfl) Wm rfl ⟨rfl, tv⟩ rfl rfl (by decide) ⟨rfl, tv⟩ rfl (Bm rfl) tv ⟨(fun h => by cases h), tv⟩ rfl rfl rfl ?_
  refine Ab (wq rfl (qm rfl (qe rfl ?_)))
  obtain rfl := sj h
  refine Ag (sm [(1000, 2002)] [(4, oD (.own 1000))] [(1000, .vec 3 (v8.map Ae))] rfl rfl) (Ap ?_)
  exact ⟨⟨[_], tm, rfl⟩, ⟨rfl, tv⟩⟩
theorem Od (N : Nat) (p0 : Ad) (p1 : Ai) (r : (List Al) × Int) (h : I4 N p0 p1 = some r) : Ar zA 28 [.e (.agg (Aw p0)), .e (.agg (AR p1))] [(3, r.1.map Ae)] (.tup [.one (.own 0), .one (iC r.2)]) := by
 unfold I4 at h
 refine cw (n := 38) (rs := [.tmp 4, .tmp 5]) Tryz.func28 fun w0 S0 => ?_
 refine wq rfl (qb rfl (qb rfl (qa rfl (qa rfl (Ab (wq rfl (qL Cp Cm rfl (qL Bq AO rfl ?_))))))))
 refine Be h fun v1 a1 h => Av [] (Ko N p0 p1 v1 a1) UX rfl (qm rfl (qx rfl (qx rfl (qa rfl (qa rfl (Ab (wp rfl (qm rfl (Ba rfl (Ab ?_))))))))))
 refine A0 h (fun h => ?_) fun h => ?_
 ·refine wq rfl (qm rfl (qa rfl (qe rfl ?_)))
  obtain rfl := sj h
  refine Ag ((BF 4 2001 3 rfl rfl rfl).trans (sm [(1000, 2001)] [(4, oD (.own 1000)), (5, iD v1.2)] [(1000, .vec 3 ((([] : List Al)).map Ae))] rfl rfl)) (Ap ?_)
  exact ⟨⟨[_, _], ⟨.tmp _ _ rfl, tm⟩, rfl⟩, ⟨rfl, tv⟩⟩
 ·refine An (wp rfl (qm rfl (B2 rfl (Ab ?_))))
  refine A0 h (fun h => ?_) fun h => ?_
  ·refine wq rfl (qa rfl (qe rfl ?_))
   obtain rfl := sj h
   refine Ag ((BF 4 2002 3 rfl rfl rfl).trans (sm [(1000, 2002)] [(4, oD (.own 1000)), (5, iD 13)] [(1000, .vec 3 ((([] : List Al)).map Ae))] rfl rfl)) (Ap ?_)
   exact ⟨⟨[_, _], ⟨.tmp _ _ rfl, tm⟩, rfl⟩, ⟨rfl, tv⟩⟩
  ·refine An (wq rfl (qL Cp Cm rfl (qL Bq AO rfl ?_)))
   refine Be h fun v4 a4 h => Av [] (MY N p0 p1 v4 a4) Ws rfl (qm rfl (qx rfl (qx rfl (qa rfl (qa rfl (Ab (wp rfl (qm rfl (Ba rfl (Ab ?_))))))))))
   refine A0 h (fun h => ?_) fun h => ?_
   ·refine wq rfl (qm rfl (qa rfl (qe rfl ?_)))
    obtain rfl := sj h
    refine Ag ((BF 4 2003 3 rfl rfl rfl).trans (sm [(1000, 2003)] [(4, oD (.own 1000)), (5, iD v4.2)] [(1000, .vec 3 ((([] : List Al)).map Ae))] rfl rfl)) (Ap ?_)
    exact ⟨⟨[_, _], ⟨.tmp _ _ rfl, tm⟩, rfl⟩, ⟨rfl, tv⟩⟩
   ·refine An (wq rfl (qm rfl (Cs (KF 2 [.sl (p0.fi.map Aa), .sl (p0.fm.map Aa), .sl (p0.fq.map Aa), .sl (p0.fh.map Am)] rfl rfl) ?_)))
    refine Kh (capD := [_]) (Iq (LM true A7) tB ((fun (x : AN) => E7 N x p0.fi p0.fm p0.fq p0.fh))) (.p rfl) VD rfl ⟨rfl, tv⟩ rfl (fun ar t ht => by obtain ⟨x, r, rfl, hq, rfl⟩ := Ix ht; exact M5 N x p0.fi p0.fm p0.fq p0.fh r hq) ?_
    refine Be h fun v6 a6 h => Av [] (Fg N v4.1 ((fun (x : AN) => E7 N x p0.fi p0.fm p0.fq p0.fh)) v6 a6) Wb rfl (qa rfl (Ab (wp rfl (qm rfl (A8 rfl (Ab ?_))))))
    refine A0 h (fun h => ?_) fun h => ?_
    ·refine wq rfl (qa rfl (qe rfl ?_))
     obtain rfl := sj h
     refine Ag ((BF 4 2004 3 rfl rfl rfl).trans (sm [(1000, 2004)] [(4, oD (.own 1000)), (5, iD 14)] [(1000, .vec 3 ((([] : List Al)).map Ae))] rfl rfl)) (Ap ?_)
     exact ⟨⟨[_, _], ⟨.tmp _ _ rfl, tm⟩, rfl⟩, ⟨rfl, tv⟩⟩
    ·refine An (wq rfl (qw 2 rfl ?_))
     refine Be h fun v8 a8 h => Av [2005] (Pm N v4.1 v6 v8 a8) Wk rfl (qa rfl (qe rfl ?_))
     obtain rfl := sj h
     refine Ag (sm [(1000, 2005)] [(4, oD (.own 1000)), (5, iD 0)] [(1000, .vec 3 (v8.map Ae))] rfl rfl) (Ap ?_)
     exact ⟨⟨[_, _], ⟨.tmp _ _ rfl, tm⟩, rfl⟩, ⟨rfl, tv⟩⟩
theorem Ou (N : Nat) (p0 : Ad) (r : (List Al) × Int) (h : IR N p0 = some r) : Ar zA 12 [.e (.agg (Aw p0))] [(3, r.1.map Ae)] (.tup [.one (.own 0), .one (iC r.2)]) := by
 unfold IR at h
 refine cw (n := 19) (rs := [.tmp 2, .tmp 3]) Tryz.func12 fun w0 S0 => ?_
 refine wq rfl (qb rfl (qa rfl (qa rfl (Ab (wq rfl (qL Cp Cm rfl ?_))))))
 refine Be h fun v1 a1 h => Av [2001, 2002, 2003] (H8 N p0 v1 a1) R7 rfl (qm rfl (qx rfl (qx rfl (qz C4 rfl (qs AO rfl (qa rfl (Ab (wp rfl (qm rfl (Ba rfl (Ab ?_)))))))))))
 refine A0 h (fun h => ?_) fun h => ?_
 ·refine wq rfl (qm rfl (qa rfl (qe rfl ?_)))
  obtain rfl := sj h
  refine Ag ((BF 2 2004 3 rfl rfl rfl).trans (sm [(1000, 2004)] [(2, oD (.own 1000)), (3, iD v1.2)] [(1000, .vec 3 ((([] : List Al)).map Ae))] rfl rfl)) (Ap ?_)
  exact ⟨⟨[_, _], ⟨.tmp _ _ rfl, tm⟩, rfl⟩, ⟨rfl, tv⟩⟩
 ·refine An (wq rfl (qL Cp Cm rfl (qL Bq AO rfl ?_)))
  refine Be h fun v3 a3 h => FM [2005] [2001, 2002, 2003] (Od N p0 v1.1 v3 a3) VQ (FZ (fun _ => rfl) DW) rfl (qx rfl (qx rfl (qa rfl (qe rfl ?_))))
  obtain rfl := sj h
  refine Ag (sm [(1000, 2005)] [(2, oD (.own 1000)), (3, iD v3.2)] [(1000, .vec 3 (v3.1.map Ae))] rfl rfl) (Ap ?_)
  exact ⟨⟨[_, _], ⟨.tmp _ _ rfl, tm⟩, rfl⟩, ⟨rfl, tv⟩⟩
theorem IX (N : Nat) (p0 : Int) (r : Bool) (h : Dc N p0 = some r) : Ar zA 51 [iD p0] [] (bD r) := by
 unfold Dc at h
 refine cw (n := 9) (rs := [.tmp 2]) Tryz.func51 fun w0 S0 => ?_
 refine wq rfl (qe rfl ?_)
 refine AF h (fun v1 => mk [(2, bD v1)] []) (fun j1 h => ?_) (fun v1 h => ?_)
 ·refine Aj Az rfl (qm rfl (A8 rfl (qm rfl ?_)))
  refine Dv 5 h rfl (fun h => ?_) fun h => ?_
  ·refine qw 2 rfl (qp rfl (qe rfl ?_))
   exact sn [] h
  ·refine qm rfl (EA rfl (qp rfl (qe rfl ?_)))
   exact sn [] h
 ·obtain rfl := sj h
  refine Ag (sm [] [(2, bD v1)] [] rfl rfl) (Ap ?_)
  exact ⟨⟨[_], tm, rfl⟩, tv⟩
theorem Fh (N : Nat) (p0 : Ad) (p1 : List Int) (r : Int) (h : CT N p0 p1 = some r) : Ar zA 29 [.e (.agg (Aw p0)), pD (.sl (p1.map Aa))] [] (iD r) := by
 unfold CT at h
 refine cw (n := 21) (rs := [.tmp 4]) Tryz.func29 fun w0 S0 => ?_
 refine wq rfl (qb rfl (qa rfl (Ab (wp rfl (qL Cp Cm rfl ?_)))))
 refine Be h fun v1 a1 h => Av [] (D1 N p0 v1 a1) Sf rfl (qa rfl (Ab (wq rfl (qm rfl (Ba rfl (Ab ?_))))))
 refine A0 h (fun h => ?_) fun h => ?_
 ·refine wq rfl (qm rfl (qe rfl ?_))
  obtain rfl := sj h
  refine Ag (sm [] [(4, iD v1)] [] rfl rfl) (Ap ?_)
  exact ⟨⟨[_], tm, rfl⟩, tv⟩
 ·refine An (AH (AI (wq rfl (qm rfl (AT AP rfl (qf EK rfl (ql B6 rfl (AT AP rfl (Ba rfl (qe rfl ?_))))))))))
  refine A0 h (fun h => ?_) fun h => ?_
  ·refine wq rfl (qe rfl ?_)
   obtain rfl := sj h
   refine Ag (sm [] [(4, iD 6)] [] rfl rfl) (Ap ?_)
   exact ⟨⟨[_], tm, rfl⟩, tv⟩
  ·refine wq rfl (qm rfl ?_)
   refine Be h fun v4 a4 h => Av [] (Ar.weak (ds' := [pD (.sl (p1.map Aa)), oD (.fnc 51)]) (ED N p1 ((fun (x : Int) => Dc N x)) v4 a4) ⟨(fun _ _ _ hh => hh), (fun _ _ _ hh => PI VB (fun ar t ht => by obtain ⟨x, r, rfl, hq, rfl⟩ := Ix ht; exact IX N x r hq) hh), tv⟩) UO rfl ?_
   refine qa rfl (Ab ?_)
   refine A0 h (fun h => ?_) fun h => ?_
   ·refine wq rfl (qe rfl ?_)
    obtain rfl := sj h
    refine Ag (sm [] [(4, iD 7)] [] rfl rfl) (Ap ?_)
    exact ⟨⟨[_], tm, rfl⟩, tv⟩
   ·refine An (wq rfl (qe rfl ?_))
    obtain rfl := sj h
    refine Ag (sm [] [(4, iD 0)] [] rfl rfl) (Ap ?_)
    exact ⟨⟨[_], tm, rfl⟩, tv⟩
theorem L1 (N : Nat) (p0 : Ad) (p1 : List Al) (r : Int × Ai × AD × Int) (h : Hl N p0 p1 = some r) : Ar zA 52 [.e (.agg (Aw p0)), pD (.sl (p1.map Ae))] [] (.tup [.one (iC r.1), .agg (AR r.2.1), .agg (Gm r.2.2.1), .one (iC r.2.2.2)]) := by
 unfold Hl at h
 refine cw (n := 89) (rs := [.tmp 4, .cell 5 52, .cell 6 124, .tmp 7]) Tryz.func52 fun w0 S0 => ?_
 refine wq rfl (qb rfl (qa rfl (qz C4 rfl (qz GJ rfl (qa rfl (Ab (wq rfl (qL Cp Cm rfl ?_))))))))
 refine Be h fun v1 a1 h => Av [2001, 2002, 2003] (H8 N p0 v1 a1) R7 rfl (qm rfl (qx rfl (qx rfl (qz C4 rfl (qs AO rfl (qa rfl (Ab (wp rfl (qm rfl (Ba rfl (Ab ?_)))))))))))
 refine A0 h (fun h => ?_) fun h => ?_
 ·refine wq rfl (AG C4 Jo rfl (AG GJ Ls rfl (qm rfl (qa rfl (qs AO rfl (qs DO rfl (qe rfl ?_)))))))
  obtain rfl := sj h
  refine Ag ((Db 5 _ rfl).trans (sm [] [(4, iD 0), (5, oD (.ptr 5 0)), (6, oD (.ptr 6 0)), (7, iD v1.2)] [(5, .box [sC ((([] : List Int)).map Aa), sC ((([] : List Int)).map Aa), sC ((([] : List Int)).map Bd)]), (6, .box [iC 0, iC 0, iC 0])] rfl rfl)) (Ap ?_)
  exact ⟨⟨[_, _, _, _], ⟨.tmp _ _ rfl, ⟨.cellN _ _ _ _ _ _ _ rfl rfl Bq AO rfl rfl (EU rfl), ⟨.cellN _ _ _ _ _ _ _ rfl rfl I6 DO rfl rfl (EU rfl), tm⟩⟩⟩, rfl⟩, tv⟩
 ·refine An (wp rfl (qL Cp Cm rfl (qL Bq AO rfl (Cs (AM 2001 _ _ rfl rfl) (Cs (AM 2002 _ _ rfl rfl) (Cs (AM 2003 _ _ rfl rfl) ?_))))))
  refine Be h fun v3 a3 h => Av [] (Jt N p0 v1.1 v3 a3) Ty rfl (qm rfl (qx rfl (qx rfl (qx rfl (qz C4 rfl (qz GJ rfl (qs AO rfl (qs DO rfl (qa rfl (Ab (wq rfl (qm rfl (AL rfl (Ab ?_))))))))))))))
  refine A0 h (fun h => ?_) fun h => ?_
  ·refine wq rfl (qL Bq AO rfl (qL I6 DO rfl (qa rfl (qs AO rfl (qs DO rfl (qa rfl (AJ (by kernel_rfl) ?_)))))))
   obtain rfl := sj h
   refine Ag (sm [] [(4, iD ((-1))), (5, oD (.ptr 5 0)), (6, oD (.ptr 6 0)), (7, iD 0)] [(5, .box (AR v3.1)), (6, .box (Gm v3.2.1))] rfl rfl) (Ap ?_)
   exact ⟨⟨[_, _, _, _], ⟨.tmp _ _ rfl, ⟨.cellN _ _ _ _ _ _ _ rfl rfl Bq AO rfl rfl (EU rfl), ⟨.cellN _ _ _ _ _ _ _ rfl rfl I6 DO rfl rfl (EU rfl), tm⟩⟩⟩, rfl⟩, tv⟩
  ·refine An (wp rfl (qm rfl (AT BH rfl (qm rfl (Ab ?_)))))
   refine AS (L := EG N p0 p1) h (fun v5 => mk [(1, pD (.sl (p1.map Ae))), (2, oD (.ptr 2 0)), (5, oD (.ptr 5 0)), (6, oD (.ptr 6 0)), (8, oD (.ptr 8 0)), (41, pD (.sl (p1.map Ae))), (42, iD ((p1.length : Int))), (43, iD v5.2)] [(2, .box (Aw p0)), (5, .box [.pure (.nil0), .pure (.nil0), .pure (.nil0)]), (6, .box [iC 0, iC 0, iC 0]), (8, .box (AR v5.1))]) (fun v6 => mk [(1, pD (.sl (p1.map Ae))), (2, oD (.ptr 2 0)), (5, oD (.ptr 5 0)), (6, oD (.ptr 6 0)), (8, oD (.ptr 8 0))] [(2, .box (Aw p0)), (5, .box [.pure (.nil0), .pure (.nil0), .pure (.nil0)]), (6, .box [iC 0, iC 0, iC 0]), (8, .box (AR v6))]) (fun _ _ => rfl) (sm [] _ _ rfl rfl) (fun j5 n5 v5 h => ?_) (fun v6 s h hs => ?_)
   ·unfold EG at h
    refine wq rfl (A8 rfl (Ab (AH ?_)))
    refine A0 h (fun h => ?_) fun h => ?_
    ·refine An (AH (AI (wq rfl (qm rfl ?_))))
     refine Cn h fun v8 a8 b8 h => qi BH BG a8 (Ao b8) rfl (qK E5 BG rfl (qz Gd rfl (qa rfl (qs BG rfl (Ab (wq rfl (qL Cp Cm rfl (qL Bq AO rfl (qL E5 BG rfl ?_)))))))))
     refine Be h fun v9 a9 h => Av [2004, 2005, 2006] (Gt N p0 v5.1 v8 v9 a9) QD rfl (qm rfl (qx rfl (qx rfl (qz C4 rfl (qs AO rfl (qa rfl (Ab (AH ?_))))))))
     refine AF h (fun v10 => mk [(1, pD (.sl (p1.map Ae))), (2, oD (.ptr 2 0)), (5, oD (.ptr 5 0)), (6, oD (.ptr 6 0)), (8, oD (.ptr 8 0)), (13, iD v5.2), (15, oD (.ptr 15 0)), (41, pD (.sl (p1.map Ae))), (42, iD ((p1.length : Int))), (43, iD v5.2), (61, bD v10)] [(2, .box (Aw p0)), (5, .box [.pure (.nil0), .pure (.nil0), .pure (.nil0)]), (6, .box [iC 0, iC 0, iC 0]), (8, .box (AR v5.1)), (15, .box [.own 2007, .own 2008, .own 2009]), (2007, .vec 1 (v9.1.ff.map Aa)), (2008, .vec 1 (v9.1.fd.map Aa)), (2009, .vec 1 (v9.1.fg.map Bd))]) (fun j10 h => ?_) (fun v10 h => ?_)
     ·refine Aj Az rfl (qm rfl (Ba rfl (qm rfl ?_)))
      refine Dv 57 h rfl (fun h => ?_) fun h => ?_
      ·refine qw 3 rfl (qp rfl (Ab ?_))
       exact sn [(2007, 2004), (2008, 2005), (2009, 2006)] h
      ·refine qf DJ rfl (ql Bs rfl (AL rfl (qp rfl (Ab ?_))))
       exact sn [(2007, 2004), (2008, 2005), (2009, 2006)] h
     ·refine A0 h (fun h => ?_) fun h => ?_
      ·refine wq rfl (qm rfl (AG C4 Jo rfl (AG GJ Ls rfl (qa rfl (qs AO rfl (qs DO rfl (qe rfl ?_)))))))
       obtain rfl := sj h
       refine Ag ((Db 5 _ rfl).trans (sm [] [(4, iD v5.2), (5, oD (.ptr 5 0)), (6, oD (.ptr 6 0)), (7, iD 0)] [(5, .box [sC ((([] : List Int)).map Aa), sC ((([] : List Int)).map Aa), sC ((([] : List Int)).map Bd)]), (6, .box [iC 0, iC 0, iC 0])] rfl rfl)) (Ap ?_)
       exact ⟨⟨[_, _, _, _], ⟨.tmp _ _ rfl, ⟨.cellN _ _ _ _ _ _ _ rfl rfl Bq AO rfl rfl (EU rfl), ⟨.cellN _ _ _ _ _ _ _ rfl rfl I6 DO rfl rfl (EU rfl), tm⟩⟩⟩, rfl⟩, tv⟩
      ·refine An (wp rfl (qL Cp Cm rfl (qL Bq AO rfl (Cs (AM 2007 _ _ rfl rfl) (Cs (AM 2008 _ _ rfl rfl) (Cs (AM 2009 _ _ rfl rfl) ?_))))))
       refine Be h fun v13 a13 h => Av [] (Jt N p0 v9.1 v13 a13) Ty rfl (qm rfl (qx rfl (qx rfl (qx rfl (qz C4 rfl (qz GJ rfl (qs AO rfl (qs DO rfl (qa rfl (Ab (wq rfl (qm rfl (AL rfl (Ab ?_))))))))))))))
       refine A0 h (fun h => ?_) fun h => ?_
       ·refine wq rfl (qm rfl (qL Bq AO rfl (qL I6 DO rfl (qa rfl (qs AO rfl (qs DO rfl (qa rfl (AJ (by kernel_rfl) ?_))))))))
        obtain rfl := sj h
        refine Ag (sm [] [(4, iD v5.2), (5, oD (.ptr 5 0)), (6, oD (.ptr 6 0)), (7, iD 0)] [(5, .box (AR v13.1)), (6, .box (Gm v13.2.1))] rfl rfl) (Ap ?_)
        exact ⟨⟨[_, _, _, _], ⟨.tmp _ _ rfl, ⟨.cellN _ _ _ _ _ _ _ rfl rfl Bq AO rfl rfl (EU rfl), ⟨.cellN _ _ _ _ _ _ _ rfl rfl I6 DO rfl rfl (EU rfl), tm⟩⟩⟩, rfl⟩, tv⟩
       ·refine An (Aj Az rfl (qL Bq AO rfl (qs AO rfl (Ab (Aj Az rfl (A6 rfl (qm rfl (Ab ?_))))))))
        exact sn [] h
    ·refine Bg ?_
     exact sn [] h
   ·refine Ag hs (wp rfl (qL Cp Cm rfl (qL Bq AO rfl ?_)))
    refine Be h fun v15 a15 h => Av [] (MH N p0 v6 v15 a15) U8 rfl (B2 rfl (Ab ?_))
    refine A0 h (fun h => ?_) fun h => ?_
    ·refine wq rfl (qm rfl (AT BH rfl (AG C4 Jo rfl (AG GJ Ls rfl (qa rfl (qs AO rfl (qs DO rfl (qe rfl ?_))))))))
     obtain rfl := sj h
     refine Ag ((Db 5 _ rfl).trans (sm [] [(4, iD ((p1.length : Int))), (5, oD (.ptr 5 0)), (6, oD (.ptr 6 0)), (7, iD 14)] [(5, .box [sC ((([] : List Int)).map Aa), sC ((([] : List Int)).map Aa), sC ((([] : List Int)).map Bd)]), (6, .box [iC 0, iC 0, iC 0])] rfl rfl)) (Ap ?_)
     exact ⟨⟨[_, _, _, _], ⟨.tmp _ _ rfl, ⟨.cellN _ _ _ _ _ _ _ rfl rfl Bq AO rfl rfl (EU rfl), ⟨.cellN _ _ _ _ _ _ _ rfl rfl I6 DO rfl rfl (EU rfl), tm⟩⟩⟩, rfl⟩, tv⟩
    ·refine An (wq rfl (AG C4 Jo rfl (AG GJ Ls rfl (qa rfl (qs AO rfl (qs DO rfl (qe rfl ?_)))))))
     obtain rfl := sj h
     refine Ag ((Db 5 _ rfl).trans (sm [] [(4, iD 0), (5, oD (.ptr 5 0)), (6, oD (.ptr 6 0)), (7, iD 15)] [(5, .box [sC ((([] : List Int)).map Aa), sC ((([] : List Int)).map Aa), sC ((([] : List Int)).map Bd)]), (6, .box [iC 0, iC 0, iC 0])] rfl rfl)) (Ap ?_)
     exact ⟨⟨[_, _, _, _], ⟨.tmp _ _ rfl, ⟨.cellN _ _ _ _ _ _ _ rfl rfl Bq AO rfl rfl (EU rfl), ⟨.cellN _ _ _ _ _ _ _ rfl rfl I6 DO rfl rfl (EU rfl), tm⟩⟩⟩, rfl⟩, tv⟩
theorem KT (N : Nat) (p0 : Ad) (p1 : List Al) (r : Bool) (h : G4 N p0 p1 = some r) : Ar zA 30 [.e (.agg (Aw p0)), pD (.sl (p1.map Ae))] [] (bD r) := by
 unfold G4 at h
 refine cw (n := 19) (rs := [.tmp 4]) Tryz.func30 fun w0 S0 => ?_
 refine wq rfl (qb rfl (qa rfl (Ab (wq rfl (qL Cp Cm rfl (qm rfl ?_))))))
 refine Be h fun v1 a1 h => Av [] (L1 N p0 p1 v1 a1) Wd rfl (qm rfl (qx rfl (qx rfl (qx rfl (qx rfl (qz C4 rfl (qz GJ rfl (qa rfl (qs AO rfl (qs DO rfl (qa rfl (Ab (wq rfl (qm rfl (AL rfl (qe rfl ?_))))))))))))))))
 obtain rfl := sj h
 refine Ag (sm [] [(4, bD ((v1.2.2.2 == 15)))] [] rfl rfl) (Ap ?_)
 exact ⟨⟨[_], tm, rfl⟩, tv⟩
theorem D3 (N : Nat) (p0 : List Al) (r : (List Al)) (h : BQ N p0 = some r) : Ar zA 31 [pD (.sl (p0.map Ae))] [(3, r.map Ae)] (oD (.own 0)) := by
 unfold BQ at h
 refine cw (n := 8) (rs := [.tmp 2]) Tryz.func31 fun w0 S0 => ?_
 refine wq rfl (qa rfl (Ab (wp rfl (qm rfl ?_))))
 refine NJ (.p rfl) rfl BH ?_
 refine Ab ?_
 refine NP rfl (fun c2 => ?_) ?_
 ·have c2 := List.map_eq_nil_iff.1 c2
  rw [c2] at h
  have h : (some (([] : List Al))) = some r := h
  refine wq rfl (qe rfl ?_)
  obtain rfl := sj h
  refine Ag ((BF 2 2001 3 rfl rfl rfl).trans (sm [(1000, 2001)] [(2, oD (.own 1000))] [(1000, .vec 3 ((([] : List Al)).map Ae))] rfl rfl)) (Ap ?_)
  exact ⟨⟨[_], tm, rfl⟩, ⟨rfl, tv⟩⟩
 ·refine An (wq rfl (FD BH BG Gd rfl (qm rfl ?_)))
  refine Ge h fun c1 h => Pf (f := Ae) BH BH BG OV Gd (fun _ => rfl) c1 rfl (qe rfl ?_)
  obtain rfl := sj h
  refine Ag (sm [(1000, 7)] [(2, oD (.own 1000))] [(1000, .vec 3 (((([] : List Al)) ++ p0).map Ae))] rfl rfl) (Ap ?_)
  exact ⟨⟨[_], tm, rfl⟩, ⟨rfl, tv⟩⟩
theorem IB (N : Nat) (p0 : Ad) (p1 : List Int) (p2 : List Al) (r : Af × Int) (h : E0 N p0 p1 p2 = some r) : Ar zA 13 [.e (.agg (Aw p0)), pD (.sl (p1.map Aa)), pD (.sl (p2.map Ae))] [(3, r.1.fo.map Ae), (1, r.1.fc.ff.map Aa), (1, r.1.fc.fd.map Aa), (1, r.1.fc.fg.map Bd)] (.tup [.agg [.own 0, iC r.1.fk, iC r.1.fp, iC r.1.fr, iC r.1.fj, iC r.1.fe, .own 1, .own 2, .own 3], .one (iC r.2)]) := by
 unfold E0 at h
 refine cw (n := 42) (rs := [.cell 6 54, .tmp 7]) Tryz.func13 fun w0 S0 => ?_
 refine wq rfl (qb rfl (qz IV rfl (qa rfl (Ab (wp rfl (qL Cp Cm rfl (qm rfl ?_)))))))
 refine Be h fun v1 a1 h => Av [] (Fh N p0 p1 v1 a1) Ui rfl (qa rfl (Ab (wq rfl (qm rfl (Ba rfl (Ab ?_))))))
 refine A0 h (fun h => ?_) fun h => ?_
 ·refine wq rfl (AG IV Om rfl (qm rfl (qs DN rfl (qe rfl ?_))))
  obtain rfl := sj h
  refine Ag ((AZ 6 0 2001 3 _ rfl rfl rfl rfl).trans ((AZ 6 6 2002 1 _ rfl rfl rfl rfl).trans ((AZ 6 7 2003 1 _ rfl rfl rfl rfl).trans ((AZ 6 8 2004 1 _ rfl rfl rfl rfl).trans (sm [(1000, 2001), (1001, 2002), (1002, 2003), (1003, 2004)] [(6, oD (.ptr 6 0)), (7, iD v1)] [(6, .box [.own 1000, iC 0, iC 0, iC 0, iC 0, iC 0, .own 1001, .own 1002, .own 1003]), (1000, .vec 3 ((([] : List Al)).map Ae)), (1001, .vec 1 ((([] : List Int)).map Aa)), (1002, .vec 1 ((([] : List Int)).map Aa)), (1003, .vec 1 ((([] : List Int)).map Bd))] rfl rfl))))) (Ap ?_)
  exact ⟨⟨[_, _], ⟨.cellN _ _ _ _ _ _ _ rfl rfl GR DN rfl rfl (EU rfl), tm⟩, rfl⟩, ⟨rfl, rfl, rfl, rfl, tv⟩⟩
 ·refine An (wp rfl (qL Cp Cm rfl (qm rfl ?_)))
  refine Be h fun v3 a3 h => Av [] (KT N p0 p2 v3 a3) UR rfl (B2 rfl (Ab ?_))
  refine A0 h (fun h => ?_) fun h => ?_
  ·refine wq rfl (AG IV Om rfl (qs DN rfl (qe rfl ?_)))
   obtain rfl := sj h
   refine Ag ((AZ 6 0 2005 3 _ rfl rfl rfl rfl).trans ((AZ 6 6 2006 1 _ rfl rfl rfl rfl).trans ((AZ 6 7 2007 1 _ rfl rfl rfl rfl).trans ((AZ 6 8 2008 1 _ rfl rfl rfl rfl).trans (sm [(1000, 2005), (1001, 2006), (1002, 2007), (1003, 2008)] [(6, oD (.ptr 6 0)), (7, iD 13)] [(6, .box [.own 1000, iC 0, iC 0, iC 0, iC 0, iC 0, .own 1001, .own 1002, .own 1003]), (1000, .vec 3 ((([] : List Al)).map Ae)), (1001, .vec 1 ((([] : List Int)).map Aa)), (1002, .vec 1 ((([] : List Int)).map Aa)), (1003, .vec 1 ((([] : List Int)).map Bd))] rfl rfl))))) (Ap ?_)
   exact ⟨⟨[_, _], ⟨.cellN _ _ _ _ _ _ _ rfl rfl GR DN rfl rfl (EU rfl), tm⟩, rfl⟩, ⟨rfl, rfl, rfl, rfl, tv⟩⟩
  ·refine An (wq rfl (qL Cp Cm rfl ?_))
   refine Be h fun v5 a5 h => Av [2009, 2010, 2011] (H8 N p0 v5 a5) R7 rfl (qm rfl (qx rfl (qx rfl (qz C4 rfl (qs AO rfl (qa rfl (Ab (wp rfl (qm rfl (Ba rfl (Ab ?_)))))))))))
   refine A0 h (fun h => ?_) fun h => ?_
   ·refine wq rfl (AG IV Om rfl (qm rfl (qs DN rfl (qe rfl ?_))))
    obtain rfl := sj h
    refine Ag ((AZ 6 0 2012 3 _ rfl rfl rfl rfl).trans ((AZ 6 6 2013 1 _ rfl rfl rfl rfl).trans ((AZ 6 7 2014 1 _ rfl rfl rfl rfl).trans ((AZ 6 8 2015 1 _ rfl rfl rfl rfl).trans (sm [(1000, 2012), (1001, 2013), (1002, 2014), (1003, 2015)] [(6, oD (.ptr 6 0)), (7, iD v5.2)] [(6, .box [.own 1000, iC 0, iC 0, iC 0, iC 0, iC 0, .own 1001, .own 1002, .own 1003]), (1000, .vec 3 ((([] : List Al)).map Ae)), (1001, .vec 1 ((([] : List Int)).map Aa)), (1002, .vec 1 ((([] : List Int)).map Aa)), (1003, .vec 1 ((([] : List Int)).map Bd))] rfl rfl))))) (Ap ?_)
    exact ⟨⟨[_, _], ⟨.cellN _ _ _ _ _ _ _ rfl rfl GR DN rfl rfl (EU rfl), tm⟩, rfl⟩, ⟨rfl, rfl, rfl, rfl, tv⟩⟩
   ·refine An (wq rfl (qm rfl ?_))
    refine Be h fun v7 a7 h => Av [2016] (D3 N p2 v7 a7) UH rfl (qL Bq AO rfl (AG IV Om rfl (qz IV rfl (qs DN rfl (AJ (by kernel_rfl) ?_)))))
    refine AF h (fun v8 => mk [(6, oD (.ptr 6 0)), (11, oD (.ptr 11 0))] [(6, .box [.pure (.nil0), iC 0, iC 0, iC 0, iC 0, iC 0, .pure (.nil0), .pure (.nil0), .pure (.nil0)]), (11, .box [.own 2017, iC 0, iC v8, iC 0, iC 0, iC 0, .own 2018, .own 2019, .own 2020]), (2017, .vec 3 (v7.map Ae)), (2018, .vec 1 (v5.1.ff.map Aa)), (2019, .vec 1 (v5.1.fd.map Aa)), (2020, .vec 1 (v5.1.fg.map Bd))]) (fun j8 h => ?_) (fun v8 h => ?_)
    ·refine wq rfl (qm rfl (AT BH rfl (AL rfl (Ab ?_))))
     refine A0 h (fun h => ?_) fun h => ?_
     ·refine Aj Az rfl (qf Bv rfl (qs Dz rfl (Ab ?_)))
      exact sn [(2017, 2016), (2018, 2009), (2019, 2010), (2020, 2011)] h
     ·refine An ?_
      exact sn [(2017, 2016), (2018, 2009), (2019, 2010), (2020, 2011)] h
    ·refine wq rfl (qL GR DN rfl (qs DN rfl (qe rfl ?_)))
     obtain rfl := sj h
     refine Ag (sm [(1000, 2017), (1001, 2018), (1002, 2019), (1003, 2020)] [(6, oD (.ptr 6 0)), (7, iD 0)] [(6, .box [.own 1000, iC 0, iC v8, iC 0, iC 0, iC 0, .own 1001, .own 1002, .own 1003]), (1000, .vec 3 (v7.map Ae)), (1001, .vec 1 (v5.1.ff.map Aa)), (1002, .vec 1 (v5.1.fd.map Aa)), (1003, .vec 1 (v5.1.fg.map Bd))] rfl rfl) (Ap ?_)
     exact ⟨⟨[_, _], ⟨.cellN _ _ _ _ _ _ _ rfl rfl GR DN rfl rfl (EU rfl), tm⟩, rfl⟩, ⟨rfl, rfl, rfl, rfl, tv⟩⟩
theorem O7 (N : Nat) (p0 : Ad) (p1 : Ai) (p2 : List Al) (r : (List Ai) × Int × Int) (h : Ji N p0 p1 p2 = some r) : Ar zA 122 [.e (.agg (Aw p0)), .e (.agg (AR p1)), pD (.sl (p2.map Ae))] [(3, r.1.map CR)] (.tup [.one (.own 0), .one (iC r.2.1), .one (iC r.2.2)]) := by
 unfold Ji at h
 refine cw (n := 53) (rs := [.tmp 6, .tmp 7, .tmp 8]) Tryz.func122 fun w0 S0 => ?_
 refine wq rfl (qb rfl (qb rfl (qa rfl (qa rfl (qa rfl (Ab (wp rfl (qL Cp Cm rfl (qL Bq AO rfl ?_)))))))))
 refine Be h fun v1 a1 h => Av [] (Hi N p0 p1 v1 a1) Q4 rfl (qa rfl (Ab (wq rfl (qm rfl (Ba rfl (Ab ?_))))))
 refine A0 h (fun h => ?_) fun h => ?_
 ·refine wq rfl (qm rfl (qa rfl (qa rfl (qe rfl ?_))))
  obtain rfl := sj h
  refine Ag ((BF 6 2001 3 rfl rfl rfl).trans (sm [(1000, 2001)] [(6, oD (.own 1000)), (7, iD 0), (8, iD v1)] [(1000, .vec 3 ((([] : List Ai)).map CR))] rfl rfl)) (Ap ?_)
  exact ⟨⟨[_, _, _], ⟨.tmp _ _ rfl, ⟨.tmp _ _ rfl, tm⟩⟩, rfl⟩, ⟨rfl, tv⟩⟩
 ·refine An (wq rfl (qL Bq AO rfl ?_))
  refine Be h fun v3 a3 h => Av [2002, 2003, 2004] (JZ N p1 v3 a3) Tj rfl (Cs (AM 2002 _ _ rfl rfl) (Cs (AM 2003 _ _ rfl rfl) (Cs (AM 2004 _ _ rfl rfl) (FD FX AO C4 rfl (qa rfl (Ab (wp rfl (qm rfl (AT BH rfl (qm rfl (Ab ?_)))))))))))
  refine AS (L := GF N p0 p2) h (fun v4 => mk [(2, pD (.sl (p2.map Ae))), (3, oD (.ptr 3 0)), (10, oD (.own 2005)), (24, pD (.sl (p2.map Ae))), (25, iD ((p2.length : Int))), (26, iD v4.2)] [(3, .box (Aw p0)), (2005, .vec 3 (v4.1.map CR))]) (fun v5 => mk [(2, pD (.sl (p2.map Ae))), (10, oD (.own 2006))] [(2006, .vec 3 (v5.map CR))]) (fun _ _ => rfl) (sm [(2005, 23)] _ _ rfl rfl) (fun j4 n4 v4 h => ?_) (fun v5 s h hs => ?_)
  ·unfold GF at h
   refine wq rfl (A8 rfl (Ab (AH ?_)))
   refine A0 h (fun h => ?_) fun h => ?_
   ·refine An (AH (AI (wq rfl (qm rfl ?_))))
    refine Cn h fun v7 a7 b7 h => qi BH BG a7 (Ao b7) rfl (qK E5 BG rfl (qz Gd rfl (qa rfl (qs BG rfl (Ab (wq rfl (qL Cp Cm rfl (qw 2 rfl ?_))))))))
    refine Cn h fun v8 a8 b8 h => qI FX AO a8 (Ao b8) rfl (qJ Bq AO (Ao b8) rfl (qL E5 BG rfl ?_))
    refine Be h fun v9 a9 h => Av [2007, 2008, 2009] (K0 N p0 v8 v7 v9 a9) Uu rfl (qm rfl (qx rfl (qx rfl (qz C4 rfl (qs AO rfl (qa rfl (AJ (by kernel_rfl) (wp rfl (qm rfl (Ba rfl (Ab ?_)))))))))))
    refine A0 h (fun h => ?_) fun h => ?_
    ·refine wq rfl (qw 2 rfl (qa rfl (qa rfl (qe rfl ?_))))
     obtain rfl := sj h
     refine Ag ((BF 6 2010 3 rfl rfl rfl).trans (sm [(1000, 2010)] [(6, oD (.own 1000)), (7, iD v4.2), (8, iD v9.2)] [(1000, .vec 3 ((([] : List Ai)).map CR))] rfl rfl)) (Ap ?_)
     exact ⟨⟨[_, _, _], ⟨.tmp _ _ rfl, ⟨.tmp _ _ rfl, tm⟩⟩, rfl⟩, ⟨rfl, tv⟩⟩
    ·refine An (Aj Az rfl (qm rfl (qL Bq AO rfl (Cs (AM 2007 _ _ rfl rfl) (Cs (AM 2008 _ _ rfl rfl) (Cs (AM 2009 _ _ rfl rfl) (FD FX AO C4 rfl ?_)))))))
     refine Ge h fun c11 h => G1 (f := CR) FX FX AO Tr C4 c11 rfl (qa rfl (Ab (Aj Az rfl (A6 rfl (qm rfl (Ab ?_))))))
     exact sn [(2005, 48)] h
   ·refine Bg ?_
    exact sn [(2006, 2005)] h
  ·refine Ag hs (wq rfl (qw 2 rfl (AT BH rfl (qa rfl (qa rfl (qe rfl ?_))))))
   obtain rfl := sj h
   refine Ag (sm [(1000, 2006)] [(6, oD (.own 1000)), (7, iD ((p2.length : Int))), (8, iD 0)] [(1000, .vec 3 (v5.map CR))] rfl rfl) (Ap ?_)
   exact ⟨⟨[_, _, _], ⟨.tmp _ _ rfl, ⟨.tmp _ _ rfl, tm⟩⟩, rfl⟩, ⟨rfl, tv⟩⟩
theorem IT (N : Nat) (p0 : Ad) (p1 : List Al) (r : Bc × Int) (h : Ew N p0 p1 = some r) : Ar zA 101 [.e (.agg (Aw p0)), pD (.sl (p1.map Ae))] [(3, r.1.fK.map CR)] (.tup [.agg [sC (r.1.fb.fi.map Aa), sC (r.1.fb.fm.map Aa), sC (r.1.fb.fq.map Aa), sC (r.1.fb.fh.map Am), sC (r.1.fN.map Ae), .own 0], .one (iC r.2)]) := by
 unfold Ew at h
 refine cw (n := 41) (rs := [.cell 4 187, .tmp 5]) Tryz.func101 fun w0 S0 => ?_
 refine wq rfl (qb rfl (qz N9 rfl (qa rfl (Ab (wp rfl (qL Cp Cm rfl ?_))))))
 refine Be h fun v1 a1 h => Av [] (D1 N p0 v1 a1) Sf rfl (qa rfl (Ab (wq rfl (qm rfl (Ba rfl (Ab ?_))))))
 refine A0 h (fun h => ?_) fun h => ?_
 ·refine wq rfl (AG N9 QS rfl (qm rfl (qs J2 rfl (qe rfl ?_))))
  obtain rfl := sj h
  refine Ag ((AZ 4 5 2001 3 _ rfl rfl rfl rfl).trans ((Db 4 _ rfl).trans (sm [(1000, 2001)] [(4, oD (.ptr 4 0)), (5, iD v1)] [(4, .box [sC ((([] : List Int)).map Aa), sC ((([] : List Int)).map Aa), sC ((([] : List Int)).map Aa), sC ((([] : List A9)).map Am), sC ((([] : List Al)).map Ae), .own 1000]), (1000, .vec 3 ((([] : List Ai)).map CR))] rfl rfl))) (Ap ?_)
  exact ⟨⟨[_, _], ⟨.cellN _ _ _ _ _ _ _ rfl rfl Nk J2 rfl rfl (EU rfl), tm⟩, rfl⟩, ⟨rfl, tv⟩⟩
 ·refine An (wp rfl (qL Cp Cm rfl (qm rfl ?_)))
  refine Be h fun v3 a3 h => Av [] (KT N p0 p1 v3 a3) UR rfl (B2 rfl (Ab ?_))
  refine A0 h (fun h => ?_) fun h => ?_
  ·refine wq rfl (AG N9 QS rfl (qs J2 rfl (qe rfl ?_)))
   obtain rfl := sj h
   refine Ag ((AZ 4 5 2002 3 _ rfl rfl rfl rfl).trans ((Db 4 _ rfl).trans (sm [(1000, 2002)] [(4, oD (.ptr 4 0)), (5, iD 13)] [(4, .box [sC ((([] : List Int)).map Aa), sC ((([] : List Int)).map Aa), sC ((([] : List Int)).map Aa), sC ((([] : List A9)).map Am), sC ((([] : List Al)).map Ae), .own 1000]), (1000, .vec 3 ((([] : List Ai)).map CR))] rfl rfl))) (Ap ?_)
   exact ⟨⟨[_, _], ⟨.cellN _ _ _ _ _ _ _ rfl rfl Nk J2 rfl rfl (EU rfl), tm⟩, rfl⟩, ⟨rfl, tv⟩⟩
  ·refine An (wq rfl (qL Cp Cm rfl ?_))
   refine Be h fun v5 a5 h => Av [2003, 2004, 2005] (H8 N p0 v5 a5) R7 rfl (qm rfl (qx rfl (qx rfl (qz C4 rfl (qs AO rfl (qa rfl (Ab (wq rfl (qL Cp Cm rfl (qL Bq AO rfl (qm rfl (Cs (AM 2003 _ _ rfl rfl) (Cs (AM 2004 _ _ rfl rfl) (Cs (AM 2005 _ _ rfl rfl) ?_))))))))))))))
   refine Be h fun v6 a6 h => Av [2006] (O7 N p0 v5.1 p1 v6 a6) U0 rfl (qm rfl (qx rfl (qx rfl (qx rfl (qa rfl (qa rfl (qa rfl (Ab (wq rfl (qL Cp Cm rfl (qw 2 rfl (AG N9 QS rfl (qm rfl (qs J2 rfl (qe rfl ?_)))))))))))))))
   obtain rfl := sj h
   refine Ag (sm [(1000, 2006)] [(4, oD (.ptr 4 0)), (5, iD v6.2.2)] [(4, .box [sC (p0.fi.map Aa), sC (p0.fm.map Aa), sC (p0.fq.map Aa), sC (p0.fh.map Am), sC (p1.map Ae), .own 1000]), (1000, .vec 3 (v6.1.map CR))] rfl rfl) (Ap ?_)
   exact ⟨⟨[_, _], ⟨.cellN _ _ _ _ _ _ _ rfl rfl Nk J2 rfl rfl (EU rfl), tm⟩, rfl⟩, ⟨rfl, tv⟩⟩
theorem E4 (N : Nat) (p0 : Bc) (p1 : Int) (r : Ai) (h : Ci N p0 p1 = some r) : Ar zA 105 [.e (.agg (Cz p0)), iD p1] [(1, r.ff.map Aa), (1, r.fd.map Aa), (1, r.fg.map Bd)] (.e (.agg [.own 0, .own 1, .own 2])) := by
 unfold Ci at h
 refine cw (n := 27) (rs := [.cell 4 52]) Tryz.func105 fun w0 S0 => ?_
 refine wq rfl (qb rfl (qz C4 rfl (Ab (wq rfl (qf Q0 rfl (qL Cp Cm rfl (qf Jw rfl (ql On rfl (qm rfl (A6 rfl ?_))))))))))
 refine Cn h fun v1 a1 b1 h => qi FX AO a1 (Ao b1) rfl (qK Bq AO rfl (qf KK rfl (ql Kk rfl (qm rfl ?_))))
 refine Cn h fun v2 a2 b2 h => qi BH BG a2 (Ao b2) rfl (qg CB rfl (qk Bs rfl (AG Gd Pw rfl ?_)))
 refine Be h fun v3 a3 h => Av [2001, 2002, 2003] (Gt N ((Ad.mk p0.fb.fi p0.fb.fm p0.fb.fq p0.fb.fh)) v1 ((Al.mk 4 v2.fy 0)) v3 a3) QD rfl (qm rfl (qx rfl (qx rfl (qz C4 rfl (qs AO rfl (qa rfl (AJ (by kernel_rfl) (wq rfl (qL Bq AO rfl (qs AO rfl (Ab ?_)))))))))))
 obtain rfl := sj h
 refine Ag (sm [(1000, 2001), (1001, 2002), (1002, 2003)] [(4, oD (.ptr 4 0))] [(4, .box [.own 1000, .own 1001, .own 1002]), (1000, .vec 1 (v3.1.ff.map Aa)), (1001, .vec 1 (v3.1.fd.map Aa)), (1002, .vec 1 (v3.1.fg.map Bd))] rfl rfl) (Ap ?_)
 exact ⟨⟨[_], ⟨.cellN _ _ _ _ _ _ _ rfl rfl Bq AO rfl rfl (EU rfl), tv⟩, rfl⟩, ⟨rfl, rfl, rfl, tv⟩⟩
theorem Hm (N : Nat) (p0 : Bc) (p1 : Int) (p2 : Int) (r : Ai × Int) (h : C8 N p0 p1 p2 = some r) : Ar zA 102 [.e (.agg (Cz p0)), iD p1, iD p2] [] (.tup [.agg (AR r.1), .one (iC r.2)]) := by
 unfold C8 at h
 refine cw (n := 82) (rs := [.cell 6 52, .tmp 7]) Tryz.func102 fun w0 S0 => ?_
 refine wq rfl (qb rfl (qz C4 rfl (qa rfl (Ab (AH ?_)))))
 refine AF h (fun v1 => mk [(1, iD p1), (2, iD p2), (3, oD (.ptr 3 0)), (6, oD (.ptr 6 0)), (26, bD v1)] [(3, .box (Cz p0)), (6, .box [.pure (.nil0), .pure (.nil0), .pure (.nil0)])]) (fun j1 h => ?_) (fun v1 h => ?_)
 ·refine Aj Az rfl (qm rfl (A8 rfl (qm rfl ?_)))
  refine Dv 10 h rfl (fun h => ?_) fun h => ?_
  ·refine qw 5 rfl (qp rfl (qw 9 rfl (qp rfl (Ab ?_))))
   exact sn [] h
  ·refine qm rfl (qf KK rfl (ql Kk rfl (AT BH rfl (EA rfl (qp rfl (qm rfl ?_))))))
   refine Dv 17 h rfl (fun h => ?_) fun h => ?_
   ·refine qw 8 rfl (qp rfl (Ab ?_))
    exact sn [] h
   ·refine qm rfl (qf KK rfl (ql Kk rfl (AT BH rfl (AL rfl (qm rfl (AL rfl ?_))))))
    refine F6 (.g rfl rfl) rfl rfl (Rb _ _ _ _ WT) rfl ?_
    refine qp rfl (Ab ?_)
    exact sn [] h
 ·refine A0 h (fun h => ?_) fun h => ?_
  ·refine wq rfl (AG C4 Jo rfl (qs AO rfl (qe rfl ?_)))
   obtain rfl := sj h
   refine Ag ((Db 6 _ rfl).trans (sm [] [(6, oD (.ptr 6 0)), (7, iD 7)] [(6, .box [sC ((([] : List Int)).map Aa), sC ((([] : List Int)).map Aa), sC ((([] : List Int)).map Bd)])] rfl rfl)) (Ap ?_)
   exact ⟨⟨[_, _], ⟨.cellN _ _ _ _ _ _ _ rfl rfl Bq AO rfl rfl (EU rfl), tm⟩, rfl⟩, tv⟩
  ·refine An (AH ?_)
   refine AF h (fun v5 => mk [(1, iD p1), (2, iD p2), (3, oD (.ptr 3 0)), (6, oD (.ptr 6 0)), (33, bD v5)] [(3, .box (Cz p0)), (6, .box [.pure (.nil0), .pure (.nil0), .pure (.nil0)])]) (fun j5 h => ?_) (fun v5 h => ?_)
   ·refine Aj Az rfl (qm rfl (AL rfl (qm rfl ?_)))
    refine Dv 30 h rfl (fun h => ?_) fun h => ?_
    ·refine qw 2 rfl (qp rfl (Ab ?_))
     exact sn [] h
    ·refine qm rfl (AL rfl (qp rfl (Ab ?_)))
     exact sn [] h
   ·refine A0 h (fun h => ?_) fun h => ?_
    ·refine wq rfl (qf Jw rfl (ql On rfl (qm rfl ?_)))
     refine Cn h fun v8 a8 b8 h => qi FX AO a8 (Ao b8) rfl (qK Bq AO rfl (qs AO rfl (qe rfl ?_)))
     obtain rfl := sj h
     refine Ag (sm [] [(6, oD (.ptr 6 0)), (7, iD 0)] [(6, .box (AR v8))] rfl rfl) (Ap ?_)
     exact ⟨⟨[_, _], ⟨.cellN _ _ _ _ _ _ _ rfl rfl Bq AO rfl rfl (EU rfl), tm⟩, rfl⟩, tv⟩
    ·refine An ?_
     refine AF h (fun v9 => mk [(6, oD (.ptr 6 0))] [(6, .box [.pure (.nil0), .pure (.nil0), .pure (.nil0)])]) (fun j9 h => ?_) (fun v9 h => ?_)
     ·refine wq rfl (qf KK rfl (ql Kk rfl (qm rfl ?_)))
      refine Cn h fun v10 a10 b10 h => qi BH BG a10 (Ao b10) rfl (qg DJ rfl (qk Bs rfl (Ab (AI (wq rfl (AL rfl (qe rfl ?_)))))))
      refine A0 h (fun h => ?_) fun h => ?_
      ·refine wq rfl (qm rfl (Ab (AI ?_)))
       refine AF h (fun v12 => mk [(1, iD p1), (3, oD (.ptr 3 0)), (6, oD (.ptr 6 0)), (47, iD p2), (48, bD v12)] [(3, .box (Cz p0)), (6, .box [.pure (.nil0), .pure (.nil0), .pure (.nil0)])]) (fun j12 h => ?_) (fun v12 h => ?_)
       ·refine wq rfl (AL rfl (qe rfl ?_))
        refine A0 h (fun h => ?_) fun h => ?_
        ·refine An ?_
         exact sn [] h
        ·refine wq rfl (AL rfl (qe rfl ?_))
         refine A0 h (fun h => ?_) fun h => ?_
         ·refine An ?_
          exact sn [] h
         ·refine Aj Az rfl (AL rfl (qe rfl ?_))
          exact sn [] h
       ·refine A0 h (fun h => ?_) fun h => ?_
        ·refine wq rfl (qf Jw rfl (ql On rfl (qm rfl (A6 rfl ?_))))
         refine Cn h fun v16 a16 b16 h => qi FX AO a16 (Ao b16) rfl (qK Bq AO rfl (qs AO rfl (qe rfl ?_)))
         obtain rfl := sj h
         refine Ag (sm [] [(6, oD (.ptr 6 0)), (7, iD 0)] [(6, .box (AR v16))] rfl rfl) (Ap ?_)
         exact ⟨⟨[_, _], ⟨.cellN _ _ _ _ _ _ _ rfl rfl Bq AO rfl rfl (EU rfl), tm⟩, rfl⟩, tv⟩
        ·refine wq rfl (AL rfl (qe rfl ?_))
         refine A0 h (fun h => ?_) fun h => ?_
         ·refine wq rfl (qL Nk J2 rfl (qm rfl ?_))
          refine Be h fun v18 a18 h => Av [2001, 2002, 2003] (E4 N ((Bc.mk ((Ad.mk p0.fb.fi p0.fb.fm p0.fb.fq p0.fb.fh)) p0.fN p0.fK)) p1 v18 a18) S5 rfl (qs AO rfl (qe rfl ?_))
          obtain rfl := sj h
          refine Ag ((AM 2001 _ _ rfl rfl).trans ((AM 2002 _ _ rfl rfl).trans ((AM 2003 _ _ rfl rfl).trans (sm [] [(6, oD (.ptr 6 0)), (7, iD 0)] [(6, .box (AR v18))] rfl rfl)))) (Ap ?_)
          exact ⟨⟨[_, _], ⟨.cellN _ _ _ _ _ _ _ rfl rfl Bq AO rfl rfl (EU rfl), tm⟩, rfl⟩, tv⟩
         ·refine An ?_
          exact sn [] h
      ·refine wq rfl (AL rfl (qe rfl ?_))
       refine A0 h (fun h => ?_) fun h => ?_
       ·refine wq rfl (qm rfl (AL rfl (Ab ?_)))
        refine A0 h (fun h => ?_) fun h => ?_
        ·refine wq rfl (qf Jw rfl (ql On rfl (qm rfl ?_)))
         refine Cn h fun v21 a21 b21 h => qi FX AO a21 (Ao b21) rfl (qK Bq AO rfl (qs AO rfl (qe rfl ?_)))
         obtain rfl := sj h
         refine Ag (sm [] [(6, oD (.ptr 6 0)), (7, iD 0)] [(6, .box (AR v21))] rfl rfl) (Ap ?_)
         exact ⟨⟨[_, _], ⟨.cellN _ _ _ _ _ _ _ rfl rfl Bq AO rfl rfl (EU rfl), tm⟩, rfl⟩, tv⟩
        ·refine An ?_
         exact sn [] h
       ·refine wq rfl (AL rfl (qe rfl ?_))
        refine A0 h (fun h => ?_) fun h => ?_
        ·refine wq rfl (qm rfl (AL rfl (Ab ?_)))
         refine A0 h (fun h => ?_) fun h => ?_
         ·refine wq rfl (qf Jw rfl (ql On rfl (qm rfl ?_)))
          refine Cn h fun v24 a24 b24 h => qi FX AO a24 (Ao b24) rfl (qK Bq AO rfl (qs AO rfl (qe rfl ?_)))
          obtain rfl := sj h
          refine Ag (sm [] [(6, oD (.ptr 6 0)), (7, iD 0)] [(6, .box (AR v24))] rfl rfl) (Ap ?_)
          exact ⟨⟨[_, _], ⟨.cellN _ _ _ _ _ _ _ rfl rfl Bq AO rfl rfl (EU rfl), tm⟩, rfl⟩, tv⟩
         ·refine An ?_
          exact sn [] h
        ·refine An ?_
         exact sn [] h
     ·refine wq rfl (AG C4 Jo rfl (qs AO rfl (qe rfl ?_)))
      obtain rfl := sj h
      refine Ag ((Db 6 _ rfl).trans (sm [] [(6, oD (.ptr 6 0)), (7, iD 7)] [(6, .box [sC ((([] : List Int)).map Aa), sC ((([] : List Int)).map Aa), sC ((([] : List Int)).map Bd)])] rfl rfl)) (Ap ?_)
      exact ⟨⟨[_, _], ⟨.cellN _ _ _ _ _ _ _ rfl rfl Bq AO rfl rfl (EU rfl), tm⟩, rfl⟩, tv⟩
theorem FT (N : Nat) (p0 : List Int) (p1 : Int) (r : Int) (h : Di N p0 p1 = some r) : Ar zA 110 [pD (.sl (p0.map Aa)), iD p1] [] (iD r) := by
 unfold Di at h
 refine cw (n := 21) (rs := [.tmp 4]) Tryz.func110 fun w0 S0 => ?_
 refine wq rfl (qa rfl (Ab (wq rfl (qa rfl (Ab (wp rfl (qw 2 rfl ?_)))))))
 refine Ge h fun c1 h => PQ (.p rfl) rfl AP Dz (KN (f := Aa) (n := 1) (fun _ => rfl) _) (.none _) (.some _ _ _ _ c1.1) tv ⟨rfl, tv⟩ (by have := c1.2.1; (try simp only [zJ]); omega) (by have := c1.2.2; (try simp only [zJ]); omega) (Oa Aa p0 _ _ ((p1).toNat - 0) rfl) ?_
 refine AT AP rfl (qm rfl (Ab ?_))
 refine AS (L := Dt N p0 p1) h (fun v2 => mk [(5, iD v2.1), (10, pD (.sl ((((p0.drop 0).take ((p1).toNat - 0))).map Aa))), (11, iD (((((p0.drop 0).take ((p1).toNat - 0))).length : Int))), (12, iD v2.2)] []) (fun v3 => mk [(5, iD v3)] []) (fun _ _ => rfl) (sm [] _ _ rfl rfl) (fun j2 n2 v2 h => ?_) (fun v3 s h hs => ?_)
 ·unfold Dt at h
  refine wq rfl (A8 rfl (Ab (AH ?_)))
  refine A0 h (fun h => ?_) fun h => ?_
  ·refine An (AH (AI (wq rfl ?_)))
   refine Cn h fun v5 a5 b5 h => qi AP Dz a5 (Ao b5) rfl (qk Bs rfl (qa rfl (Ab (Aj Az rfl (qw 2 rfl (A6 rfl (qa rfl (Ab (Aj Az rfl (A6 rfl (qm rfl (Ab ?_))))))))))))
   exact sn [] h
  ·refine Bg ?_
   exact sn [] h
 ·refine Ag hs (wq rfl (qm rfl (qe rfl ?_)))
  obtain rfl := sj h
  refine Ag (sm [] [(4, iD v3)] [] rfl rfl) (Ap ?_)
  exact ⟨⟨[_], tm, rfl⟩, tv⟩
theorem Im (N : Nat) (p0 : List Int) (p1 : Af) (r : Bool) (h : DQ N p0 p1 = some r) : Ar zA 103 [pD (.sl (p0.map Aa)), .e (.agg (Bb p1))] [] (bD r) := by
 unfold DQ at h
 refine cw (n := 49) (rs := [.tmp 4]) Tryz.func103 fun w0 S0 => ?_
 refine wq rfl (qb rfl (qa rfl (Ab (wp rfl (qf Bv rfl (ql Bs rfl (Ab (AI ?_))))))))
 refine AF h (fun v1 => mk [(0, pD (.sl (p0.map Aa))), (3, oD (.ptr 3 0)), (9, bD v1)] [(3, .box (Bb p1))]) (fun j1 h => ?_) (fun v1 h => ?_)
 ·refine wq rfl (AL rfl (qe rfl ?_))
  refine A0 h (fun h => ?_) fun h => ?_
  ·refine An ?_
   exact sn [] h
  ·refine wq rfl (AL rfl (qe rfl ?_))
   refine A0 h (fun h => ?_) fun h => ?_
   ·refine An ?_
    exact sn [] h
   ·refine Aj Az rfl (AL rfl (qe rfl ?_))
    exact sn [] h
 ·refine A0 h (fun h => ?_) fun h => ?_
  ·refine wq rfl (qf FK rfl (ql Kk rfl (qf Dk rfl (ql Bs rfl ?_))))
   refine Cn h fun v5 a5 b5 h => qi BH BG a5 (Ao b5) rfl (qK E5 BG rfl (qz Gd rfl (qs BG rfl (Ab (wq rfl (qm rfl (qf CB rfl (ql Bs rfl ?_))))))))
   refine Be h fun v6 a6 h => Av [] (FT N p0 v5.fy v6 a6) RC rfl (qa rfl (Ab (wp rfl (qf DJ rfl (ql Bs rfl (AL rfl (Ab ?_)))))))
   refine A0 h (fun h => ?_) fun h => ?_
   ·refine AF h (fun v8 => mk [(4, bD v8)] []) (fun j8 h => ?_) (fun v8 h => ?_)
    ·refine Aj Az rfl (qf Ep rfl (ql Bs rfl (qm rfl (EC rfl (qm rfl ?_)))))
     refine Dv 30 h rfl (fun h => ?_) fun h => ?_
     ·refine qf Ep rfl (ql Bs rfl (qw 2 rfl (qf CB rfl (ql Bs rfl ?_))))
      refine Cn h fun v10 a10 b10 h => qi AP Dz a10 (Ao b10) rfl (qk Bs rfl (A6 rfl (A8 rfl (qp rfl (qa rfl (AJ (by kernel_rfl) ?_))))))
      exact sn [] h
     ·refine qw 10 rfl (qp rfl (qa rfl (AJ (by kernel_rfl) ?_)))
      exact sn [] h
    ·obtain rfl := sj h
     refine Ag (sm [] [(4, bD v8)] [] rfl rfl) (Ap ?_)
     exact ⟨⟨[_], tm, rfl⟩, tv⟩
   ·refine An (wq rfl (qf Ep rfl (ql Bs rfl (qm rfl (AL rfl (qe rfl ?_))))))
    obtain rfl := sj h
    refine Ag (sm [] [(4, bD ((p1.fr == v6)))] [] rfl rfl) (Ap ?_)
    exact ⟨⟨[_], tm, rfl⟩, tv⟩
  ·refine An (wq rfl (qf Ep rfl (ql Bs rfl (AL rfl (qe rfl ?_)))))
   obtain rfl := sj h
   refine Ag (sm [] [(4, bD ((p1.fr == 0)))] [] rfl rfl) (Ap ?_)
   exact ⟨⟨[_], tm, rfl⟩, tv⟩
theorem HQ (N : Nat) (p0 : Int) (r : Int) (h : Eo N p0 = some r) : Ar zA 104 [iD p0] [] (iD r) := by
 unfold Eo at h
 refine cw (n := 11) (rs := [.tmp 2]) Tryz.func104 fun w0 S0 => ?_
 refine wq rfl (qa rfl (Ab (wp rfl (qm rfl (Ab (AI ?_))))))
 refine AF h (fun v1 => mk [(3, iD p0), (4, bD v1)] []) (fun j1 h => ?_) (fun v1 h => ?_)
 ·refine wq rfl (AL rfl (qe rfl ?_))
  refine A0 h (fun h => ?_) fun h => ?_
  ·refine An ?_
   exact sn [] h
  ·refine wq rfl (AL rfl (qe rfl ?_))
   refine A0 h (fun h => ?_) fun h => ?_
   ·refine An ?_
    exact sn [] h
   ·refine Aj Az rfl (AL rfl (qe rfl ?_))
    exact sn [] h
 ·refine A0 h (fun h => ?_) fun h => ?_
  ·refine wq rfl (qe rfl ?_)
   obtain rfl := sj h
   refine Ag (sm [] [(2, iD 1)] [] rfl rfl) (Ap ?_)
   exact ⟨⟨[_], tm, rfl⟩, tv⟩
  ·refine AF h (fun v5 => mk [(8, bD v5)] []) (fun j5 h => ?_) (fun v5 h => ?_)
   ·refine wq rfl (AL rfl (qe rfl ?_))
    refine A0 h (fun h => ?_) fun h => ?_
    ·refine An ?_
     exact sn [] h
    ·refine Aj Az rfl (AL rfl (qe rfl ?_))
     exact sn [] h
   ·refine A0 h (fun h => ?_) fun h => ?_
    ·refine wq rfl (qe rfl ?_)
     obtain rfl := sj h
     refine Ag (sm [] [(2, iD 2)] [] rfl rfl) (Ap ?_)
     exact ⟨⟨[_], tm, rfl⟩, tv⟩
    ·refine An (wq rfl (qe rfl ?_))
     obtain rfl := sj h
     refine Ag (sm [] [(2, iD 0)] [] rfl rfl) (Ap ?_)
     exact ⟨⟨[_], tm, rfl⟩, tv⟩
theorem I8 (N : Nat) (p0 : Int) (r : Bool) (h : Fr N p0 = some r) : Ar zA 112 [iD p0] [] (bD r) := by
 unfold Fr at h
 refine cw (n := 6) (rs := [.tmp 2]) Tryz.func112 fun w0 S0 => ?_
 refine wq rfl (qa rfl (Ab (wq rfl (qw 2 rfl (Ba rfl (qe rfl ?_))))))
 obtain rfl := sj h
 refine Ag (sm [] [(2, bD ((p0 != p0)))] [] rfl rfl) (Ap ?_)
 exact ⟨⟨[_], tm, rfl⟩, tv⟩
theorem Kx (N : Nat) (p0 : Int) (p1 : Int) (r : Int) (h : FW N p0 p1 = some r) : Ar zA 87 [iD p0, iD p1] [] (iD r) := by
 unfold FW at h
 refine cw (n := 20) (rs := [.tmp 4]) Tryz.func87 fun w0 S0 => ?_
 refine wq rfl (qa rfl (Ab (wq rfl (qm rfl ?_))))
 refine Be h fun v1 a1 h => Av [] (I8 N p0 v1 a1) S6 rfl (qa rfl (Ab (wq rfl (qm rfl ?_))))
 refine Be h fun v2 a2 h => Av [] (I8 N p1 v2 a2) S6 rfl (qa rfl (Ab (wp rfl (qm rfl (Ab ?_)))))
 refine A0 h (fun h => ?_) fun h => ?_
 ·refine wp rfl (qm rfl (Ab ?_))
  refine A0 h (fun h => ?_) fun h => ?_
  ·refine wq rfl (qe rfl ?_)
   obtain rfl := sj h
   refine Ag (sm [] [(4, iD 0)] [] rfl rfl) (Ap ?_)
   exact ⟨⟨[_], tm, rfl⟩, tv⟩
  ·refine An (wq rfl (qe rfl ?_))
   obtain rfl := sj h
   refine Ag (sm [] [(4, iD ((-1)))] [] rfl rfl) (Ap ?_)
   exact ⟨⟨[_], tm, rfl⟩, tv⟩
 ·refine An (wp rfl (qm rfl (Ab ?_)))
  refine A0 h (fun h => ?_) fun h => ?_
  ·refine wq rfl (qe rfl ?_)
   obtain rfl := sj h
   refine Ag (sm [] [(4, iD 1)] [] rfl rfl) (Ap ?_)
   exact ⟨⟨[_], tm, rfl⟩, tv⟩
  ·refine An (wp rfl (qw 2 rfl (A8 rfl (Ab ?_))))
   refine A0 h (fun h => ?_) fun h => ?_
   ·refine wq rfl (qe rfl ?_)
    obtain rfl := sj h
    refine Ag (sm [] [(4, iD ((-1)))] [] rfl rfl) (Ap ?_)
    exact ⟨⟨[_], tm, rfl⟩, tv⟩
   ·refine An (wp rfl (qw 2 rfl (EA rfl (Ab ?_))))
    refine A0 h (fun h => ?_) fun h => ?_
    ·refine wq rfl (qe rfl ?_)
     obtain rfl := sj h
     refine Ag (sm [] [(4, iD 1)] [] rfl rfl) (Ap ?_)
     exact ⟨⟨[_], tm, rfl⟩, tv⟩
    ·refine An (wq rfl (qe rfl ?_))
     obtain rfl := sj h
     refine Ag (sm [] [(4, iD 0)] [] rfl rfl) (Ap ?_)
     exact ⟨⟨[_], tm, rfl⟩, tv⟩
theorem FH (N : Nat) (p0 : List Int) (p1 : List Int) (r : Int) (h : CO N p0 p1 = some r) : Ar zA 58 [pD (.sl (p0.map Aa)), pD (.sl (p1.map Aa))] [] (iD r) := by
 unfold CO at h
 refine cw (n := 36) (rs := [.tmp 4]) Tryz.func58 fun w0 S0 => ?_
 refine wq rfl (qa rfl (Ab (wp rfl (qm rfl (AT AP rfl (qm rfl (Ab ?_)))))))
 refine AS (L := Cj N p0 p1) h (fun v1 => mk [(0, pD (.sl (p0.map Aa))), (1, pD (.sl (p1.map Aa))), (9, pD (.sl (p0.map Aa))), (10, iD ((p0.length : Int))), (11, iD v1)] []) (fun v2 => mk [(0, pD (.sl (p0.map Aa))), (1, pD (.sl (p1.map Aa)))] []) (fun _ _ => rfl) (sm [] _ _ rfl rfl) (fun j1 n1 v1 h => ?_) (fun v2 s h hs => ?_)
 ·unfold Cj at h
  refine wq rfl (A8 rfl (Ab (AH ?_)))
  refine A0 h (fun h => ?_) fun h => ?_
  ·refine An (AH (AI (wq rfl (qm rfl ?_))))
   refine Cn h fun v4 a4 b4 h => qi AP Dz a4 (Ao b4) rfl (qk Bs rfl (qa rfl (qa rfl (Ab (wp rfl (qw 2 rfl (AT AP rfl (EC rfl (Ab ?_)))))))))
   refine A0 h (fun h => ?_) fun h => ?_
   ·refine wq rfl (qe rfl ?_)
    obtain rfl := sj h
    refine Ag (sm [] [(4, iD 1)] [] rfl rfl) (Ap ?_)
    exact ⟨⟨[_], tm, rfl⟩, tv⟩
   ·refine An (wq rfl (qw 2 rfl ?_))
    refine Cn h fun v6 a6 b6 h => qi AP Dz a6 (Ao b6) rfl (qk Bs rfl (qa rfl (Ab (wq rfl (qw 2 rfl ?_)))))
    refine Be h fun v7 a7 h => Av [] (Kx N v4 v6 v7 a7) Wv rfl (qa rfl (Ab (wq rfl (qm rfl (Ba rfl (Ab ?_))))))
    refine A0 h (fun h => ?_) fun h => ?_
    ·refine wq rfl (qm rfl (qe rfl ?_))
     obtain rfl := sj h
     refine Ag (sm [] [(4, iD v7)] [] rfl rfl) (Ap ?_)
     exact ⟨⟨[_], tm, rfl⟩, tv⟩
    ·refine An (Aj Az rfl (A6 rfl (qm rfl (Ab ?_))))
     exact sn [] h
  ·refine Bg ?_
   exact sn [] h
 ·refine Ag hs (wp rfl (qm rfl (AT AP rfl (qm rfl (AT AP rfl (A8 rfl (Ab ?_)))))))
  refine A0 h (fun h => ?_) fun h => ?_
  ·refine wq rfl (qe rfl ?_)
   obtain rfl := sj h
   refine Ag (sm [] [(4, iD ((-1)))] [] rfl rfl) (Ap ?_)
   exact ⟨⟨[_], tm, rfl⟩, tv⟩
  ·refine An (wq rfl (qe rfl ?_))
   obtain rfl := sj h
   refine Ag (sm [] [(4, iD 0)] [] rfl rfl) (Ap ?_)
   exact ⟨⟨[_], tm, rfl⟩, tv⟩
theorem Ht (N : Nat) (p0 : Int) (r : Bool) (h : D5 N p0 = some r) : Ar zA 113 [pD (.val (.int .u8 p0))] [] (bD r) := by
 unfold D5 at h
 refine cw (n := 6) (rs := [.tmp 2]) Tryz.func113 fun w0 S0 => ?_
 refine wq rfl (qa rfl (Ab (wq rfl (qw 2 rfl (Ba rfl (qe rfl ?_))))))
 obtain rfl := sj h
 refine Ag (sm [] [(2, bD ((p0 != p0)))] [] rfl rfl) (Ap ?_)
 exact ⟨⟨[_], tm, rfl⟩, tv⟩
theorem Jc (N : Nat) (p0 : Int) (p1 : Int) (r : Int) (h : EJ N p0 p1 = some r) : Ar zA 88 [pD (.val (.int .u8 p0)), pD (.val (.int .u8 p1))] [] (iD r) := by
 unfold EJ at h
 refine cw (n := 20) (rs := [.tmp 4]) Tryz.func88 fun w0 S0 => ?_
 refine wq rfl (qa rfl (Ab (wq rfl (qm rfl ?_))))
 refine Be h fun v1 a1 h => Av [] (Ht N p0 v1 a1) Ta rfl (qa rfl (Ab (wq rfl (qm rfl ?_))))
 refine Be h fun v2 a2 h => Av [] (Ht N p1 v2 a2) Ta rfl (qa rfl (Ab (wp rfl (qm rfl (Ab ?_)))))
 refine A0 h (fun h => ?_) fun h => ?_
 ·refine wp rfl (qm rfl (Ab ?_))
  refine A0 h (fun h => ?_) fun h => ?_
  ·refine wq rfl (qe rfl ?_)
   obtain rfl := sj h
   refine Ag (sm [] [(4, iD 0)] [] rfl rfl) (Ap ?_)
   exact ⟨⟨[_], tm, rfl⟩, tv⟩
  ·refine An (wq rfl (qe rfl ?_))
   obtain rfl := sj h
   refine Ag (sm [] [(4, iD ((-1)))] [] rfl rfl) (Ap ?_)
   exact ⟨⟨[_], tm, rfl⟩, tv⟩
 ·refine An (wp rfl (qm rfl (Ab ?_)))
  refine A0 h (fun h => ?_) fun h => ?_
  ·refine wq rfl (qe rfl ?_)
   obtain rfl := sj h
   refine Ag (sm [] [(4, iD 1)] [] rfl rfl) (Ap ?_)
   exact ⟨⟨[_], tm, rfl⟩, tv⟩
  ·refine An (wp rfl (qw 2 rfl (A8 rfl (Ab ?_))))
   refine A0 h (fun h => ?_) fun h => ?_
   ·refine wq rfl (qe rfl ?_)
    obtain rfl := sj h
    refine Ag (sm [] [(4, iD ((-1)))] [] rfl rfl) (Ap ?_)
    exact ⟨⟨[_], tm, rfl⟩, tv⟩
   ·refine An (wp rfl (qw 2 rfl (EA rfl (Ab ?_))))
    refine A0 h (fun h => ?_) fun h => ?_
    ·refine wq rfl (qe rfl ?_)
     obtain rfl := sj h
     refine Ag (sm [] [(4, iD 1)] [] rfl rfl) (Ap ?_)
     exact ⟨⟨[_], tm, rfl⟩, tv⟩
    ·refine An (wq rfl (qe rfl ?_))
     obtain rfl := sj h
     refine Ag (sm [] [(4, iD 0)] [] rfl rfl) (Ap ?_)
     exact ⟨⟨[_], tm, rfl⟩, tv⟩
theorem Gj (N : Nat) (p0 : List Int) (p1 : List Int) (r : Int) (h : Cw N p0 p1 = some r) : Ar zA 59 [pD (.sl (p0.map Bd)), pD (.sl (p1.map Bd))] [] (iD r) := by
 unfold Cw at h
 refine cw (n := 36) (rs := [.tmp 4]) Tryz.func59 fun w0 S0 => ?_
 refine wq rfl (qa rfl (Ab (wp rfl (qm rfl (AT EY rfl (qm rfl (Ab ?_)))))))
 refine AS (L := BB N p0 p1) h (fun v1 => mk [(0, pD (.sl (p0.map Bd))), (1, pD (.sl (p1.map Bd))), (9, pD (.sl (p0.map Bd))), (10, iD ((p0.length : Int))), (11, iD v1)] []) (fun v2 => mk [(0, pD (.sl (p0.map Bd))), (1, pD (.sl (p1.map Bd)))] []) (fun _ _ => rfl) (sm [] _ _ rfl rfl) (fun j1 n1 v1 h => ?_) (fun v2 s h hs => ?_)
 ·unfold BB at h
  refine wq rfl (A8 rfl (Ab (AH ?_)))
  refine A0 h (fun h => ?_) fun h => ?_
  ·refine An (AH (AI (wq rfl (qm rfl ?_))))
   refine Cn h fun v4 a4 b4 h => qi EY GK a4 (Ao b4) rfl (qk KC rfl (qa rfl (qa rfl (Ab (wp rfl (qw 2 rfl (AT EY rfl (EC rfl (Ab ?_)))))))))
   refine A0 h (fun h => ?_) fun h => ?_
   ·refine wq rfl (qe rfl ?_)
    obtain rfl := sj h
    refine Ag (sm [] [(4, iD 1)] [] rfl rfl) (Ap ?_)
    exact ⟨⟨[_], tm, rfl⟩, tv⟩
   ·refine An (wq rfl (qw 2 rfl ?_))
    refine Cn h fun v6 a6 b6 h => qi EY GK a6 (Ao b6) rfl (qk KC rfl (qa rfl (Ab (wq rfl (qw 2 rfl ?_)))))
    refine Be h fun v7 a7 h => Av [] (Jc N v4 v6 v7 a7) VV rfl (qa rfl (Ab (wq rfl (qm rfl (Ba rfl (Ab ?_))))))
    refine A0 h (fun h => ?_) fun h => ?_
    ·refine wq rfl (qm rfl (qe rfl ?_))
     obtain rfl := sj h
     refine Ag (sm [] [(4, iD v7)] [] rfl rfl) (Ap ?_)
     exact ⟨⟨[_], tm, rfl⟩, tv⟩
    ·refine An (Aj Az rfl (A6 rfl (qm rfl (Ab ?_))))
     exact sn [] h
  ·refine Bg ?_
   exact sn [] h
 ·refine Ag hs (wp rfl (qm rfl (AT EY rfl (qm rfl (AT EY rfl (A8 rfl (Ab ?_)))))))
  refine A0 h (fun h => ?_) fun h => ?_
  ·refine wq rfl (qe rfl ?_)
   obtain rfl := sj h
   refine Ag (sm [] [(4, iD ((-1)))] [] rfl rfl) (Ap ?_)
   exact ⟨⟨[_], tm, rfl⟩, tv⟩
  ·refine An (wq rfl (qe rfl ?_))
   obtain rfl := sj h
   refine Ag (sm [] [(4, iD 0)] [] rfl rfl) (Ap ?_)
   exact ⟨⟨[_], tm, rfl⟩, tv⟩
theorem NF (N : Nat) (p0 : List Int) (r : Int) (h : In N p0 = some r) : Ar zA 57 [pD (.sl (p0.map Aa))] [] (iD r) := by
 unfold In at h
 refine cw (n := 18) (rs := [.tmp 2]) Tryz.func57 fun w0 S0 => ?_
 refine wq rfl (qa rfl (Ab (wq rfl (qa rfl (Ab (wp rfl (qm rfl (AT AP rfl (qm rfl (Ab ?_))))))))))
 refine AS (L := Fp N p0) h (fun v1 => mk [(3, iD 0), (6, pD (.sl (p0.map Aa))), (7, iD ((p0.length : Int))), (8, iD v1)] []) (fun v2 => mk [(3, iD 0)] []) (fun _ _ => rfl) (sm [] _ _ rfl rfl) (fun j1 n1 v1 h => ?_) (fun v2 s h hs => ?_)
 ·unfold Fp at h
  refine wq rfl (A8 rfl (Ab (AH ?_)))
  refine A0 h (fun h => ?_) fun h => ?_
  ·refine An (AH (AI (wq rfl ?_)))
   refine Cn h fun v4 a4 b4 h => qi AP Dz a4 (Ao b4) rfl (qk Bs rfl (qa rfl (Ab (wq rfl (qw 2 rfl (Ba rfl (Ab ?_)))))))
   refine A0 h (fun h => ?_) fun h => ?_
   ·refine wq rfl (qm rfl (qe rfl ?_))
    obtain rfl := sj h
    refine Ag (sm [] [(2, iD v4)] [] rfl rfl) (Ap ?_)
    exact ⟨⟨[_], tm, rfl⟩, tv⟩
   ·refine An (Aj Az rfl (A6 rfl (qm rfl (Ab ?_))))
    exact sn [] h
  ·refine Bg ?_
   exact sn [] h
 ·refine Ag hs (wq rfl (qm rfl (qe rfl ?_)))
  obtain rfl := sj h
  refine Ag (sm [] [(2, iD 0)] [] rfl rfl) (Ap ?_)
  exact ⟨⟨[_], tm, rfl⟩, tv⟩
open IntKind renaming wrap → wI
theorem Ip (N : Nat) (p0 : Ai) (p1 : Ai) (r : Int) (h : E8 N p0 p1 = some r) : Ar zA 35 [.e (.agg (AR p0)), .e (.agg (AR p1))] [] (iD r) := by
 unfold E8 at h
 refine cw (n := 22) (rs := [.tmp 4]) Tryz.func35 fun w0 S0 => ?_
 refine wq rfl (qb rfl (qb rfl (qa rfl (Ab (wq rfl (qf Dn rfl (ql B6 rfl (qf Dn rfl (ql B6 rfl ?_)))))))))
 refine Be h fun v1 a1 h => Av [] (FH N p0.ff p1.ff v1 a1) U5 rfl (qf CP rfl (ql B6 rfl (qf CP rfl (ql B6 rfl ?_))))
 refine Be h fun v2 a2 h => Av [] (FH N p0.fd p1.fd v2 a2) U5 rfl (qf Eq rfl (ql JV rfl (qf Eq rfl (ql JV rfl ?_))))
 refine Be h fun v3 a3 h => Av [] (Gj N p0.fg p1.fg v3 a3) VJ rfl (FD AP Dz O3 rfl ?_)
 refine Be h fun v4 a4 h => FM [] [20] (NF N (([v1, v2, v3] : List Int)) v4 a4) WG DW rfl (qa rfl (AJ (by kernel_rfl) ?_))
 obtain rfl := sj h
 refine Ag (sm [] [(4, iD v4)] [] rfl rfl) (Ap ?_)
 exact ⟨⟨[_], tm, rfl⟩, tv⟩
theorem Kl (N : Nat) (p0 : Ad) (p1 : List Int) (p2 : Af) (r : Bool) (h : Fz N p0 p1 p2 = some r) : Ar zA 75 [.e (.agg (Aw p0)), pD (.sl (p1.map Aa)), .e (.agg (Bb p2))] [] (bD r) := by
 unfold Fz at h
 refine cw (n := 105) (rs := [.tmp 6]) Tryz.func75 fun w0 S0 => ?_
 refine wq rfl (qb rfl (qb rfl (qa rfl (Ab (AH ?_)))))
 refine AF h (fun v1 => mk [(1, pD (.sl (p1.map Aa))), (3, oD (.ptr 3 0)), (5, oD (.ptr 5 0)), (20, bD v1)] [(3, .box (Aw p0)), (5, .box (Bb p2))]) (fun j1 h => ?_) (fun v1 h => ?_)
 ·refine Aj Az rfl (qL Cp Cm rfl (qm rfl ?_))
  refine Be h fun v2 a2 h => Av [] (Fh N p0 p1 v2 a2) Ui rfl (Ba rfl (qm rfl ?_))
  refine Dv 16 h rfl (fun h => ?_) fun h => ?_
  ·refine qw 3 rfl (qp rfl (Ab ?_))
   exact sn [] h
  ·refine qf JM rfl (ql JP rfl (A8 rfl (qp rfl (Ab ?_))))
   exact sn [] h
 ·refine A0 h (fun h => ?_) fun h => ?_
  ·refine wq rfl (qe rfl ?_)
   obtain rfl := sj h
   refine Ag (sm [] [(6, bD false)] [] rfl rfl) (Ap ?_)
   exact ⟨⟨[_], tm, rfl⟩, tv⟩
  ·refine An (wq rfl (qL Cp Cm rfl (qf FK rfl (ql Kk rfl ?_))))
   refine Be h fun v5 a5 h => Av [2001] (IT N p0 p2.fo v5 a5) U6 rfl (qm rfl (qx rfl (qx rfl (qz N9 rfl (qs J2 rfl (qa rfl (Ab (wp rfl (qm rfl (Ba rfl (Ab ?_)))))))))))
   refine A0 h (fun h => ?_) fun h => ?_
   ·refine wq rfl (qe rfl ?_)
    obtain rfl := sj h
    refine Ag (sm [] [(6, bD false)] [] rfl rfl) (Ap ?_)
    exact ⟨⟨[_], tm, rfl⟩, tv⟩
   ·refine An (wq rfl (qL Nk J2 rfl (qf Dk rfl (ql Bs rfl (qf Bv rfl (ql Bs rfl (Cs (AM 2001 _ _ rfl rfl) ?_)))))))
    refine Be h fun v7 a7 h => Av [] (Hm N ((Bc.mk ((Ad.mk v5.1.fb.fi v5.1.fb.fm v5.1.fb.fq v5.1.fb.fh)) v5.1.fN v5.1.fK)) p2.fk p2.fp v7 a7) UI rfl (qm rfl (qx rfl (qx rfl (qz C4 rfl (qs AO rfl (qa rfl (Ab (AH ?_))))))))
    refine AF h (fun v8 => mk [(5, oD (.ptr 5 0)), (7, oD (.ptr 7 0)), (9, oD (.ptr 9 0)), (46, bD v8)] [(5, .box (Bb p2)), (7, .box (Cz v5.1)), (9, .box (AR v7.1))]) (fun j8 h => ?_) (fun v8 h => ?_)
    ·refine Aj Az rfl (qm rfl (Ba rfl (qm rfl ?_)))
     refine Dv 41 h rfl (fun h => ?_) fun h => ?_
     ·refine qw 4 rfl (qp rfl (Ab ?_))
      exact sn [] h
     ·refine qm rfl (qL GR DN rfl ?_)
      refine Be h fun v10 a10 h => Av [] (Im N p1 ((Af.mk p2.fo p2.fk p2.fp p2.fr p2.fj p2.fe ((Ai.mk p2.fc.ff p2.fc.fd p2.fc.fg)))) v10 a10) UU rfl (B2 rfl (qp rfl (Ab ?_)))
      exact sn [] h
    ·refine A0 h (fun h => ?_) fun h => ?_
     ·refine wq rfl (qe rfl ?_)
      obtain rfl := sj h
      refine Ag (sm [] [(6, bD false)] [] rfl rfl) (Ap ?_)
      exact ⟨⟨[_], tm, rfl⟩, tv⟩
     ·refine An (wp rfl (qf FQ rfl (ql Bs rfl (qf Dk rfl (ql Bs rfl (Jl rfl (qf Bv rfl (ql Bs rfl ?_))))))))
      refine Be h fun v12 a12 h => Av [] (HQ N p2.fp v12 a12) Tf rfl (A6 rfl (A8 rfl (AJ (by kernel_rfl) ?_)))
      refine A0 h (fun h => ?_) fun h => ?_
      ·refine wq rfl (qe rfl ?_)
       obtain rfl := sj h
       refine Ag (sm [] [(6, bD false)] [] rfl rfl) (Ap ?_)
       exact ⟨⟨[_], tm, rfl⟩, tv⟩
      ·refine An (wq rfl (qf FQ rfl (ql Bs rfl (qf Dk rfl (ql Bs rfl (Jl rfl (J5 rfl (qf Bv rfl (ql Bs rfl ?_)))))))))
       refine Be h fun v14 a14 h => Av [] (HQ N p2.fp v14 a14) Tf rfl (J5 rfl (qa rfl (AJ (by kernel_rfl) (wp rfl (qm rfl (Na rfl (by decide) (Ba rfl (Ab ?_))))))))
       refine A0 h (fun h => ?_) fun h => ?_
       ·refine wq rfl (qe rfl ?_)
        obtain rfl := sj h
        refine Ag (sm [] [(6, bD false)] [] rfl rfl) (Ap ?_)
        exact ⟨⟨[_], tm, rfl⟩, tv⟩
       ·refine An ?_
        refine AF h (fun v16 => mk [(5, oD (.ptr 5 0)), (7, oD (.ptr 7 0)), (9, oD (.ptr 9 0)), (11, bD v16)] [(5, .box (Bb p2)), (7, .box (Cz v5.1)), (9, .box (AR v7.1))]) (fun j16 h => ?_) (fun v16 h => ?_)
        ·refine Aj Az rfl (qf Bv rfl (ql Bs rfl (AL rfl (qm rfl ?_))))
         refine Dv 73 h rfl (fun h => ?_) fun h => ?_
         ·refine qm rfl (EA rfl (qp rfl (qm rfl ?_)))
          refine Dv 77 h rfl (fun h => ?_) fun h => ?_
          ·refine qf FK rfl (ql Kk rfl (qf Dk rfl (ql Bs rfl ?_)))
           refine Cn h fun v19 a19 b19 h => qi BH BG a19 (Ao b19) rfl (qg DJ rfl (qk Bs rfl (AL rfl (qp rfl (qe rfl ?_)))))
           exact sn [] h
          ·refine qw 8 rfl (qp rfl (qe rfl ?_))
           exact sn [] h
         ·refine qw 2 rfl (qp rfl (qw 9 rfl (qp rfl (qe rfl ?_))))
          exact sn [] h
        ·refine AF h (fun v20 => mk [(6, bD v20)] []) (fun j20 h => ?_) (fun v20 h => ?_)
         ·refine Aj Az rfl (qf DH rfl (qL Bq AO rfl (qL Bq AO rfl ?_)))
          refine Be h fun v21 a21 h => Av [] (Ip N ((Ai.mk p2.fc.ff p2.fc.fd p2.fc.fg)) v7.1 v21 a21) TA rfl (AL rfl (qm rfl ?_))
          refine Dv 92 h rfl (fun h => ?_) fun h => ?_
          ·refine qw 2 rfl (qu rfl (qu rfl (qu rfl (qu rfl (qu rfl (qu rfl (qu rfl (qu rfl (qn rfl (qp rfl (qa rfl (AJ (by kernel_rfl) ?_))))))))))))
           exact sn [] h
          ·refine qw 2 rfl ?_
           refine Dv 94 h rfl (fun h => ?_) fun h => ?_
           ·refine qf DH rfl (qL Bq AO rfl (qL Nk J2 rfl (qf Dk rfl (ql Bs rfl ?_))))
            refine Be h fun v24 a24 h => Av [2002, 2003, 2004] (E4 N ((Bc.mk ((Ad.mk v5.1.fb.fi v5.1.fb.fm v5.1.fb.fq v5.1.fb.fh)) v5.1.fN v5.1.fK)) p2.fk v24 a24) S5 rfl ?_
            refine Be h fun v25 a25 h => FM [] [2002, 2003, 2004] (Ip N ((Ai.mk p2.fc.ff p2.fc.fd p2.fc.fg)) v24 v25 a25) TA DW rfl (AL rfl (qp rfl (qp rfl (qa rfl (AJ (by kernel_rfl) ?_)))))
            exact sn [] h
           ·refine qw 8 rfl (qp rfl (qp rfl (qa rfl (AJ (by kernel_rfl) ?_))))
            exact sn [] h
         ·obtain rfl := sj h
          refine Ag (sm [] [(6, bD v20)] [] rfl rfl) (Ap ?_)
          exact ⟨⟨[_], tm, rfl⟩, tv⟩
theorem JF (N : Nat) (p0 : Ad) (p1 : List Int) (p2 : Af) (r : Int) (h : ET N p0 p1 p2 = some r) : Ar zA 53 [.e (.agg (Aw p0)), pD (.sl (p1.map Aa)), .e (.agg (Bb p2))] [] (iD r) := by
 unfold ET at h
 refine cw (n := 19) (rs := [.tmp 6]) Tryz.func53 fun w0 S0 => ?_
 refine wq rfl (qb rfl (qb rfl (qa rfl (Ab (wp rfl (qL Cp Cm rfl (qm rfl ?_)))))))
 refine Be h fun v1 a1 h => Av [] (Fh N p0 p1 v1 a1) Ui rfl (qa rfl (Ab (wq rfl (qm rfl (Ba rfl (Ab ?_))))))
 refine A0 h (fun h => ?_) fun h => ?_
 ·refine wq rfl (qm rfl (qe rfl ?_))
  obtain rfl := sj h
  refine Ag (sm [] [(6, iD v1)] [] rfl rfl) (Ap ?_)
  exact ⟨⟨[_], tm, rfl⟩, tv⟩
 ·refine An (wp rfl (qL Cp Cm rfl (qm rfl (qL GR DN rfl ?_))))
  refine Be h fun v3 a3 h => Av [] (Kl N p0 p1 ((Af.mk p2.fo p2.fk p2.fp p2.fr p2.fj p2.fe ((Ai.mk p2.fc.ff p2.fc.fd p2.fc.fg)))) v3 a3) WJ rfl (B2 rfl (Ab ?_))
  refine A0 h (fun h => ?_) fun h => ?_
  ·refine wq rfl (qe rfl ?_)
   obtain rfl := sj h
   refine Ag (sm [] [(6, iD 1)] [] rfl rfl) (Ap ?_)
   exact ⟨⟨[_], tm, rfl⟩, tv⟩
  ·refine An (wq rfl (qe rfl ?_))
   obtain rfl := sj h
   refine Ag (sm [] [(6, iD 0)] [] rfl rfl) (Ap ?_)
   exact ⟨⟨[_], tm, rfl⟩, tv⟩
theorem JU (N : Nat) (p0 : Af) (r : Af) (h : Fc N p0 = some r) : Ar zA 54 [.e (.agg (Bb p0))] [(3, r.fo.map Ae), (1, r.fc.ff.map Aa), (1, r.fc.fd.map Aa), (1, r.fc.fg.map Bd)] (.e (.agg [.own 0, iC r.fk, iC r.fp, iC r.fr, iC r.fj, iC r.fe, .own 1, .own 2, .own 3])) := by
 unfold Fc at h
 refine cw (n := 22) (rs := [.cell 2 54]) Tryz.func54 fun w0 S0 => ?_
 refine wq rfl (qb rfl (qz IV rfl (Ab (wq rfl (qf FK rfl (ql Kk rfl ?_))))))
 refine Be h fun v1 a1 h => Av [2001] (D3 N p0.fo v1 a1) UH rfl (qf FK rfl (qs V4 rfl (Ab (wq rfl (qf DH rfl (qf Dn rfl (ql B6 rfl ?_)))))))
 refine Be h fun v2 a2 h => Av [2002] (BK N p0.fc.ff v2 a2) Pl rfl (qf DH rfl (qf CP rfl (ql B6 rfl ?_)))
 refine Be h fun v3 a3 h => Av [2003] (BK N p0.fc.fd v3 a3) Pl rfl (qf DH rfl (qf Eq rfl (ql JV rfl ?_)))
 refine Be h fun v4 a4 h => Av [2004] (CY N p0.fc.fg v4 a4) TT rfl (AG C4 Jo rfl (qf DH rfl (qs AO rfl (AJ (by kernel_rfl) (wq rfl (qL GR DN rfl (qs DN rfl (Ab ?_))))))))
 obtain rfl := sj h
 refine Ag (sm [(1000, 2001), (1001, 2002), (1002, 2003), (1003, 2004)] [(2, oD (.ptr 2 0))] [(2, .box [.own 1000, iC p0.fk, iC p0.fp, iC p0.fr, iC p0.fj, iC p0.fe, .own 1001, .own 1002, .own 1003]), (1000, .vec 3 (v1.map Ae)), (1001, .vec 1 (v2.map Aa)), (1002, .vec 1 (v3.map Aa)), (1003, .vec 1 (v4.map Bd))] rfl rfl) (Ap ?_)
 exact ⟨⟨[_], ⟨.cellN _ _ _ _ _ _ _ rfl rfl GR DN rfl rfl (EU rfl), tv⟩, rfl⟩, ⟨rfl, rfl, rfl, rfl, tv⟩⟩
theorem CC (N : Nat) (p0 : Ac) (p1 : Int) (r : Ac) (h : By N p0 p1 = some r) : Ef zA 82 [oD (.ptr 90000 0), iD p1] [(.box [sC (p0.fb.fi.map Aa), sC (p0.fb.fm.map Aa), sC (p0.fb.fq.map Aa), sC (p0.fb.fh.map Am), sC (p0.fu.map Aa), sC (p0.fa.fo.map Ae), iC p0.fa.fk, iC p0.fa.fp, iC p0.fa.fr, iC p0.fa.fj, iC p0.fa.fe, sC (p0.fa.fc.ff.map Aa), sC (p0.fa.fc.fd.map Aa), sC (p0.fa.fc.fg.map Bd), .own 90900], .box [sC (r.fb.fi.map Aa), sC (r.fb.fm.map Aa), sC (r.fb.fq.map Aa), sC (r.fb.fh.map Am), sC (r.fu.map Aa), sC (r.fa.fo.map Ae), iC r.fa.fk, iC r.fa.fp, iC r.fa.fr, iC r.fa.fj, iC r.fa.fe, sC (r.fa.fc.ff.map Aa), sC (r.fa.fc.fd.map Aa), sC (r.fa.fc.fg.map Bd), .own 0])] (.vec 10 (p0.fv.map As)) [.vec 10 (r.fv.map As)] (.tup []) := by
 unfold By at h
 refine CK (n := 35) (rs := []) [90900] Tryz.func82 rfl rfl rfl (Da rfl) (Da rfl) rfl rfl rfl (Da rfl) rfl (Da rfl) rfl rfl rfl fun w0 S0 GL => Ja ?_
 refine Ag (sm [] [(0, oD (.ptr 90000 0)), (1, iD p1)] [(90000, .box [sC (p0.fb.fi.map Aa), sC (p0.fb.fm.map Aa), sC (p0.fb.fq.map Aa), sC (p0.fb.fh.map Am), sC (p0.fu.map Aa), sC (p0.fa.fo.map Ae), iC p0.fa.fk, iC p0.fa.fp, iC p0.fa.fr, iC p0.fa.fj, iC p0.fa.fe, sC (p0.fa.fc.ff.map Aa), sC (p0.fa.fc.fd.map Aa), sC (p0.fa.fc.fg.map Bd), .own 90900]), (90900, .vec 10 (p0.fv.map As))] rfl rfl) (wq rfl (qw 2 rfl (C9 rfl (qf GA rfl (ql QC rfl (qw 2 rfl (C9 rfl (qf AX rfl (qf JM rfl (ql JP rfl (qm rfl (C9 rfl (qf AX rfl (qf Dk rfl (ql Bs rfl (AG LO P2 rfl (AG LL RY rfl (FD HF M2 LL rfl ?_))))))))))))))))))
 refine Ge h fun c1 h => JS (nn := 90902) (.p rfl) rfl rfl rfl (HK As _ _ _) ⟨rfl, tv⟩ rfl rfl HF HF M2 PC (Da rfl) LL rfl (Kz (f := As) (g := As) (xs := p0.fv) (ys := (([(AW.mk 1 ((AC.mk p1 p0.fa.fe p0.fa.fk (⟨#[]⟩))) ((BL.mk 0 0 0)) 0 0)] : List AW))) c1) (JN As p0.fv (([(AW.mk 1 ((AC.mk p1 p0.fa.fe p0.fa.fk (⟨#[]⟩))) ((BL.mk 0 0 0)) 0 0)] : List AW))) ?_
 refine C9 rfl (qf GA rfl (qs SK rfl (AJ (by kernel_rfl) (Ag (CH (rn [(90900, 90902)]) [(0, oD (.ptr 90000 0))] [(90000, .box [sC (p0.fb.fi.map Aa), sC (p0.fb.fm.map Aa), sC (p0.fb.fq.map Aa), sC (p0.fb.fh.map Am), sC (p0.fu.map Aa), sC (p0.fa.fo.map Ae), iC p0.fa.fk, iC p0.fa.fp, iC p0.fa.fr, iC p0.fa.fj, iC p0.fa.fe, sC (p0.fa.fc.ff.map Aa), sC (p0.fa.fc.fd.map Aa), sC (p0.fa.fc.fg.map Bd), .own 90900]), (22, .vec 10 ((([(AW.mk 1 ((AC.mk p1 p0.fa.fe p0.fa.fk (⟨#[]⟩))) ((BL.mk 0 0 0)) 0 0)] : List AW)).map As)), (90900, .vec 10 ((p0.fv ++ (([(AW.mk 1 ((AC.mk p1 p0.fa.fe p0.fa.fk (⟨#[]⟩))) ((BL.mk 0 0 0)) 0 0)] : List AW))).map As))] ⟨rfl, tv⟩ ⟨rfl, rfl, rfl, tv⟩ rfl rfl) (Aj Az rfl (qm rfl (C9 rfl (qf AX rfl (qf FQ rfl (ql Bs rfl (A6 rfl (C9 rfl (qf AX rfl (qf FQ rfl (qs Dz rfl (Ab ?_))))))))))))))))
 obtain rfl := sj h
 refine ⟨_, (sm [] [] [(90000, .box [sC (p0.fb.fi.map Aa), sC (p0.fb.fm.map Aa), sC (p0.fb.fq.map Aa), sC (p0.fb.fh.map Am), sC (p0.fu.map Aa), sC (p0.fa.fo.map Ae), iC p0.fa.fk, iC p0.fa.fp, iC p0.fa.fr, iC ((wI .i64 (p0.fa.fj + 1))), iC p0.fa.fe, sC (p0.fa.fc.ff.map Aa), sC (p0.fa.fc.fd.map Aa), sC (p0.fa.fc.fg.map Bd), .own 90900]), (90900, .vec 10 ((p0.fv ++ (([(AW.mk 1 ((AC.mk p1 p0.fa.fe p0.fa.fk (⟨#[]⟩))) ((BL.mk 0 0 0)) 0 0)] : List AW))).map As))] rfl rfl), ?_⟩
 exact ⟨⟨[], tv, rfl⟩, ⟨rfl, tv⟩, ⟨rfl, tv⟩⟩
theorem Bk (N : Nat) (p0 : Ac) (r : Al) (h : A3 N p0 = some r) : Cc zA 80 [oD (.ptr 90000 0)] [(.box [sC (p0.fb.fi.map Aa), sC (p0.fb.fm.map Aa), sC (p0.fb.fq.map Aa), sC (p0.fb.fh.map Am), sC (p0.fu.map Aa), sC (p0.fa.fo.map Ae), iC p0.fa.fk, iC p0.fa.fp, iC p0.fa.fr, iC p0.fa.fj, iC p0.fa.fe, sC (p0.fa.fc.ff.map Aa), sC (p0.fa.fc.fd.map Aa), sC (p0.fa.fc.fg.map Bd), .own 90001], .box [sC (p0.fb.fi.map Aa), sC (p0.fb.fm.map Aa), sC (p0.fb.fq.map Aa), sC (p0.fb.fh.map Am), sC (p0.fu.map Aa), sC (p0.fa.fo.map Ae), iC p0.fa.fk, iC p0.fa.fp, iC p0.fa.fr, iC p0.fa.fj, iC p0.fa.fe, sC (p0.fa.fc.ff.map Aa), sC (p0.fa.fc.fd.map Aa), sC (p0.fa.fc.fg.map Bd), .own 90001]), (.vec 10 (p0.fv.map As), .vec 10 (p0.fv.map As))] [] (.e (.agg (Bz r))) := by
 unfold A3 at h
 refine BP (n := 15) (rs := [.cell 2 87]) Tryz.func80 rfl rfl rfl (Da rfl) (Da rfl) rfl rfl (Da rfl) rfl (Da rfl) fun w0 S0 GL => ?_
 refine Ag (sm [] [(0, oD (.ptr 90000 0))] [(90000, .box [sC (p0.fb.fi.map Aa), sC (p0.fb.fm.map Aa), sC (p0.fb.fq.map Aa), sC (p0.fb.fh.map Am), sC (p0.fu.map Aa), sC (p0.fa.fo.map Ae), iC p0.fa.fk, iC p0.fa.fp, iC p0.fa.fr, iC p0.fa.fj, iC p0.fa.fe, sC (p0.fa.fc.ff.map Aa), sC (p0.fa.fc.fd.map Aa), sC (p0.fa.fc.fg.map Bd), .own 90001]), (90001, .vec 10 (p0.fv.map As))] rfl rfl) (wq rfl (qz Gd rfl (Ab (wq rfl (qm rfl (C9 rfl (qf AX rfl (qf FK rfl (ql Kk rfl (qm rfl (C9 rfl (qf AX rfl (qf Dk rfl (ql Bs rfl ?_))))))))))))))
 refine Cn h fun v1 a1 b1 h => qi BH BG a1 (Ao b1) rfl (qK E5 BG rfl (qs BG rfl (AJ (by kernel_rfl) ?_)))
 obtain rfl := sj h
 refine Ag (sm [] [(2, oD (.ptr 2 0))] [(2, .box (Bz v1)), (90000, .box [sC (p0.fb.fi.map Aa), sC (p0.fb.fm.map Aa), sC (p0.fb.fq.map Aa), sC (p0.fb.fh.map Am), sC (p0.fu.map Aa), sC (p0.fa.fo.map Ae), iC p0.fa.fk, iC p0.fa.fp, iC p0.fa.fr, iC p0.fa.fj, iC p0.fa.fe, sC (p0.fa.fc.ff.map Aa), sC (p0.fa.fc.fd.map Aa), sC (p0.fa.fc.fg.map Bd), .own 90001]), (90001, .vec 10 (p0.fv.map As))] rfl rfl) (Ap ?_)
 exact ⟨⟨[_], ⟨.cellN _ _ _ _ _ _ _ rfl rfl E5 BG rfl rfl (EU rfl), tv⟩, rfl⟩, ⟨rfl, rfl, tv⟩, tv⟩
theorem DV (N : Nat) (p0 : Ac) (p1 : Al) (r : Ac) (h : B0 N p0 p1 = some r) : Cc zA 109 [oD (.ptr 90000 0), .e (.agg (Bz p1))] [(.box [sC (p0.fb.fi.map Aa), sC (p0.fb.fm.map Aa), sC (p0.fb.fq.map Aa), sC (p0.fb.fh.map Am), sC (p0.fu.map Aa), sC (p0.fa.fo.map Ae), iC p0.fa.fk, iC p0.fa.fp, iC p0.fa.fr, iC p0.fa.fj, iC p0.fa.fe, sC (p0.fa.fc.ff.map Aa), sC (p0.fa.fc.fd.map Aa), sC (p0.fa.fc.fg.map Bd), .own 90001], .box [sC (r.fb.fi.map Aa), sC (r.fb.fm.map Aa), sC (r.fb.fq.map Aa), sC (r.fb.fh.map Am), sC (r.fu.map Aa), sC (r.fa.fo.map Ae), iC r.fa.fk, iC r.fa.fp, iC r.fa.fr, iC r.fa.fj, iC r.fa.fe, sC (r.fa.fc.ff.map Aa), sC (r.fa.fc.fd.map Aa), sC (r.fa.fc.fg.map Bd), .own 90001]), (.vec 10 (p0.fv.map As), .vec 10 (p0.fv.map As))] [] (.tup []) := by
 unfold B0 at h
 refine BP (n := 27) (rs := []) Tryz.func109 rfl rfl rfl (Da rfl) (Da rfl) rfl rfl (Da rfl) rfl (Da rfl) fun w0 S0 GL => Ja ?_
 refine Ag (sm [] [(0, oD (.ptr 90000 0)), (1, .e (.agg (Bz p1)))] [(90000, .box [sC (p0.fb.fi.map Aa), sC (p0.fb.fm.map Aa), sC (p0.fb.fq.map Aa), sC (p0.fb.fh.map Am), sC (p0.fu.map Aa), sC (p0.fa.fo.map Ae), iC p0.fa.fk, iC p0.fa.fp, iC p0.fa.fr, iC p0.fa.fj, iC p0.fa.fe, sC (p0.fa.fc.ff.map Aa), sC (p0.fa.fc.fd.map Aa), sC (p0.fa.fc.fg.map Bd), .own 90001]), (90001, .vec 10 (p0.fv.map As))] rfl rfl) (wq rfl (qb rfl (Ab (wq rfl (qm rfl (C9 rfl (qf QU rfl (qL Cp Cm rfl (qm rfl (C9 rfl (qf AX rfl (qf DH rfl (qL Bq AO rfl (qL E5 BG rfl ?_))))))))))))))
 refine Be h fun v1 a1 h => Av [2001, 2002, 2003] (Gt N ((Ad.mk p0.fb.fi p0.fb.fm p0.fb.fq p0.fb.fh)) ((Ai.mk p0.fa.fc.ff p0.fa.fc.fd p0.fa.fc.fg)) p1 v1 a1) QD rfl (qm rfl (qx rfl (qx rfl (qz C4 rfl (qs AO rfl (qa rfl (AJ (by kernel_rfl) (wq rfl (qm rfl (AL rfl (Ab ?_)))))))))))
 refine A0 h (fun h => ?_) fun h => ?_
 ·refine Aj Az rfl (qm rfl (qL Bq AO rfl (C9 rfl (qf AX rfl (qf DH rfl (qs AO rfl (Ab ?_)))))))
  obtain rfl := sj h
  refine ⟨_, ((AM 2001 _ _ rfl rfl).trans ((AM 2002 _ _ rfl rfl).trans ((AM 2003 _ _ rfl rfl).trans (sm [] [] [(90000, .box [sC (p0.fb.fi.map Aa), sC (p0.fb.fm.map Aa), sC (p0.fb.fq.map Aa), sC (p0.fb.fh.map Am), sC (p0.fu.map Aa), sC (p0.fa.fo.map Ae), iC p0.fa.fk, iC p0.fa.fp, iC p0.fa.fr, iC p0.fa.fj, iC p0.fa.fe, sC (v1.1.ff.map Aa), sC (v1.1.fd.map Aa), sC (v1.1.fg.map Bd), .own 90001]), (90001, .vec 10 (p0.fv.map As))] rfl rfl)))), ?_⟩
  exact ⟨⟨[], tv, rfl⟩, ⟨rfl, rfl, tv⟩, tv⟩
 ·refine An ?_
  obtain rfl := sj h
  refine ⟨_, (sm [] [] [(90000, .box [sC (p0.fb.fi.map Aa), sC (p0.fb.fm.map Aa), sC (p0.fb.fq.map Aa), sC (p0.fb.fh.map Am), sC (p0.fu.map Aa), sC (p0.fa.fo.map Ae), iC p0.fa.fk, iC p0.fa.fp, iC p0.fa.fr, iC p0.fa.fj, iC p0.fa.fe, sC (p0.fa.fc.ff.map Aa), sC (p0.fa.fc.fd.map Aa), sC (p0.fa.fc.fg.map Bd), .own 90001]), (90001, .vec 10 (p0.fv.map As))] rfl rfl), ?_⟩
  exact ⟨⟨[], tv, rfl⟩, ⟨rfl, rfl, tv⟩, tv⟩
theorem HO (N : Nat) (p0 : Ac) (r : Ac) (h : Dp N p0 = some r) : Ef zA 106 [oD (.ptr 90000 0)] [(.box [sC (p0.fb.fi.map Aa), sC (p0.fb.fm.map Aa), sC (p0.fb.fq.map Aa), sC (p0.fb.fh.map Am), sC (p0.fu.map Aa), sC (p0.fa.fo.map Ae), iC p0.fa.fk, iC p0.fa.fp, iC p0.fa.fr, iC p0.fa.fj, iC p0.fa.fe, sC (p0.fa.fc.ff.map Aa), sC (p0.fa.fc.fd.map Aa), sC (p0.fa.fc.fg.map Bd), .own 90900], .box [sC (r.fb.fi.map Aa), sC (r.fb.fm.map Aa), sC (r.fb.fq.map Aa), sC (r.fb.fh.map Am), sC (r.fu.map Aa), sC (r.fa.fo.map Ae), iC r.fa.fk, iC r.fa.fp, iC r.fa.fr, iC r.fa.fj, iC r.fa.fe, sC (r.fa.fc.ff.map Aa), sC (r.fa.fc.fd.map Aa), sC (r.fa.fc.fg.map Bd), .own 0])] (.vec 10 (p0.fv.map As)) [.vec 10 (r.fv.map As)] (.tup []) := by
 unfold Dp at h
 refine CK (n := 35) (rs := []) [90900] Tryz.func106 rfl rfl rfl (Da rfl) (Da rfl) rfl rfl rfl (Da rfl) rfl (Da rfl) rfl rfl rfl fun w0 S0 GL => Ja ?_
 refine Ag (sm [] [(0, oD (.ptr 90000 0))] [(90000, .box [sC (p0.fb.fi.map Aa), sC (p0.fb.fm.map Aa), sC (p0.fb.fq.map Aa), sC (p0.fb.fh.map Am), sC (p0.fu.map Aa), sC (p0.fa.fo.map Ae), iC p0.fa.fk, iC p0.fa.fp, iC p0.fa.fr, iC p0.fa.fj, iC p0.fa.fe, sC (p0.fa.fc.ff.map Aa), sC (p0.fa.fc.fd.map Aa), sC (p0.fa.fc.fg.map Bd), .own 90900]), (90900, .vec 10 (p0.fv.map As))] rfl rfl) (wq rfl (qm rfl ?_))
 refine Be h fun v1 a1 h => Dh (ds0 := [_, _]) [90000] 90900 [90902] [true] (CC N ((Ac.mk ((Ad.mk p0.fb.fi p0.fb.fm p0.fb.fq p0.fb.fh)) p0.fu ((Af.mk p0.fa.fo p0.fa.fk p0.fa.fp p0.fa.fr p0.fa.fj p0.fa.fe ((Ai.mk p0.fa.fc.ff p0.fa.fc.fd p0.fa.fc.fg)))) p0.fv)) 1 v1 a1) (.p rfl) Sr rfl ⟨rfl, rfl, tv⟩ rfl rfl rfl ⟨rfl, tv⟩ rfl rfl rfl rfl rfl rfl ⟨rfl, tv⟩ ⟨(fun h => by cases h), tv⟩ rfl rfl rfl ?_
 refine Ab (Ag (CH (rn [(90900, 90902)]) [(0, oD (.ptr 90000 0))] [(90000, .box [sC (v1.fb.fi.map Aa), sC (v1.fb.fm.map Aa), sC (v1.fb.fq.map Aa), sC (v1.fb.fh.map Am), sC (v1.fu.map Aa), sC (v1.fa.fo.map Ae), iC v1.fa.fk, iC v1.fa.fp, iC v1.fa.fr, iC v1.fa.fj, iC v1.fa.fe, sC (v1.fa.fc.ff.map Aa), sC (v1.fa.fc.fd.map Aa), sC (v1.fa.fc.fg.map Bd), .own 90900]), (90900, .vec 10 (v1.fv.map As))] ⟨rfl, tv⟩ ⟨rfl, rfl, tv⟩ rfl rfl) (wq rfl (qm rfl ?_)))
 refine Be h fun v2 a2 h => CQ (ds0 := [_]) [90000, 90900] [] [false, false] (Bk N ((Ac.mk ((Ad.mk v1.fb.fi v1.fb.fm v1.fb.fq v1.fb.fh)) v1.fu ((Af.mk v1.fa.fo v1.fa.fk v1.fa.fp v1.fa.fr v1.fa.fj v1.fa.fe ((Ai.mk v1.fa.fc.ff v1.fa.fc.fd v1.fa.fc.fg)))) v1.fv)) v2 a2) (.p rfl) Pc rfl ⟨rfl, tv⟩ rfl rfl (Bf rfl) ⟨rfl, rfl, tv⟩ rfl (Bm rfl) tv ⟨(fun _ => rfl), (fun _ => rfl), tv⟩ rfl rfl rfl ?_
 refine qz Gd rfl (qs BG rfl (Ab ?_))
 refine AF h (fun v3 => mk [(0, oD (.ptr 90000 0)), (2, oD (.ptr 2 0))] [(2, .box (Bz v2)), (90000, .box [sC (v3.1.map Aa), sC (v3.2.1.map Aa), sC (v3.2.2.1.map Aa), sC (v3.2.2.2.1.map Am), sC (v3.2.2.2.2.1.map Aa), sC (v3.2.2.2.2.2.1.map Ae), iC v3.2.2.2.2.2.2.1, iC v3.2.2.2.2.2.2.2.1, iC v3.2.2.2.2.2.2.2.2.1, iC v3.2.2.2.2.2.2.2.2.2.1, iC v3.2.2.2.2.2.2.2.2.2.2.1, sC (v3.2.2.2.2.2.2.2.2.2.2.2.1.map Aa), sC (v3.2.2.2.2.2.2.2.2.2.2.2.2.1.map Aa), sC (v3.2.2.2.2.2.2.2.2.2.2.2.2.2.map Bd), .own 90900]), (90900, .vec 10 (v1.fv.map As))]) (fun j3 h => ?_) (fun v3 h => ?_)
 ·refine wq rfl (qf DJ rfl (ql Bs rfl (Ab (AI (wq rfl (AL rfl (qe rfl ?_)))))))
  refine A0 h (fun h => ?_) fun h => ?_
  ·refine wq rfl (qm rfl (C9 rfl (qf AX rfl (qf Bv rfl (qs Dz rfl (Ab ?_))))))
   obtain rfl := sj h
   refine Ap ⟨_, (sm [] [] [(90000, .box [sC (v1.fb.fi.map Aa), sC (v1.fb.fm.map Aa), sC (v1.fb.fq.map Aa), sC (v1.fb.fh.map Am), sC (v1.fu.map Aa), sC (v1.fa.fo.map Ae), iC v1.fa.fk, iC 4, iC v1.fa.fr, iC v1.fa.fj, iC v1.fa.fe, sC (v1.fa.fc.ff.map Aa), sC (v1.fa.fc.fd.map Aa), sC (v1.fa.fc.fg.map Bd), .own 90900]), (90900, .vec 10 (v1.fv.map As))] rfl rfl), ?_⟩
   exact ⟨⟨[], tv, rfl⟩, ⟨rfl, tv⟩, ⟨rfl, tv⟩⟩
  ·refine wq rfl (AL rfl (qe rfl ?_))
   refine A0 h (fun h => ?_) fun h => ?_
   ·refine Aj Az rfl (qm rfl (qL E5 BG rfl ?_))
    refine Be h fun v6 a6 h => CQ (ds0 := [_, _]) [90000, 90900] [] [true, false] (DV N ((Ac.mk ((Ad.mk v1.fb.fi v1.fb.fm v1.fb.fq v1.fb.fh)) v1.fu ((Af.mk v1.fa.fo v1.fa.fk v1.fa.fp v1.fa.fr v1.fa.fj v1.fa.fe ((Ai.mk v1.fa.fc.ff v1.fa.fc.fd v1.fa.fc.fg)))) v1.fv)) v2 v6 a6) (.p rfl) QW rfl ⟨rfl, rfl, tv⟩ rfl rfl (Bf rfl) ⟨rfl, rfl, tv⟩ rfl (Bm rfl) tv ⟨(fun h => by cases h), (fun _ => rfl), tv⟩ rfl rfl rfl ?_
    refine Ab ?_
    exact sn [] h
   ·refine An ?_
    exact sn [] h
 ·refine Aj Az rfl (qw 3 rfl (C9 rfl (qf MK rfl (ql B6 rfl (qf CB rfl (ql Bs rfl ?_))))))
  refine Be h fun v7 a7 h => Av [] (FT N v3.2.2.2.2.1 v2.fy v7 a7) RC rfl (C9 rfl (qf AX rfl (qf Bv rfl (qs Dz rfl (C9 rfl (qf AX rfl (qf Ep rfl (qs Dz rfl (AJ (by kernel_rfl) ?_)))))))))
  obtain rfl := sj h
  refine ⟨_, (sm [] [] [(90000, .box [sC (v3.1.map Aa), sC (v3.2.1.map Aa), sC (v3.2.2.1.map Aa), sC (v3.2.2.2.1.map Am), sC (v3.2.2.2.2.1.map Aa), sC (v3.2.2.2.2.2.1.map Ae), iC v3.2.2.2.2.2.2.1, iC 1, iC v7, iC v3.2.2.2.2.2.2.2.2.2.1, iC v3.2.2.2.2.2.2.2.2.2.2.1, sC (v3.2.2.2.2.2.2.2.2.2.2.2.1.map Aa), sC (v3.2.2.2.2.2.2.2.2.2.2.2.2.1.map Aa), sC (v3.2.2.2.2.2.2.2.2.2.2.2.2.2.map Bd), .own 90900]), (90900, .vec 10 (v1.fv.map As))] rfl rfl), ?_⟩
  exact ⟨⟨[], tv, rfl⟩, ⟨rfl, tv⟩, ⟨rfl, tv⟩⟩
theorem Hy (N : Nat) (p0 : Ac) (r : Int) (h : De N p0 = some r) : Cc zA 123 [oD (.ptr 90000 0)] [(.box [sC (p0.fb.fi.map Aa), sC (p0.fb.fm.map Aa), sC (p0.fb.fq.map Aa), sC (p0.fb.fh.map Am), sC (p0.fu.map Aa), sC (p0.fa.fo.map Ae), iC p0.fa.fk, iC p0.fa.fp, iC p0.fa.fr, iC p0.fa.fj, iC p0.fa.fe, sC (p0.fa.fc.ff.map Aa), sC (p0.fa.fc.fd.map Aa), sC (p0.fa.fc.fg.map Bd), .own 90001], .box [sC (p0.fb.fi.map Aa), sC (p0.fb.fm.map Aa), sC (p0.fb.fq.map Aa), sC (p0.fb.fh.map Am), sC (p0.fu.map Aa), sC (p0.fa.fo.map Ae), iC p0.fa.fk, iC p0.fa.fp, iC p0.fa.fr, iC p0.fa.fj, iC p0.fa.fe, sC (p0.fa.fc.ff.map Aa), sC (p0.fa.fc.fd.map Aa), sC (p0.fa.fc.fg.map Bd), .own 90001]), (.vec 10 (p0.fv.map As), .vec 10 (p0.fv.map As))] [] (iD r) := by
 unfold De at h
 refine BP (n := 32) (rs := [.tmp 2]) Tryz.func123 rfl rfl rfl (Da rfl) (Da rfl) rfl rfl (Da rfl) rfl (Da rfl) fun w0 S0 GL => ?_
 refine Ag (sm [] [(0, oD (.ptr 90000 0))] [(90000, .box [sC (p0.fb.fi.map Aa), sC (p0.fb.fm.map Aa), sC (p0.fb.fq.map Aa), sC (p0.fb.fh.map Am), sC (p0.fu.map Aa), sC (p0.fa.fo.map Ae), iC p0.fa.fk, iC p0.fa.fp, iC p0.fa.fr, iC p0.fa.fj, iC p0.fa.fe, sC (p0.fa.fc.ff.map Aa), sC (p0.fa.fc.fd.map Aa), sC (p0.fa.fc.fg.map Bd), .own 90001]), (90001, .vec 10 (p0.fv.map As))] rfl rfl) (wq rfl (qa rfl (Ab (wq rfl (qm rfl ?_)))))
 refine Be h fun v1 a1 h => CQ (ds0 := [_]) [90000, 90001] [] [false, false] (Bk N ((Ac.mk ((Ad.mk p0.fb.fi p0.fb.fm p0.fb.fq p0.fb.fh)) p0.fu ((Af.mk p0.fa.fo p0.fa.fk p0.fa.fp p0.fa.fr p0.fa.fj p0.fa.fe ((Ai.mk p0.fa.fc.ff p0.fa.fc.fd p0.fa.fc.fg)))) p0.fv)) v1 a1) (.p rfl) Pc rfl ⟨rfl, tv⟩ rfl rfl (Bf rfl) ⟨rfl, rfl, tv⟩ rfl (Bm rfl) tv ⟨(fun _ => rfl), (fun _ => rfl), tv⟩ rfl rfl rfl ?_
 refine qz Gd rfl (qs BG rfl (Ab (wp rfl (qm rfl (C9 rfl (qf AX rfl (qf Bv rfl (ql Bs rfl (AL rfl (Ab ?_))))))))))
 refine A0 h (fun h => ?_) fun h => ?_
 ·refine wq rfl (qm rfl (C9 rfl (qf AX rfl (qf DH rfl (qf Dn rfl (ql B6 rfl (qf CB rfl (ql Bs rfl ?_))))))))
  refine Cn h fun v3 a3 b3 h => qi AP Dz a3 (Ao b3) rfl (qk Bs rfl (qa rfl (AJ (by kernel_rfl) ?_)))
  obtain rfl := sj h
  refine Ag (sm [] [(2, iD v3)] [(90000, .box [sC (p0.fb.fi.map Aa), sC (p0.fb.fm.map Aa), sC (p0.fb.fq.map Aa), sC (p0.fb.fh.map Am), sC (p0.fu.map Aa), sC (p0.fa.fo.map Ae), iC p0.fa.fk, iC p0.fa.fp, iC p0.fa.fr, iC p0.fa.fj, iC p0.fa.fe, sC (p0.fa.fc.ff.map Aa), sC (p0.fa.fc.fd.map Aa), sC (p0.fa.fc.fg.map Bd), .own 90001]), (90001, .vec 10 (p0.fv.map As))] rfl rfl) (Ap ?_)
  exact ⟨⟨[_], tm, rfl⟩, ⟨rfl, rfl, tv⟩, tv⟩
 ·refine An (wq rfl (qm rfl (C9 rfl (qf AX rfl (qf DH rfl (qf CP rfl (ql B6 rfl (qf CB rfl (ql Bs rfl ?_)))))))))
  refine Cn h fun v4 a4 b4 h => qi AP Dz a4 (Ao b4) rfl (qk Bs rfl (qa rfl (AJ (by kernel_rfl) ?_)))
  obtain rfl := sj h
  refine Ag (sm [] [(2, iD v4)] [(90000, .box [sC (p0.fb.fi.map Aa), sC (p0.fb.fm.map Aa), sC (p0.fb.fq.map Aa), sC (p0.fb.fh.map Am), sC (p0.fu.map Aa), sC (p0.fa.fo.map Ae), iC p0.fa.fk, iC p0.fa.fp, iC p0.fa.fr, iC p0.fa.fj, iC p0.fa.fe, sC (p0.fa.fc.ff.map Aa), sC (p0.fa.fc.fd.map Aa), sC (p0.fa.fc.fg.map Bd), .own 90001]), (90001, .vec 10 (p0.fv.map As))] rfl rfl) (Ap ?_)
  exact ⟨⟨[_], tm, rfl⟩, ⟨rfl, rfl, tv⟩, tv⟩
theorem Df (N : Nat) (p0 : Ac) (r : BL) (h : BJ N p0 = some r) : Cc zA 108 [oD (.ptr 90000 0)] [(.box [sC (p0.fb.fi.map Aa), sC (p0.fb.fm.map Aa), sC (p0.fb.fq.map Aa), sC (p0.fb.fh.map Am), sC (p0.fu.map Aa), sC (p0.fa.fo.map Ae), iC p0.fa.fk, iC p0.fa.fp, iC p0.fa.fr, iC p0.fa.fj, iC p0.fa.fe, sC (p0.fa.fc.ff.map Aa), sC (p0.fa.fc.fd.map Aa), sC (p0.fa.fc.fg.map Bd), .own 90001], .box [sC (p0.fb.fi.map Aa), sC (p0.fb.fm.map Aa), sC (p0.fb.fq.map Aa), sC (p0.fb.fh.map Am), sC (p0.fu.map Aa), sC (p0.fa.fo.map Ae), iC p0.fa.fk, iC p0.fa.fp, iC p0.fa.fr, iC p0.fa.fj, iC p0.fa.fe, sC (p0.fa.fc.ff.map Aa), sC (p0.fa.fc.fd.map Aa), sC (p0.fa.fc.fg.map Bd), .own 90001]), (.vec 10 (p0.fv.map As), .vec 10 (p0.fv.map As))] [] (.e (.agg (OX r))) := by
 unfold BJ at h
 refine BP (n := 16) (rs := [.cell 2 63]) Tryz.func108 rfl rfl rfl (Da rfl) (Da rfl) rfl rfl (Da rfl) rfl (Da rfl) fun w0 S0 GL => ?_
 refine Ag (sm [] [(0, oD (.ptr 90000 0))] [(90000, .box [sC (p0.fb.fi.map Aa), sC (p0.fb.fm.map Aa), sC (p0.fb.fq.map Aa), sC (p0.fb.fh.map Am), sC (p0.fu.map Aa), sC (p0.fa.fo.map Ae), iC p0.fa.fk, iC p0.fa.fp, iC p0.fa.fr, iC p0.fa.fj, iC p0.fa.fe, sC (p0.fa.fc.ff.map Aa), sC (p0.fa.fc.fd.map Aa), sC (p0.fa.fc.fg.map Bd), .own 90001]), (90001, .vec 10 (p0.fv.map As))] rfl rfl) (wq rfl (qz Se rfl (Ab (wq rfl (qm rfl (C9 rfl (qf AX rfl (qf FQ rfl (ql Bs rfl (qm rfl (C9 rfl (qf AX rfl (qf Ep rfl (ql Bs rfl (qm rfl ?_)))))))))))))))
 refine Be h fun v1 a1 h => CQ (ds0 := [_]) [90000, 90001] [] [false, false] (Hy N ((Ac.mk ((Ad.mk p0.fb.fi p0.fb.fm p0.fb.fq p0.fb.fh)) p0.fu ((Af.mk p0.fa.fo p0.fa.fk p0.fa.fp p0.fa.fr p0.fa.fj p0.fa.fe ((Ai.mk p0.fa.fc.ff p0.fa.fc.fd p0.fa.fc.fg)))) p0.fv)) v1 a1) (.p rfl) Uy rfl ⟨rfl, tv⟩ rfl rfl (Bf rfl) ⟨rfl, rfl, tv⟩ rfl (Bm rfl) tv ⟨(fun _ => rfl), (fun _ => rfl), tv⟩ rfl rfl rfl ?_
 refine AG Se Uf rfl (qs Vn rfl (AJ (by kernel_rfl) ?_))
 obtain rfl := sj h
 refine Ag (sm [] [(2, oD (.ptr 2 0))] [(2, .box [iC p0.fa.fj, iC p0.fa.fr, iC v1]), (90000, .box [sC (p0.fb.fi.map Aa), sC (p0.fb.fm.map Aa), sC (p0.fb.fq.map Aa), sC (p0.fb.fh.map Am), sC (p0.fu.map Aa), sC (p0.fa.fo.map Ae), iC p0.fa.fk, iC p0.fa.fp, iC p0.fa.fr, iC p0.fa.fj, iC p0.fa.fe, sC (p0.fa.fc.ff.map Aa), sC (p0.fa.fc.fd.map Aa), sC (p0.fa.fc.fg.map Bd), .own 90001]), (90001, .vec 10 (p0.fv.map As))] rfl rfl) (Ap ?_)
 exact ⟨⟨[_], ⟨.cellN _ _ _ _ _ _ _ rfl rfl Wz Vn rfl rfl (EU rfl), tv⟩, rfl⟩, ⟨rfl, rfl, tv⟩, tv⟩
theorem Dq (N : Nat) (p0 : Ac) (r : Ac) (h : BO N p0 = some r) : Ef zA 107 [oD (.ptr 90000 0)] [(.box [sC (p0.fb.fi.map Aa), sC (p0.fb.fm.map Aa), sC (p0.fb.fq.map Aa), sC (p0.fb.fh.map Am), sC (p0.fu.map Aa), sC (p0.fa.fo.map Ae), iC p0.fa.fk, iC p0.fa.fp, iC p0.fa.fr, iC p0.fa.fj, iC p0.fa.fe, sC (p0.fa.fc.ff.map Aa), sC (p0.fa.fc.fd.map Aa), sC (p0.fa.fc.fg.map Bd), .own 90900], .box [sC (r.fb.fi.map Aa), sC (r.fb.fm.map Aa), sC (r.fb.fq.map Aa), sC (r.fb.fh.map Am), sC (r.fu.map Aa), sC (r.fa.fo.map Ae), iC r.fa.fk, iC r.fa.fp, iC r.fa.fr, iC r.fa.fj, iC r.fa.fe, sC (r.fa.fc.ff.map Aa), sC (r.fa.fc.fd.map Aa), sC (r.fa.fc.fg.map Bd), .own 0])] (.vec 10 (p0.fv.map As)) [.vec 10 (r.fv.map As)] (.tup []) := by
 unfold BO at h
 refine CK (n := 60) (rs := []) [90900] Tryz.func107 rfl rfl rfl (Da rfl) (Da rfl) rfl rfl rfl (Da rfl) rfl (Da rfl) rfl rfl rfl fun w0 S0 GL => Ja ?_
 refine Ag (sm [] [(0, oD (.ptr 90000 0))] [(90000, .box [sC (p0.fb.fi.map Aa), sC (p0.fb.fm.map Aa), sC (p0.fb.fq.map Aa), sC (p0.fb.fh.map Am), sC (p0.fu.map Aa), sC (p0.fa.fo.map Ae), iC p0.fa.fk, iC p0.fa.fp, iC p0.fa.fr, iC p0.fa.fj, iC p0.fa.fe, sC (p0.fa.fc.ff.map Aa), sC (p0.fa.fc.fd.map Aa), sC (p0.fa.fc.fg.map Bd), .own 90900]), (90900, .vec 10 (p0.fv.map As))] rfl rfl) (wq rfl (qm rfl (C9 rfl (qf AX rfl (qf Bv rfl (ql Bs rfl (Ab (AI ?_))))))))
 refine AF h (fun v1 => mk [(0, oD (.ptr 90000 0)), (6, iD p0.fa.fp), (7, bD v1)] [(90000, .box [sC (p0.fb.fi.map Aa), sC (p0.fb.fm.map Aa), sC (p0.fb.fq.map Aa), sC (p0.fb.fh.map Am), sC (p0.fu.map Aa), sC (p0.fa.fo.map Ae), iC p0.fa.fk, iC p0.fa.fp, iC p0.fa.fr, iC p0.fa.fj, iC p0.fa.fe, sC (p0.fa.fc.ff.map Aa), sC (p0.fa.fc.fd.map Aa), sC (p0.fa.fc.fg.map Bd), .own 90900]), (90900, .vec 10 (p0.fv.map As))]) (fun j1 h => ?_) (fun v1 h => ?_)
 ·refine wq rfl (AL rfl (qe rfl ?_))
  refine A0 h (fun h => ?_) fun h => ?_
  ·refine An ?_
   exact sn [] h
  ·refine Aj Az rfl (AL rfl (qe rfl ?_))
   exact sn [] h
 ·refine A0 h (fun h => ?_) fun h => ?_
  ·refine Aj Az rfl (qw 2 rfl (C9 rfl (qf GA rfl (ql QC rfl (qm rfl ?_)))))
   refine Be h fun v4 a4 h => CQ (ds0 := [_]) [90000, 90900] [] [false, false] (Df N ((Ac.mk ((Ad.mk p0.fb.fi p0.fb.fm p0.fb.fq p0.fb.fh)) p0.fu ((Af.mk p0.fa.fo p0.fa.fk p0.fa.fp p0.fa.fr p0.fa.fj p0.fa.fe ((Ai.mk p0.fa.fc.ff p0.fa.fc.fd p0.fa.fc.fg)))) p0.fv)) v4 a4) (.p rfl) QJ rfl ⟨rfl, tv⟩ rfl rfl (Bf rfl) ⟨rfl, rfl, tv⟩ rfl (Bm rfl) tv ⟨(fun _ => rfl), (fun _ => rfl), tv⟩ rfl rfl rfl ?_
   refine AG LL RY rfl (FD HF M2 LL rfl ?_)
   refine Ge h fun c5 h => JS (nn := 90904) (.p rfl) rfl rfl rfl (HK As _ _ _) ⟨rfl, tv⟩ rfl rfl HF HF M2 PC (Da rfl) LL rfl (Kz (f := As) (g := As) (xs := p0.fv) (ys := (([(AW.mk 2 ((AC.mk 0 0 0 (⟨#[]⟩))) v4 0 0)] : List AW))) c5) (JN As p0.fv (([(AW.mk 2 ((AC.mk 0 0 0 (⟨#[]⟩))) v4 0 0)] : List AW))) ?_
   refine C9 rfl (qf GA rfl (qs SK rfl (AJ (by kernel_rfl) ?_)))
   obtain rfl := sj h
   refine ⟨_, (CH (rn [(90900, 90904)]) [] [(90000, .box [sC (p0.fb.fi.map Aa), sC (p0.fb.fm.map Aa), sC (p0.fb.fq.map Aa), sC (p0.fb.fh.map Am), sC (p0.fu.map Aa), sC (p0.fa.fo.map Ae), iC p0.fa.fk, iC p0.fa.fp, iC p0.fa.fr, iC p0.fa.fj, iC p0.fa.fe, sC (p0.fa.fc.ff.map Aa), sC (p0.fa.fc.fd.map Aa), sC (p0.fa.fc.fg.map Bd), .own 90900]), (18, .vec 10 ((([(AW.mk 2 ((AC.mk 0 0 0 (⟨#[]⟩))) v4 0 0)] : List AW)).map As)), (90900, .vec 10 ((p0.fv ++ (([(AW.mk 2 ((AC.mk 0 0 0 (⟨#[]⟩))) v4 0 0)] : List AW))).map As))] tv ⟨rfl, rfl, rfl, tv⟩ rfl rfl).trans (sm [] [] [(90000, .box [sC (p0.fb.fi.map Aa), sC (p0.fb.fm.map Aa), sC (p0.fb.fq.map Aa), sC (p0.fb.fh.map Am), sC (p0.fu.map Aa), sC (p0.fa.fo.map Ae), iC p0.fa.fk, iC p0.fa.fp, iC p0.fa.fr, iC p0.fa.fj, iC p0.fa.fe, sC (p0.fa.fc.ff.map Aa), sC (p0.fa.fc.fd.map Aa), sC (p0.fa.fc.fg.map Bd), .own 90900]), (90900, .vec 10 ((p0.fv ++ (([(AW.mk 2 ((AC.mk 0 0 0 (⟨#[]⟩))) v4 0 0)] : List AW))).map As))] rfl rfl), ?_⟩
   exact ⟨⟨[], tv, rfl⟩, ⟨rfl, tv⟩, ⟨rfl, tv⟩⟩
  ·refine wq rfl (AL rfl (qe rfl ?_))
   refine A0 h (fun h => ?_) fun h => ?_
   ·refine Aj Az rfl (qw 2 rfl (C9 rfl (qf GA rfl (ql QC rfl (qm rfl ?_)))))
    refine Be h fun v7 a7 h => CQ (ds0 := [_]) [90000, 90900] [] [false, false] (Bk N ((Ac.mk ((Ad.mk p0.fb.fi p0.fb.fm p0.fb.fq p0.fb.fh)) p0.fu ((Af.mk p0.fa.fo p0.fa.fk p0.fa.fp p0.fa.fr p0.fa.fj p0.fa.fe ((Ai.mk p0.fa.fc.ff p0.fa.fc.fd p0.fa.fc.fg)))) p0.fv)) v7 a7) (.p rfl) Pc rfl ⟨rfl, tv⟩ rfl rfl (Bf rfl) ⟨rfl, rfl, tv⟩ rfl (Bm rfl) tv ⟨(fun _ => rfl), (fun _ => rfl), tv⟩ rfl rfl rfl ?_
    refine MB (.p rfl) rfl N2 Bs rfl ?_
    refine qm rfl ?_
    refine Be h fun v8 a8 h => CQ (ds0 := [_]) [90000, 90900] [] [false, false] (Df N ((Ac.mk ((Ad.mk p0.fb.fi p0.fb.fm p0.fb.fq p0.fb.fh)) p0.fu ((Af.mk p0.fa.fo p0.fa.fk p0.fa.fp p0.fa.fr p0.fa.fj p0.fa.fe ((Ai.mk p0.fa.fc.ff p0.fa.fc.fd p0.fa.fc.fg)))) p0.fv)) v8 a8) (.p rfl) QJ rfl ⟨rfl, tv⟩ rfl rfl (Bf rfl) ⟨rfl, rfl, tv⟩ rfl (Bm rfl) tv ⟨(fun _ => rfl), (fun _ => rfl), tv⟩ rfl rfl rfl ?_
    refine AG LL RY rfl (FD HF M2 LL rfl ?_)
    refine Ge h fun c9 h => JS (nn := 90905) (.p rfl) rfl rfl rfl (HK As _ _ _) ⟨rfl, tv⟩ rfl rfl HF HF M2 PC (Da rfl) LL rfl (Kz (f := As) (g := As) (xs := p0.fv) (ys := (([(AW.mk 3 ((AC.mk 0 0 0 (⟨#[]⟩))) v8 v7.fy 0)] : List AW))) c9) (JN As p0.fv (([(AW.mk 3 ((AC.mk 0 0 0 (⟨#[]⟩))) v8 v7.fy 0)] : List AW))) ?_
    refine C9 rfl (qf GA rfl (qs SK rfl (AJ (by kernel_rfl) ?_)))
    obtain rfl := sj h
    refine ⟨_, (CH (rn [(90900, 90905)]) [] [(90000, .box [sC (p0.fb.fi.map Aa), sC (p0.fb.fm.map Aa), sC (p0.fb.fq.map Aa), sC (p0.fb.fh.map Am), sC (p0.fu.map Aa), sC (p0.fa.fo.map Ae), iC p0.fa.fk, iC p0.fa.fp, iC p0.fa.fr, iC p0.fa.fj, iC p0.fa.fe, sC (p0.fa.fc.ff.map Aa), sC (p0.fa.fc.fd.map Aa), sC (p0.fa.fc.fg.map Bd), .own 90900]), (35, .vec 10 ((([(AW.mk 3 ((AC.mk 0 0 0 (⟨#[]⟩))) v8 v7.fy 0)] : List AW)).map As)), (90900, .vec 10 ((p0.fv ++ (([(AW.mk 3 ((AC.mk 0 0 0 (⟨#[]⟩))) v8 v7.fy 0)] : List AW))).map As))] tv ⟨rfl, rfl, rfl, tv⟩ rfl rfl).trans (sm [] [] [(90000, .box [sC (p0.fb.fi.map Aa), sC (p0.fb.fm.map Aa), sC (p0.fb.fq.map Aa), sC (p0.fb.fh.map Am), sC (p0.fu.map Aa), sC (p0.fa.fo.map Ae), iC p0.fa.fk, iC p0.fa.fp, iC p0.fa.fr, iC p0.fa.fj, iC p0.fa.fe, sC (p0.fa.fc.ff.map Aa), sC (p0.fa.fc.fd.map Aa), sC (p0.fa.fc.fg.map Bd), .own 90900]), (90900, .vec 10 ((p0.fv ++ (([(AW.mk 3 ((AC.mk 0 0 0 (⟨#[]⟩))) v8 v7.fy 0)] : List AW))).map As))] rfl rfl), ?_⟩
    exact ⟨⟨[], tv, rfl⟩, ⟨rfl, tv⟩, ⟨rfl, tv⟩⟩
   ·refine wq rfl (AL rfl (qe rfl ?_))
    refine A0 h (fun h => ?_) fun h => ?_
    ·refine Aj Az rfl (qw 2 rfl (C9 rfl (qf GA rfl (ql QC rfl (qm rfl ?_)))))
     refine Be h fun v11 a11 h => CQ (ds0 := [_]) [90000, 90900] [] [false, false] (Bk N ((Ac.mk ((Ad.mk p0.fb.fi p0.fb.fm p0.fb.fq p0.fb.fh)) p0.fu ((Af.mk p0.fa.fo p0.fa.fk p0.fa.fp p0.fa.fr p0.fa.fj p0.fa.fe ((Ai.mk p0.fa.fc.ff p0.fa.fc.fd p0.fa.fc.fg)))) p0.fv)) v11 a11) (.p rfl) Pc rfl ⟨rfl, tv⟩ rfl rfl (Bf rfl) ⟨rfl, rfl, tv⟩ rfl (Bm rfl) tv ⟨(fun _ => rfl), (fun _ => rfl), tv⟩ rfl rfl rfl ?_
     refine MB (.p rfl) rfl N2 Bs rfl ?_
     refine qm rfl (C9 rfl (qf AX rfl (qf FQ rfl (ql Bs rfl (AG Se Uf rfl (AG LL RY rfl (FD HF M2 LL rfl ?_)))))))
     refine Ge h fun c12 h => JS (nn := 90906) (.p rfl) rfl rfl rfl (HK As _ _ _) ⟨rfl, tv⟩ rfl rfl HF HF M2 PC (Da rfl) LL rfl (Kz (f := As) (g := As) (xs := p0.fv) (ys := (([(AW.mk 4 ((AC.mk 0 0 0 (⟨#[]⟩))) ((BL.mk p0.fa.fj 0 0)) 0 v11.fy)] : List AW))) c12) (JN As p0.fv (([(AW.mk 4 ((AC.mk 0 0 0 (⟨#[]⟩))) ((BL.mk p0.fa.fj 0 0)) 0 v11.fy)] : List AW))) ?_
     refine C9 rfl (qf GA rfl (qs SK rfl (AJ (by kernel_rfl) ?_)))
     obtain rfl := sj h
     refine ⟨_, (CH (rn [(90900, 90906)]) [] [(90000, .box [sC (p0.fb.fi.map Aa), sC (p0.fb.fm.map Aa), sC (p0.fb.fq.map Aa), sC (p0.fb.fh.map Am), sC (p0.fu.map Aa), sC (p0.fa.fo.map Ae), iC p0.fa.fk, iC p0.fa.fp, iC p0.fa.fr, iC p0.fa.fj, iC p0.fa.fe, sC (p0.fa.fc.ff.map Aa), sC (p0.fa.fc.fd.map Aa), sC (p0.fa.fc.fg.map Bd), .own 90900]), (56, .vec 10 ((([(AW.mk 4 ((AC.mk 0 0 0 (⟨#[]⟩))) ((BL.mk p0.fa.fj 0 0)) 0 v11.fy)] : List AW)).map As)), (90900, .vec 10 ((p0.fv ++ (([(AW.mk 4 ((AC.mk 0 0 0 (⟨#[]⟩))) ((BL.mk p0.fa.fj 0 0)) 0 v11.fy)] : List AW))).map As))] tv ⟨rfl, rfl, rfl, tv⟩ rfl rfl).trans (sm [] [] [(90000, .box [sC (p0.fb.fi.map Aa), sC (p0.fb.fm.map Aa), sC (p0.fb.fq.map Aa), sC (p0.fb.fh.map Am), sC (p0.fu.map Aa), sC (p0.fa.fo.map Ae), iC p0.fa.fk, iC p0.fa.fp, iC p0.fa.fr, iC p0.fa.fj, iC p0.fa.fe, sC (p0.fa.fc.ff.map Aa), sC (p0.fa.fc.fd.map Aa), sC (p0.fa.fc.fg.map Bd), .own 90900]), (90900, .vec 10 ((p0.fv ++ (([(AW.mk 4 ((AC.mk 0 0 0 (⟨#[]⟩))) ((BL.mk p0.fa.fj 0 0)) 0 v11.fy)] : List AW))).map As))] rfl rfl), ?_⟩
     exact ⟨⟨[], tv, rfl⟩, ⟨rfl, tv⟩, ⟨rfl, tv⟩⟩
    ·refine An ?_
     obtain rfl := sj h
     refine ⟨_, (sm [] [] [(90000, .box [sC (p0.fb.fi.map Aa), sC (p0.fb.fm.map Aa), sC (p0.fb.fq.map Aa), sC (p0.fb.fh.map Am), sC (p0.fu.map Aa), sC (p0.fa.fo.map Ae), iC p0.fa.fk, iC p0.fa.fp, iC p0.fa.fr, iC p0.fa.fj, iC p0.fa.fe, sC (p0.fa.fc.ff.map Aa), sC (p0.fa.fc.fd.map Aa), sC (p0.fa.fc.fg.map Bd), .own 90900]), (90900, .vec 10 (p0.fv.map As))] rfl rfl), ?_⟩
     exact ⟨⟨[], tv, rfl⟩, ⟨rfl, tv⟩, ⟨rfl, tv⟩⟩
theorem Fu (N : Nat) (p0 : Ac) (r : Ac) (h : CE N p0 = some r) : Ef zA 77 [oD (.ptr 90000 0)] [(.box [sC (p0.fb.fi.map Aa), sC (p0.fb.fm.map Aa), sC (p0.fb.fq.map Aa), sC (p0.fb.fh.map Am), sC (p0.fu.map Aa), sC (p0.fa.fo.map Ae), iC p0.fa.fk, iC p0.fa.fp, iC p0.fa.fr, iC p0.fa.fj, iC p0.fa.fe, sC (p0.fa.fc.ff.map Aa), sC (p0.fa.fc.fd.map Aa), sC (p0.fa.fc.fg.map Bd), .own 90900], .box [sC (r.fb.fi.map Aa), sC (r.fb.fm.map Aa), sC (r.fb.fq.map Aa), sC (r.fb.fh.map Am), sC (r.fu.map Aa), sC (r.fa.fo.map Ae), iC r.fa.fk, iC r.fa.fp, iC r.fa.fr, iC r.fa.fj, iC r.fa.fe, sC (r.fa.fc.ff.map Aa), sC (r.fa.fc.fd.map Aa), sC (r.fa.fc.fg.map Bd), .own 0])] (.vec 10 (p0.fv.map As)) [.vec 10 (r.fv.map As)] (.tup []) := by
 unfold CE at h
 refine CK (n := 12) (rs := []) [90900] Tryz.func77 rfl rfl rfl (Da rfl) (Da rfl) rfl rfl rfl (Da rfl) rfl (Da rfl) rfl rfl rfl fun w0 S0 GL => Ja ?_
 refine Ag (sm [] [(0, oD (.ptr 90000 0))] [(90000, .box [sC (p0.fb.fi.map Aa), sC (p0.fb.fm.map Aa), sC (p0.fb.fq.map Aa), sC (p0.fb.fh.map Am), sC (p0.fu.map Aa), sC (p0.fa.fo.map Ae), iC p0.fa.fk, iC p0.fa.fp, iC p0.fa.fr, iC p0.fa.fj, iC p0.fa.fe, sC (p0.fa.fc.ff.map Aa), sC (p0.fa.fc.fd.map Aa), sC (p0.fa.fc.fg.map Bd), .own 90900]), (90900, .vec 10 (p0.fv.map As))] rfl rfl) ?_
 refine AF h (fun v1 => mk [(0, oD (.ptr 90000 0))] [(90000, .box [sC (v1.2.1.map Aa), sC (v1.2.2.1.map Aa), sC (v1.2.2.2.1.map Aa), sC (v1.2.2.2.2.1.map Am), sC (v1.2.2.2.2.2.1.map Aa), sC (v1.2.2.2.2.2.2.1.map Ae), iC v1.2.2.2.2.2.2.2.1, iC v1.2.2.2.2.2.2.2.2.1, iC v1.2.2.2.2.2.2.2.2.2.1, iC v1.2.2.2.2.2.2.2.2.2.2.1, iC v1.2.2.2.2.2.2.2.2.2.2.2.1, sC (v1.2.2.2.2.2.2.2.2.2.2.2.2.1.map Aa), sC (v1.2.2.2.2.2.2.2.2.2.2.2.2.2.1.map Aa), sC (v1.2.2.2.2.2.2.2.2.2.2.2.2.2.2.map Bd), .own 90900]), (90900, .vec 10 (v1.1.map As))]) (fun j1 h => ?_) (fun v1 h => ?_)
 ·refine wq rfl (qm rfl (C9 rfl (qf AX rfl (qf Bv rfl (ql Bs rfl (AL rfl (Ab ?_)))))))
  refine A0 h (fun h => ?_) fun h => ?_
  ·refine Aj Az rfl (qm rfl ?_)
   refine Be h fun v3 a3 h => Dh (ds0 := [_]) [90000] 90900 [90905] [true] (HO N ((Ac.mk ((Ad.mk p0.fb.fi p0.fb.fm p0.fb.fq p0.fb.fh)) p0.fu ((Af.mk p0.fa.fo p0.fa.fk p0.fa.fp p0.fa.fr p0.fa.fj p0.fa.fe ((Ai.mk p0.fa.fc.ff p0.fa.fc.fd p0.fa.fc.fg)))) p0.fv)) v3 a3) (.p rfl) UJ rfl ⟨rfl, tv⟩ rfl rfl rfl ⟨rfl, tv⟩ rfl rfl rfl rfl rfl rfl ⟨rfl, tv⟩ ⟨(fun h => by cases h), tv⟩ rfl rfl rfl ?_
   refine Ab ?_
   exact Rs _ h ((CH (rn [(90900, 90905)]) [(0, oD (.ptr 90000 0))] [(90000, .box [sC (v3.fb.fi.map Aa), sC (v3.fb.fm.map Aa), sC (v3.fb.fq.map Aa), sC (v3.fb.fh.map Am), sC (v3.fu.map Aa), sC (v3.fa.fo.map Ae), iC v3.fa.fk, iC v3.fa.fp, iC v3.fa.fr, iC v3.fa.fj, iC v3.fa.fe, sC (v3.fa.fc.ff.map Aa), sC (v3.fa.fc.fd.map Aa), sC (v3.fa.fc.fg.map Bd), .own 90900]), (90900, .vec 10 (v3.fv.map As))] ⟨rfl, tv⟩ ⟨rfl, rfl, tv⟩ rfl rfl).trans (sm [] _ _ rfl rfl))
  ·refine An ?_
   exact sn [] h
 ·refine Aj Az rfl (qm rfl ?_)
  refine Be h fun v4 a4 h => Dh (ds0 := [_]) [90000] 90900 [90906] [true] (Dq N ((Ac.mk ((Ad.mk v1.2.1 v1.2.2.1 v1.2.2.2.1 v1.2.2.2.2.1)) v1.2.2.2.2.2.1 ((Af.mk v1.2.2.2.2.2.2.1 v1.2.2.2.2.2.2.2.1 v1.2.2.2.2.2.2.2.2.1 v1.2.2.2.2.2.2.2.2.2.1 v1.2.2.2.2.2.2.2.2.2.2.1 v1.2.2.2.2.2.2.2.2.2.2.2.1 ((Ai.mk v1.2.2.2.2.2.2.2.2.2.2.2.2.1 v1.2.2.2.2.2.2.2.2.2.2.2.2.2.1 v1.2.2.2.2.2.2.2.2.2.2.2.2.2.2)))) v1.1)) v4 a4) (.p rfl) QH rfl ⟨rfl, tv⟩ rfl rfl rfl ⟨rfl, tv⟩ rfl rfl rfl rfl rfl rfl ⟨rfl, tv⟩ ⟨(fun h => by cases h), tv⟩ rfl rfl rfl ?_
  refine Ab ?_
  obtain rfl := sj h
  refine ⟨_, (CH (rn [(90900, 90906)]) [] [(90000, .box [sC (v4.fb.fi.map Aa), sC (v4.fb.fm.map Aa), sC (v4.fb.fq.map Aa), sC (v4.fb.fh.map Am), sC (v4.fu.map Aa), sC (v4.fa.fo.map Ae), iC v4.fa.fk, iC v4.fa.fp, iC v4.fa.fr, iC v4.fa.fj, iC v4.fa.fe, sC (v4.fa.fc.ff.map Aa), sC (v4.fa.fc.fd.map Aa), sC (v4.fa.fc.fg.map Bd), .own 90900]), (90900, .vec 10 (v4.fv.map As))] tv ⟨rfl, rfl, tv⟩ rfl rfl).trans (sm [] [] [(90000, .box [sC (v4.fb.fi.map Aa), sC (v4.fb.fm.map Aa), sC (v4.fb.fq.map Aa), sC (v4.fb.fh.map Am), sC (v4.fu.map Aa), sC (v4.fa.fo.map Ae), iC v4.fa.fk, iC v4.fa.fp, iC v4.fa.fr, iC v4.fa.fj, iC v4.fa.fe, sC (v4.fa.fc.ff.map Aa), sC (v4.fa.fc.fd.map Aa), sC (v4.fa.fc.fg.map Bd), .own 90900]), (90900, .vec 10 (v4.fv.map As))] rfl rfl), ?_⟩
  exact ⟨⟨[], tv, rfl⟩, ⟨rfl, tv⟩, ⟨rfl, tv⟩⟩
theorem DP (N : Nat) (p0 : Ac) (r : Ac) (h : BY N p0 = some r) : Ef zA 81 [oD (.ptr 90000 0)] [(.box [sC (p0.fb.fi.map Aa), sC (p0.fb.fm.map Aa), sC (p0.fb.fq.map Aa), sC (p0.fb.fh.map Am), sC (p0.fu.map Aa), sC (p0.fa.fo.map Ae), iC p0.fa.fk, iC p0.fa.fp, iC p0.fa.fr, iC p0.fa.fj, iC p0.fa.fe, sC (p0.fa.fc.ff.map Aa), sC (p0.fa.fc.fd.map Aa), sC (p0.fa.fc.fg.map Bd), .own 90900], .box [sC (r.fb.fi.map Aa), sC (r.fb.fm.map Aa), sC (r.fb.fq.map Aa), sC (r.fb.fh.map Am), sC (r.fu.map Aa), sC (r.fa.fo.map Ae), iC r.fa.fk, iC r.fa.fp, iC r.fa.fr, iC r.fa.fj, iC r.fa.fe, sC (r.fa.fc.ff.map Aa), sC (r.fa.fc.fd.map Aa), sC (r.fa.fc.fg.map Bd), .own 0])] (.vec 10 (p0.fv.map As)) [.vec 10 (r.fv.map As)] (.tup []) := by
 unfold BY at h
 refine CK (n := 46) (rs := []) [90900] Tryz.func81 rfl rfl rfl (Da rfl) (Da rfl) rfl rfl rfl (Da rfl) rfl (Da rfl) rfl rfl rfl fun w0 S0 GL => Ja ?_
 refine Ag (sm [] [(0, oD (.ptr 90000 0))] [(90000, .box [sC (p0.fb.fi.map Aa), sC (p0.fb.fm.map Aa), sC (p0.fb.fq.map Aa), sC (p0.fb.fh.map Am), sC (p0.fu.map Aa), sC (p0.fa.fo.map Ae), iC p0.fa.fk, iC p0.fa.fp, iC p0.fa.fr, iC p0.fa.fj, iC p0.fa.fe, sC (p0.fa.fc.ff.map Aa), sC (p0.fa.fc.fd.map Aa), sC (p0.fa.fc.fg.map Bd), .own 90900]), (90900, .vec 10 (p0.fv.map As))] rfl rfl) (wq rfl (qm rfl ?_))
 refine Be h fun v1 a1 h => Dh (ds0 := [_, _]) [90000] 90900 [90902] [true] (CC N ((Ac.mk ((Ad.mk p0.fb.fi p0.fb.fm p0.fb.fq p0.fb.fh)) p0.fu ((Af.mk p0.fa.fo p0.fa.fk p0.fa.fp p0.fa.fr p0.fa.fj p0.fa.fe ((Ai.mk p0.fa.fc.ff p0.fa.fc.fd p0.fa.fc.fg)))) p0.fv)) 2 v1 a1) (.p rfl) Sr rfl ⟨rfl, rfl, tv⟩ rfl rfl rfl ⟨rfl, tv⟩ rfl rfl rfl rfl rfl rfl ⟨rfl, tv⟩ ⟨(fun h => by cases h), tv⟩ rfl rfl rfl ?_
 refine Ab (Ag (CH (rn [(90900, 90902)]) [(0, oD (.ptr 90000 0))] [(90000, .box [sC (v1.fb.fi.map Aa), sC (v1.fb.fm.map Aa), sC (v1.fb.fq.map Aa), sC (v1.fb.fh.map Am), sC (v1.fu.map Aa), sC (v1.fa.fo.map Ae), iC v1.fa.fk, iC v1.fa.fp, iC v1.fa.fr, iC v1.fa.fj, iC v1.fa.fe, sC (v1.fa.fc.ff.map Aa), sC (v1.fa.fc.fd.map Aa), sC (v1.fa.fc.fg.map Bd), .own 90900]), (90900, .vec 10 (v1.fv.map As))] ⟨rfl, tv⟩ ⟨rfl, rfl, tv⟩ rfl rfl) ?_)
 refine AF h (fun v2 => mk [(0, oD (.ptr 90000 0))] [(90000, .box [sC (v2.1.map Aa), sC (v2.2.1.map Aa), sC (v2.2.2.1.map Aa), sC (v2.2.2.2.1.map Am), sC (v2.2.2.2.2.1.map Aa), sC (v2.2.2.2.2.2.1.map Ae), iC v2.2.2.2.2.2.2.1, iC v2.2.2.2.2.2.2.2.1, iC v2.2.2.2.2.2.2.2.2.1, iC v2.2.2.2.2.2.2.2.2.2.1, iC v2.2.2.2.2.2.2.2.2.2.2.1, sC (v2.2.2.2.2.2.2.2.2.2.2.2.1.map Aa), sC (v2.2.2.2.2.2.2.2.2.2.2.2.2.1.map Aa), sC (v2.2.2.2.2.2.2.2.2.2.2.2.2.2.map Bd), .own 90900]), (90900, .vec 10 (v1.fv.map As))]) (fun j2 h => ?_) (fun v2 h => ?_)
 ·refine wq rfl (qm rfl ?_)
  refine Be h fun v3 a3 h => CQ (ds0 := [_]) [90000, 90900] [] [false, false] (Bk N ((Ac.mk ((Ad.mk v1.fb.fi v1.fb.fm v1.fb.fq v1.fb.fh)) v1.fu ((Af.mk v1.fa.fo v1.fa.fk v1.fa.fp v1.fa.fr v1.fa.fj v1.fa.fe ((Ai.mk v1.fa.fc.ff v1.fa.fc.fd v1.fa.fc.fg)))) v1.fv)) v3 a3) (.p rfl) Pc rfl ⟨rfl, tv⟩ rfl rfl (Bf rfl) ⟨rfl, rfl, tv⟩ rfl (Bm rfl) tv ⟨(fun _ => rfl), (fun _ => rfl), tv⟩ rfl rfl rfl ?_
  refine qz Gd rfl (qs BG rfl (Ab (wq rfl (qf DJ rfl (ql Bs rfl (Ba rfl (Ab ?_)))))))
  refine A0 h (fun h => ?_) fun h => ?_
  ·refine Aj Az rfl (qm rfl (qL E5 BG rfl ?_))
   refine Be h fun v5 a5 h => CQ (ds0 := [_, _]) [90000, 90900] [] [true, false] (DV N ((Ac.mk ((Ad.mk v1.fb.fi v1.fb.fm v1.fb.fq v1.fb.fh)) v1.fu ((Af.mk v1.fa.fo v1.fa.fk v1.fa.fp v1.fa.fr v1.fa.fj v1.fa.fe ((Ai.mk v1.fa.fc.ff v1.fa.fc.fd v1.fa.fc.fg)))) v1.fv)) v3 v5 a5) (.p rfl) QW rfl ⟨rfl, rfl, tv⟩ rfl rfl (Bf rfl) ⟨rfl, rfl, tv⟩ rfl (Bm rfl) tv ⟨(fun h => by cases h), (fun _ => rfl), tv⟩ rfl rfl rfl ?_
   refine Ab ?_
   exact sn [] h
  ·refine An ?_
   exact sn [] h
 ·refine wq rfl (qm rfl (C9 rfl (qf AX rfl (qf Dk rfl (ql Bs rfl (A6 rfl (C9 rfl (qf AX rfl (qf Dk rfl (qs Dz rfl (Ab (wq rfl (qw 2 rfl (C9 rfl (qf AX rfl (qf Ep rfl (qs Dz rfl (C9 rfl (qf AX rfl (qf Bv rfl (qs Dz rfl (Ab (wq rfl (qm rfl (C9 rfl (qf AX rfl (qf Dk rfl (ql Bs rfl (qm rfl (C9 rfl (qf AX rfl (qf FK rfl (ql Kk rfl (AT BH rfl (AL rfl ?_)))))))))))))))))))))))))))))))))))
  refine AJ (by kernel_rfl) ?_
  refine A0 h (fun h => ?_) fun h => ?_
  ·refine Aj Az rfl (qm rfl (C9 rfl (qf AX rfl (qf Bv rfl (qs Dz rfl (Ab ?_))))))
   obtain rfl := sj h
   refine ⟨_, (sm [] [] [(90000, .box [sC (v2.1.map Aa), sC (v2.2.1.map Aa), sC (v2.2.2.1.map Aa), sC (v2.2.2.2.1.map Am), sC (v2.2.2.2.2.1.map Aa), sC (v2.2.2.2.2.2.1.map Ae), iC ((wI .i64 (v2.2.2.2.2.2.2.1 + 1))), iC 6, iC 0, iC v2.2.2.2.2.2.2.2.2.2.1, iC v2.2.2.2.2.2.2.2.2.2.2.1, sC (v2.2.2.2.2.2.2.2.2.2.2.2.1.map Aa), sC (v2.2.2.2.2.2.2.2.2.2.2.2.2.1.map Aa), sC (v2.2.2.2.2.2.2.2.2.2.2.2.2.2.map Bd), .own 90900]), (90900, .vec 10 (v1.fv.map As))] rfl rfl), ?_⟩
   exact ⟨⟨[], tv, rfl⟩, ⟨rfl, tv⟩, ⟨rfl, tv⟩⟩
  ·refine An ?_
   obtain rfl := sj h
   refine ⟨_, (sm [] [] [(90000, .box [sC (v2.1.map Aa), sC (v2.2.1.map Aa), sC (v2.2.2.1.map Aa), sC (v2.2.2.2.1.map Am), sC (v2.2.2.2.2.1.map Aa), sC (v2.2.2.2.2.2.1.map Ae), iC ((wI .i64 (v2.2.2.2.2.2.2.1 + 1))), iC 0, iC 0, iC v2.2.2.2.2.2.2.2.2.2.1, iC v2.2.2.2.2.2.2.2.2.2.2.1, sC (v2.2.2.2.2.2.2.2.2.2.2.2.1.map Aa), sC (v2.2.2.2.2.2.2.2.2.2.2.2.2.1.map Aa), sC (v2.2.2.2.2.2.2.2.2.2.2.2.2.2.map Bd), .own 90900]), (90900, .vec 10 (v1.fv.map As))] rfl rfl), ?_⟩
   exact ⟨⟨[], tv, rfl⟩, ⟨rfl, tv⟩, ⟨rfl, tv⟩⟩
theorem Io (N : Nat) (p0 : Ac) (p1 : Cr) (r : Ac) (h : DT N p0 p1 = some r) : Ef zA 78 [oD (.ptr 90000 0), .e (.agg (BU p1))] [(.box [sC (p0.fb.fi.map Aa), sC (p0.fb.fm.map Aa), sC (p0.fb.fq.map Aa), sC (p0.fb.fh.map Am), sC (p0.fu.map Aa), sC (p0.fa.fo.map Ae), iC p0.fa.fk, iC p0.fa.fp, iC p0.fa.fr, iC p0.fa.fj, iC p0.fa.fe, sC (p0.fa.fc.ff.map Aa), sC (p0.fa.fc.fd.map Aa), sC (p0.fa.fc.fg.map Bd), .own 90900], .box [sC (r.fb.fi.map Aa), sC (r.fb.fm.map Aa), sC (r.fb.fq.map Aa), sC (r.fb.fh.map Am), sC (r.fu.map Aa), sC (r.fa.fo.map Ae), iC r.fa.fk, iC r.fa.fp, iC r.fa.fr, iC r.fa.fj, iC r.fa.fe, sC (r.fa.fc.ff.map Aa), sC (r.fa.fc.fd.map Aa), sC (r.fa.fc.fg.map Bd), .own 0])] (.vec 10 (p0.fv.map As)) [.vec 10 (r.fv.map As)] (.tup []) := by
 unfold DT at h
 refine CK (n := 96) (rs := []) [90900] Tryz.func78 rfl rfl rfl (Da rfl) (Da rfl) rfl rfl rfl (Da rfl) rfl (Da rfl) rfl rfl rfl fun w0 S0 GL => Ja ?_
 refine Ag (sm [] [(0, oD (.ptr 90000 0)), (1, .e (.agg (BU p1)))] [(90000, .box [sC (p0.fb.fi.map Aa), sC (p0.fb.fm.map Aa), sC (p0.fb.fq.map Aa), sC (p0.fb.fh.map Am), sC (p0.fu.map Aa), sC (p0.fa.fo.map Ae), iC p0.fa.fk, iC p0.fa.fp, iC p0.fa.fr, iC p0.fa.fj, iC p0.fa.fe, sC (p0.fa.fc.ff.map Aa), sC (p0.fa.fc.fd.map Aa), sC (p0.fa.fc.fg.map Bd), .own 90900]), (90900, .vec 10 (p0.fv.map As))] rfl rfl) (wq rfl (qb rfl (Ab (AH ?_))))
 refine AF h (fun v1 => mk [(0, oD (.ptr 90000 0)), (3, oD (.ptr 3 0)), (18, bD v1)] [(3, .box (BU p1)), (90000, .box [sC (p0.fb.fi.map Aa), sC (p0.fb.fm.map Aa), sC (p0.fb.fq.map Aa), sC (p0.fb.fh.map Am), sC (p0.fu.map Aa), sC (p0.fa.fo.map Ae), iC p0.fa.fk, iC p0.fa.fp, iC p0.fa.fr, iC p0.fa.fj, iC p0.fa.fe, sC (p0.fa.fc.ff.map Aa), sC (p0.fa.fc.fd.map Aa), sC (p0.fa.fc.fg.map Bd), .own 90900]), (90900, .vec 10 (p0.fv.map As))]) (fun j1 h => ?_) (fun v1 h => ?_)
 ·refine Aj Az rfl (qm rfl (C9 rfl (qf AX rfl (qf Bv rfl (ql Bs rfl (Ba rfl (qm rfl ?_)))))))
  refine Dv 11 h rfl (fun h => ?_) fun h => ?_
  ·refine qm rfl (C9 rfl (qf AX rfl (qf Bv rfl (ql Bs rfl (Ba rfl (qp rfl (Ab ?_)))))))
   exact sn [] h
  ·refine qw 6 rfl (qp rfl (Ab ?_))
   exact sn [] h
 ·refine A0 h (fun h => ?_) fun h => ?_
  ·obtain rfl := sj h
   refine Ap ⟨_, (sm [] [] [(90000, .box [sC (p0.fb.fi.map Aa), sC (p0.fb.fm.map Aa), sC (p0.fb.fq.map Aa), sC (p0.fb.fh.map Am), sC (p0.fu.map Aa), sC (p0.fa.fo.map Ae), iC p0.fa.fk, iC p0.fa.fp, iC p0.fa.fr, iC p0.fa.fj, iC p0.fa.fe, sC (p0.fa.fc.ff.map Aa), sC (p0.fa.fc.fd.map Aa), sC (p0.fa.fc.fg.map Bd), .own 90900]), (90900, .vec 10 (p0.fv.map As))] rfl rfl), ?_⟩
   exact ⟨⟨[], tv, rfl⟩, ⟨rfl, tv⟩, ⟨rfl, tv⟩⟩
  ·refine An (wp rfl (qm rfl ?_))
   refine Be h fun v4 a4 h => CQ (ds0 := [_]) [90000, 90900] [] [false, false] (Df N ((Ac.mk ((Ad.mk p0.fb.fi p0.fb.fm p0.fb.fq p0.fb.fh)) p0.fu ((Af.mk p0.fa.fo p0.fa.fk p0.fa.fp p0.fa.fr p0.fa.fj p0.fa.fe ((Ai.mk p0.fa.fc.ff p0.fa.fc.fd p0.fa.fc.fg)))) p0.fv)) v4 a4) (.p rfl) QJ rfl ⟨rfl, tv⟩ rfl rfl (Bf rfl) ⟨rfl, rfl, tv⟩ rfl (Bm rfl) tv ⟨(fun _ => rfl), (fun _ => rfl), tv⟩ rfl rfl rfl ?_
   refine qf NI rfl (ql Bs rfl (qf Sk rfl (ql Bs rfl (qf Sj rfl (ql Bs rfl (AG Se Uf rfl ?_))))))
   refine To [.int .i64 v4.fj, .int .i64 v4.fr, .int .i64 v4.fA] [.int .i64 p1.fj, .int .i64 p1.fr, .int .i64 p1.fA] (.p rfl) rfl rfl UP rfl ?_
   refine AJ (by kernel_rfl) ?_
   refine A0 h (fun h => ?_) fun h => ?_
   ·obtain rfl := sj h
    refine Ap ⟨_, (sm [] [] [(90000, .box [sC (p0.fb.fi.map Aa), sC (p0.fb.fm.map Aa), sC (p0.fb.fq.map Aa), sC (p0.fb.fh.map Am), sC (p0.fu.map Aa), sC (p0.fa.fo.map Ae), iC p0.fa.fk, iC p0.fa.fp, iC p0.fa.fr, iC p0.fa.fj, iC p0.fa.fe, sC (p0.fa.fc.ff.map Aa), sC (p0.fa.fc.fd.map Aa), sC (p0.fa.fc.fg.map Bd), .own 90900]), (90900, .vec 10 (p0.fv.map As))] rfl rfl), ?_⟩
    exact ⟨⟨[], tv, rfl⟩, ⟨rfl, tv⟩, ⟨rfl, tv⟩⟩
   ·refine An (wq rfl (qm rfl ?_))
    refine Be h fun v6 a6 h => CQ (ds0 := [_]) [90000, 90900] [] [false, false] (Bk N ((Ac.mk ((Ad.mk p0.fb.fi p0.fb.fm p0.fb.fq p0.fb.fh)) p0.fu ((Af.mk p0.fa.fo p0.fa.fk p0.fa.fp p0.fa.fr p0.fa.fj p0.fa.fe ((Ai.mk p0.fa.fc.ff p0.fa.fc.fd p0.fa.fc.fg)))) p0.fv)) v6 a6) (.p rfl) Pc rfl ⟨rfl, tv⟩ rfl rfl (Bf rfl) ⟨rfl, rfl, tv⟩ rfl (Bm rfl) tv ⟨(fun _ => rfl), (fun _ => rfl), tv⟩ rfl rfl rfl ?_
    refine qz Gd rfl (qs BG rfl (Ab ?_))
    refine AF h (fun v7 => mk [(0, oD (.ptr 90000 0))] [(90000, .box [sC (p0.fb.fi.map Aa), sC (p0.fb.fm.map Aa), sC (p0.fb.fq.map Aa), sC (p0.fb.fh.map Am), sC (p0.fu.map Aa), sC (p0.fa.fo.map Ae), iC p0.fa.fk, iC v7.1, iC v7.2, iC p0.fa.fj, iC p0.fa.fe, sC (p0.fa.fc.ff.map Aa), sC (p0.fa.fc.fd.map Aa), sC (p0.fa.fc.fg.map Bd), .own 90900]), (90900, .vec 10 (p0.fv.map As))]) (fun j7 h => ?_) (fun v7 h => ?_)
    ·refine AI (wq rfl (qm rfl (C9 rfl (qf AX rfl (qf Bv rfl (ql Bs rfl (AL rfl (qe rfl ?_))))))))
     refine A0 h (fun h => ?_) fun h => ?_
     ·refine wq rfl (qm rfl (qf CB rfl (ql Bs rfl (AG Gd Pw rfl ?_))))
      refine Be h fun v9 a9 h => CQ (ds0 := [_, _]) [90000, 90900] [] [true, false] (DV N ((Ac.mk ((Ad.mk p0.fb.fi p0.fb.fm p0.fb.fq p0.fb.fh)) p0.fu ((Af.mk p0.fa.fo p0.fa.fk p0.fa.fp p0.fa.fr p0.fa.fj p0.fa.fe ((Ai.mk p0.fa.fc.ff p0.fa.fc.fd p0.fa.fc.fg)))) p0.fv)) ((Al.mk 4 v6.fy 0)) v9 a9) (.p rfl) QW rfl ⟨rfl, rfl, tv⟩ rfl rfl (Bf rfl) ⟨rfl, rfl, tv⟩ rfl (Bm rfl) tv ⟨(fun h => by cases h), (fun _ => rfl), tv⟩ rfl rfl rfl ?_
      refine Ab (wq rfl (qw 2 rfl (C9 rfl (qf AX rfl (qf Bv rfl (qs Dz rfl (C9 rfl (qf AX rfl (qf Ep rfl (qs Dz rfl (Ab ?_)))))))))))
      obtain rfl := sj h
      refine Ap ⟨_, (sm [] [] [(90000, .box [sC (v9.fb.fi.map Aa), sC (v9.fb.fm.map Aa), sC (v9.fb.fq.map Aa), sC (v9.fb.fh.map Am), sC (v9.fu.map Aa), sC (v9.fa.fo.map Ae), iC v9.fa.fk, iC 5, iC 0, iC v9.fa.fj, iC v9.fa.fe, sC (v9.fa.fc.ff.map Aa), sC (v9.fa.fc.fd.map Aa), sC (v9.fa.fc.fg.map Bd), .own 90900]), (90900, .vec 10 (p0.fv.map As))] rfl rfl), ?_⟩
      exact ⟨⟨[], tv, rfl⟩, ⟨rfl, tv⟩, ⟨rfl, tv⟩⟩
     ·refine wq rfl (qf DJ rfl (ql Bs rfl (AL rfl (qe rfl ?_))))
      refine A0 h (fun h => ?_) fun h => ?_
      ·refine Aj Az rfl (qm rfl (C9 rfl (qf AX rfl (qf Bv rfl (qs Dz rfl (Ab ?_))))))
       exact sn [] h
      ·refine wq rfl (qm rfl (C9 rfl (qf AX rfl (qf Ep rfl (ql Bs rfl (A6 rfl (qm rfl (C9 rfl (qf MK rfl (ql B6 rfl (qf CB rfl (ql Bs rfl ?_))))))))))))
       refine Be h fun v11 a11 h => Av [] (FT N p0.fu v6.fy v11 a11) RC rfl (qm rfl (C9 rfl (qf MK rfl (ql B6 rfl (qf CB rfl (ql Bs rfl ?_))))))
       refine Cn h fun v12 a12 b12 h => qi AP Dz a12 (Ao b12) rfl (qk Bs rfl (A6 rfl (A8 rfl (qa rfl (AJ (by kernel_rfl) ?_)))))
       refine A0 h (fun h => ?_) fun h => ?_
       ·refine Aj Az rfl (qm rfl (C9 rfl (qf AX rfl (qf Ep rfl (ql Bs rfl (A6 rfl (C9 rfl (qf AX rfl (qf Ep rfl (qs Dz rfl (Ab ?_)))))))))))
        exact sn [] h
       ·refine wq rfl (qm rfl ?_)
        refine Be h fun v14 a14 h => Dh (ds0 := [_]) [90000] 90900 [90905] [true] (DP N ((Ac.mk ((Ad.mk p0.fb.fi p0.fb.fm p0.fb.fq p0.fb.fh)) p0.fu ((Af.mk p0.fa.fo p0.fa.fk p0.fa.fp p0.fa.fr p0.fa.fj p0.fa.fe ((Ai.mk p0.fa.fc.ff p0.fa.fc.fd p0.fa.fc.fg)))) p0.fv)) v14 a14) (.p rfl) TY rfl ⟨rfl, tv⟩ rfl rfl rfl ⟨rfl, tv⟩ rfl rfl rfl rfl rfl rfl ⟨rfl, tv⟩ ⟨(fun h => by cases h), tv⟩ rfl rfl rfl ?_
        refine Ab (Ag (CH (rn [(90900, 90905)]) [] [(3, .box (BU p1)), (4, .box (Bz v6)), (90000, .box [sC (v14.fb.fi.map Aa), sC (v14.fb.fm.map Aa), sC (v14.fb.fq.map Aa), sC (v14.fb.fh.map Am), sC (v14.fu.map Aa), sC (v14.fa.fo.map Ae), iC v14.fa.fk, iC v14.fa.fp, iC v14.fa.fr, iC v14.fa.fj, iC v14.fa.fe, sC (v14.fa.fc.ff.map Aa), sC (v14.fa.fc.fd.map Aa), sC (v14.fa.fc.fg.map Bd), .own 90900]), (90900, .vec 10 (v14.fv.map As))] tv ⟨rfl, rfl, rfl, rfl, tv⟩ rfl rfl) ?_)
        obtain rfl := sj h
        refine Ap ⟨_, (sm [] [] [(90000, .box [sC (v14.fb.fi.map Aa), sC (v14.fb.fm.map Aa), sC (v14.fb.fq.map Aa), sC (v14.fb.fh.map Am), sC (v14.fu.map Aa), sC (v14.fa.fo.map Ae), iC v14.fa.fk, iC v14.fa.fp, iC v14.fa.fr, iC v14.fa.fj, iC v14.fa.fe, sC (v14.fa.fc.ff.map Aa), sC (v14.fa.fc.fd.map Aa), sC (v14.fa.fc.fg.map Bd), .own 90900]), (90900, .vec 10 (v14.fv.map As))] rfl rfl), ?_⟩
        exact ⟨⟨[], tv, rfl⟩, ⟨rfl, tv⟩, ⟨rfl, tv⟩⟩
    ·refine Aj Az rfl (qm rfl ?_)
     refine Be h fun v15 a15 h => Dh (ds0 := [_]) [90000] 90900 [90906] [true] (Dq N ((Ac.mk ((Ad.mk p0.fb.fi p0.fb.fm p0.fb.fq p0.fb.fh)) p0.fu ((Af.mk p0.fa.fo p0.fa.fk v7.1 v7.2 p0.fa.fj p0.fa.fe ((Ai.mk p0.fa.fc.ff p0.fa.fc.fd p0.fa.fc.fg)))) p0.fv)) v15 a15) (.p rfl) QH rfl ⟨rfl, tv⟩ rfl rfl rfl ⟨rfl, tv⟩ rfl rfl rfl rfl rfl rfl ⟨rfl, tv⟩ ⟨(fun h => by cases h), tv⟩ rfl rfl rfl ?_
     refine Ab ?_
     obtain rfl := sj h
     refine ⟨_, (CH (rn [(90900, 90906)]) [] [(90000, .box [sC (v15.fb.fi.map Aa), sC (v15.fb.fm.map Aa), sC (v15.fb.fq.map Aa), sC (v15.fb.fh.map Am), sC (v15.fu.map Aa), sC (v15.fa.fo.map Ae), iC v15.fa.fk, iC v15.fa.fp, iC v15.fa.fr, iC v15.fa.fj, iC v15.fa.fe, sC (v15.fa.fc.ff.map Aa), sC (v15.fa.fc.fd.map Aa), sC (v15.fa.fc.fg.map Bd), .own 90900]), (90900, .vec 10 (v15.fv.map As))] tv ⟨rfl, rfl, tv⟩ rfl rfl).trans (sm [] [] [(90000, .box [sC (v15.fb.fi.map Aa), sC (v15.fb.fm.map Aa), sC (v15.fb.fq.map Aa), sC (v15.fb.fh.map Am), sC (v15.fu.map Aa), sC (v15.fa.fo.map Ae), iC v15.fa.fk, iC v15.fa.fp, iC v15.fa.fr, iC v15.fa.fj, iC v15.fa.fe, sC (v15.fa.fc.ff.map Aa), sC (v15.fa.fc.fd.map Aa), sC (v15.fa.fc.fg.map Bd), .own 90900]), (90900, .vec 10 (v15.fv.map As))] rfl rfl), ?_⟩
     exact ⟨⟨[], tv, rfl⟩, ⟨rfl, tv⟩, ⟨rfl, tv⟩⟩
theorem HY (N : Nat) (p0 : Ac) (p1 : Cr) (r : Ac) (h : DB N p0 p1 = some r) : Ef zA 79 [oD (.ptr 90000 0), .e (.agg (BU p1))] [(.box [sC (p0.fb.fi.map Aa), sC (p0.fb.fm.map Aa), sC (p0.fb.fq.map Aa), sC (p0.fb.fh.map Am), sC (p0.fu.map Aa), sC (p0.fa.fo.map Ae), iC p0.fa.fk, iC p0.fa.fp, iC p0.fa.fr, iC p0.fa.fj, iC p0.fa.fe, sC (p0.fa.fc.ff.map Aa), sC (p0.fa.fc.fd.map Aa), sC (p0.fa.fc.fg.map Bd), .own 90900], .box [sC (r.fb.fi.map Aa), sC (r.fb.fm.map Aa), sC (r.fb.fq.map Aa), sC (r.fb.fh.map Am), sC (r.fu.map Aa), sC (r.fa.fo.map Ae), iC r.fa.fk, iC r.fa.fp, iC r.fa.fr, iC r.fa.fj, iC r.fa.fe, sC (r.fa.fc.ff.map Aa), sC (r.fa.fc.fd.map Aa), sC (r.fa.fc.fg.map Bd), .own 0])] (.vec 10 (p0.fv.map As)) [.vec 10 (r.fv.map As)] (.tup []) := by
 unfold DB at h
 refine CK (n := 32) (rs := []) [90900] Tryz.func79 rfl rfl rfl (Da rfl) (Da rfl) rfl rfl rfl (Da rfl) rfl (Da rfl) rfl rfl rfl fun w0 S0 GL => Ja ?_
 refine Ag (sm [] [(0, oD (.ptr 90000 0)), (1, .e (.agg (BU p1)))] [(90000, .box [sC (p0.fb.fi.map Aa), sC (p0.fb.fm.map Aa), sC (p0.fb.fq.map Aa), sC (p0.fb.fh.map Am), sC (p0.fu.map Aa), sC (p0.fa.fo.map Ae), iC p0.fa.fk, iC p0.fa.fp, iC p0.fa.fr, iC p0.fa.fj, iC p0.fa.fe, sC (p0.fa.fc.ff.map Aa), sC (p0.fa.fc.fd.map Aa), sC (p0.fa.fc.fg.map Bd), .own 90900]), (90900, .vec 10 (p0.fv.map As))] rfl rfl) (wq rfl (qb rfl (Ab (AH ?_))))
 refine AF h (fun v1 => mk [(0, oD (.ptr 90000 0)), (3, oD (.ptr 3 0)), (19, bD v1)] [(3, .box (BU p1)), (90000, .box [sC (p0.fb.fi.map Aa), sC (p0.fb.fm.map Aa), sC (p0.fb.fq.map Aa), sC (p0.fb.fh.map Am), sC (p0.fu.map Aa), sC (p0.fa.fo.map Ae), iC p0.fa.fk, iC p0.fa.fp, iC p0.fa.fr, iC p0.fa.fj, iC p0.fa.fe, sC (p0.fa.fc.ff.map Aa), sC (p0.fa.fc.fd.map Aa), sC (p0.fa.fc.fg.map Bd), .own 90900]), (90900, .vec 10 (p0.fv.map As))]) (fun j1 h => ?_) (fun v1 h => ?_)
 ·refine Aj Az rfl (qm rfl (C9 rfl (qf AX rfl (qf Bv rfl (ql Bs rfl (Ba rfl (qm rfl ?_)))))))
  refine Dv 10 h rfl (fun h => ?_) fun h => ?_
  ·refine qw 8 rfl (qp rfl (AJ (by kernel_rfl) ?_))
   exact sn [] h
  ·refine qf NI rfl (ql Bs rfl (qm rfl (C9 rfl (qf AX rfl (qf FQ rfl (ql Bs rfl (Ba rfl (qp rfl (AJ (by kernel_rfl) ?_)))))))))
   exact sn [] h
 ·refine A0 h (fun h => ?_) fun h => ?_
  ·obtain rfl := sj h
   refine Ap ⟨_, (sm [] [] [(90000, .box [sC (p0.fb.fi.map Aa), sC (p0.fb.fm.map Aa), sC (p0.fb.fq.map Aa), sC (p0.fb.fh.map Am), sC (p0.fu.map Aa), sC (p0.fa.fo.map Ae), iC p0.fa.fk, iC p0.fa.fp, iC p0.fa.fr, iC p0.fa.fj, iC p0.fa.fe, sC (p0.fa.fc.ff.map Aa), sC (p0.fa.fc.fd.map Aa), sC (p0.fa.fc.fg.map Bd), .own 90900]), (90900, .vec 10 (p0.fv.map As))] rfl rfl), ?_⟩
   exact ⟨⟨[], tv, rfl⟩, ⟨rfl, tv⟩, ⟨rfl, tv⟩⟩
  ·refine An (wp rfl (qf ST rfl (ql TG rfl (Ab ?_))))
   refine A0 h (fun h => ?_) fun h => ?_
   ·refine wq rfl (qm rfl ?_)
    refine Be h fun v5 a5 h => Dh (ds0 := [_]) [90000] 90900 [90904] [true] (DP N ((Ac.mk ((Ad.mk p0.fb.fi p0.fb.fm p0.fb.fq p0.fb.fh)) p0.fu ((Af.mk p0.fa.fo p0.fa.fk p0.fa.fp p0.fa.fr p0.fa.fj p0.fa.fe ((Ai.mk p0.fa.fc.ff p0.fa.fc.fd p0.fa.fc.fg)))) p0.fv)) v5 a5) (.p rfl) TY rfl ⟨rfl, tv⟩ rfl rfl rfl ⟨rfl, tv⟩ rfl rfl rfl rfl rfl rfl ⟨rfl, tv⟩ ⟨(fun h => by cases h), tv⟩ rfl rfl rfl ?_
    refine Ab (Ag (CH (rn [(90900, 90904)]) [] [(3, .box (BU p1)), (90000, .box [sC (v5.fb.fi.map Aa), sC (v5.fb.fm.map Aa), sC (v5.fb.fq.map Aa), sC (v5.fb.fh.map Am), sC (v5.fu.map Aa), sC (v5.fa.fo.map Ae), iC v5.fa.fk, iC v5.fa.fp, iC v5.fa.fr, iC v5.fa.fj, iC v5.fa.fe, sC (v5.fa.fc.ff.map Aa), sC (v5.fa.fc.fd.map Aa), sC (v5.fa.fc.fg.map Bd), .own 90900]), (90900, .vec 10 (v5.fv.map As))] tv ⟨rfl, rfl, rfl, tv⟩ rfl rfl) ?_)
    obtain rfl := sj h
    refine Ap ⟨_, (sm [] [] [(90000, .box [sC (v5.fb.fi.map Aa), sC (v5.fb.fm.map Aa), sC (v5.fb.fq.map Aa), sC (v5.fb.fh.map Am), sC (v5.fu.map Aa), sC (v5.fa.fo.map Ae), iC v5.fa.fk, iC v5.fa.fp, iC v5.fa.fr, iC v5.fa.fj, iC v5.fa.fe, sC (v5.fa.fc.ff.map Aa), sC (v5.fa.fc.fd.map Aa), sC (v5.fa.fc.fg.map Bd), .own 90900]), (90900, .vec 10 (v5.fv.map As))] rfl rfl), ?_⟩
    exact ⟨⟨[], tv, rfl⟩, ⟨rfl, tv⟩, ⟨rfl, tv⟩⟩
   ·refine An (wq rfl (qm rfl ?_))
    refine Be h fun v6 a6 h => Dh (ds0 := [_, _]) [90000] 90900 [90905] [true] (CC N ((Ac.mk ((Ad.mk p0.fb.fi p0.fb.fm p0.fb.fq p0.fb.fh)) p0.fu ((Af.mk p0.fa.fo p0.fa.fk p0.fa.fp p0.fa.fr p0.fa.fj p0.fa.fe ((Ai.mk p0.fa.fc.ff p0.fa.fc.fd p0.fa.fc.fg)))) p0.fv)) 3 v6 a6) (.p rfl) Sr rfl ⟨rfl, rfl, tv⟩ rfl rfl rfl ⟨rfl, tv⟩ rfl rfl rfl rfl rfl rfl ⟨rfl, tv⟩ ⟨(fun h => by cases h), tv⟩ rfl rfl rfl ?_
    refine Ab (Ag (CH (rn [(90900, 90905)]) [(0, oD (.ptr 90000 0))] [(3, .box (BU p1)), (90000, .box [sC (v6.fb.fi.map Aa), sC (v6.fb.fm.map Aa), sC (v6.fb.fq.map Aa), sC (v6.fb.fh.map Am), sC (v6.fu.map Aa), sC (v6.fa.fo.map Ae), iC v6.fa.fk, iC v6.fa.fp, iC v6.fa.fr, iC v6.fa.fj, iC v6.fa.fe, sC (v6.fa.fc.ff.map Aa), sC (v6.fa.fc.fd.map Aa), sC (v6.fa.fc.fg.map Bd), .own 90900]), (90900, .vec 10 (v6.fv.map As))] ⟨rfl, tv⟩ ⟨rfl, rfl, rfl, tv⟩ rfl rfl) (wq rfl (qm rfl (C9 rfl (qf AX rfl (qf Bv rfl (qs Dz rfl (Ab (Aj Az rfl (qm rfl ?_))))))))))
    refine Be h fun v7 a7 h => Dh (ds0 := [_]) [90000] 90900 [90906] [true] (Dq N ((Ac.mk ((Ad.mk v6.fb.fi v6.fb.fm v6.fb.fq v6.fb.fh)) v6.fu ((Af.mk v6.fa.fo v6.fa.fk 3 v6.fa.fr v6.fa.fj v6.fa.fe ((Ai.mk v6.fa.fc.ff v6.fa.fc.fd v6.fa.fc.fg)))) v6.fv)) v7 a7) (.p rfl) QH rfl ⟨rfl, tv⟩ rfl rfl rfl ⟨rfl, tv⟩ rfl rfl rfl rfl rfl rfl ⟨rfl, tv⟩ ⟨(fun h => by cases h), tv⟩ rfl rfl rfl ?_
    refine Ab ?_
    obtain rfl := sj h
    refine ⟨_, (CH (rn [(90900, 90906)]) [] [(3, .box (BU p1)), (90000, .box [sC (v7.fb.fi.map Aa), sC (v7.fb.fm.map Aa), sC (v7.fb.fq.map Aa), sC (v7.fb.fh.map Am), sC (v7.fu.map Aa), sC (v7.fa.fo.map Ae), iC v7.fa.fk, iC v7.fa.fp, iC v7.fa.fr, iC v7.fa.fj, iC v7.fa.fe, sC (v7.fa.fc.ff.map Aa), sC (v7.fa.fc.fd.map Aa), sC (v7.fa.fc.fg.map Bd), .own 90900]), (90900, .vec 10 (v7.fv.map As))] tv ⟨rfl, rfl, rfl, tv⟩ rfl rfl).trans (sm [] [] [(90000, .box [sC (v7.fb.fi.map Aa), sC (v7.fb.fm.map Aa), sC (v7.fb.fq.map Aa), sC (v7.fb.fh.map Am), sC (v7.fu.map Aa), sC (v7.fa.fo.map Ae), iC v7.fa.fk, iC v7.fa.fp, iC v7.fa.fr, iC v7.fa.fj, iC v7.fa.fe, sC (v7.fa.fc.ff.map Aa), sC (v7.fa.fc.fd.map Aa), sC (v7.fa.fc.fg.map Bd), .own 90900]), (90900, .vec 10 (v7.fv.map As))] rfl rfl), ?_⟩
    exact ⟨⟨[], tv, rfl⟩, ⟨rfl, tv⟩, ⟨rfl, tv⟩⟩
theorem Hw (N : Nat) (p0 : Ac) (p1 : Cr) (r : Ac) (h : Dg N p0 p1 = some r) : Ef zA 55 [oD (.ptr 90000 0), .e (.agg (BU p1))] [(.box [sC (p0.fb.fi.map Aa), sC (p0.fb.fm.map Aa), sC (p0.fb.fq.map Aa), sC (p0.fb.fh.map Am), sC (p0.fu.map Aa), sC (p0.fa.fo.map Ae), iC p0.fa.fk, iC p0.fa.fp, iC p0.fa.fr, iC p0.fa.fj, iC p0.fa.fe, sC (p0.fa.fc.ff.map Aa), sC (p0.fa.fc.fd.map Aa), sC (p0.fa.fc.fg.map Bd), .own 90900], .box [sC (r.fb.fi.map Aa), sC (r.fb.fm.map Aa), sC (r.fb.fq.map Aa), sC (r.fb.fh.map Am), sC (r.fu.map Aa), sC (r.fa.fo.map Ae), iC r.fa.fk, iC r.fa.fp, iC r.fa.fr, iC r.fa.fj, iC r.fa.fe, sC (r.fa.fc.ff.map Aa), sC (r.fa.fc.fd.map Aa), sC (r.fa.fc.fg.map Bd), .own 0])] (.vec 10 (p0.fv.map As)) [.vec 10 (r.fv.map As)] (.tup []) := by
 unfold Dg at h
 refine CK (n := 93) (rs := []) [90900] Tryz.func55 rfl rfl rfl (Da rfl) (Da rfl) rfl rfl rfl (Da rfl) rfl (Da rfl) rfl rfl rfl fun w0 S0 GL => Ja ?_
 refine Ag (sm [] [(0, oD (.ptr 90000 0)), (1, .e (.agg (BU p1)))] [(90000, .box [sC (p0.fb.fi.map Aa), sC (p0.fb.fm.map Aa), sC (p0.fb.fq.map Aa), sC (p0.fb.fh.map Am), sC (p0.fu.map Aa), sC (p0.fa.fo.map Ae), iC p0.fa.fk, iC p0.fa.fp, iC p0.fa.fr, iC p0.fa.fj, iC p0.fa.fe, sC (p0.fa.fc.ff.map Aa), sC (p0.fa.fc.fd.map Aa), sC (p0.fa.fc.fg.map Bd), .own 90900]), (90900, .vec 10 (p0.fv.map As))] rfl rfl) (wq rfl (qb rfl (Ab (wp rfl (qf PU rfl (ql Bs rfl (AL rfl (Ab ?_))))))))
 refine A0 h (fun h => ?_) fun h => ?_
 ·refine AF h (fun v2 => mk [] [(90000, .box [sC (v2.2.1.map Aa), sC (v2.2.2.1.map Aa), sC (v2.2.2.2.1.map Aa), sC (v2.2.2.2.2.1.map Am), sC (v2.2.2.2.2.2.1.map Aa), sC (v2.2.2.2.2.2.2.1.map Ae), iC v2.2.2.2.2.2.2.2.1, iC v2.2.2.2.2.2.2.2.2.1, iC v2.2.2.2.2.2.2.2.2.2.1, iC v2.2.2.2.2.2.2.2.2.2.2.1, iC v2.2.2.2.2.2.2.2.2.2.2.2.1, sC (v2.2.2.2.2.2.2.2.2.2.2.2.2.1.map Aa), sC (v2.2.2.2.2.2.2.2.2.2.2.2.2.2.1.map Aa), sC (v2.2.2.2.2.2.2.2.2.2.2.2.2.2.2.map Bd), .own 90900]), (90900, .vec 10 (v2.1.map As))]) (fun j2 h => ?_) (fun v2 h => ?_)
  ·refine wq rfl (qf PB rfl (ql JP rfl (qm rfl (C9 rfl (qf AX rfl (qf JM rfl (ql JP rfl (EA rfl (AJ (by kernel_rfl) ?_)))))))))
   refine A0 h (fun h => ?_) fun h => ?_
   ·refine wq rfl (qm rfl (qf PB rfl (ql JP rfl (C9 rfl (qf AX rfl (qf JM rfl (qs OP rfl (Ab (Aj Az rfl (qm rfl ?_))))))))))
    refine Be h fun v4 a4 h => Dh (ds0 := [_]) [90000] 90900 [90909] [true] (Fu N ((Ac.mk ((Ad.mk p0.fb.fi p0.fb.fm p0.fb.fq p0.fb.fh)) p0.fu ((Af.mk p0.fa.fo p0.fa.fk p0.fa.fp p0.fa.fr p0.fa.fj p1.fe ((Ai.mk p0.fa.fc.ff p0.fa.fc.fd p0.fa.fc.fg)))) p0.fv)) v4 a4) (.p rfl) Vo rfl ⟨rfl, tv⟩ rfl rfl rfl ⟨rfl, tv⟩ rfl rfl rfl rfl rfl rfl ⟨rfl, tv⟩ ⟨(fun h => by cases h), tv⟩ rfl rfl rfl ?_
    refine Ab ?_
    exact Rs _ h ((CH (rn [(90900, 90909)]) [] [(3, .box (BU p1)), (90000, .box [sC (v4.fb.fi.map Aa), sC (v4.fb.fm.map Aa), sC (v4.fb.fq.map Aa), sC (v4.fb.fh.map Am), sC (v4.fu.map Aa), sC (v4.fa.fo.map Ae), iC v4.fa.fk, iC v4.fa.fp, iC v4.fa.fr, iC v4.fa.fj, iC v4.fa.fe, sC (v4.fa.fc.ff.map Aa), sC (v4.fa.fc.fd.map Aa), sC (v4.fa.fc.fg.map Bd), .own 90900]), (90900, .vec 10 (v4.fv.map As))] tv ⟨rfl, rfl, rfl, tv⟩ rfl rfl).trans (sm [] _ _ rfl rfl))
   ·refine An ?_
    exact sn [] h
  ·obtain rfl := sj h
   refine Ap ⟨_, (sm [] [] [(90000, .box [sC (v2.2.1.map Aa), sC (v2.2.2.1.map Aa), sC (v2.2.2.2.1.map Aa), sC (v2.2.2.2.2.1.map Am), sC (v2.2.2.2.2.2.1.map Aa), sC (v2.2.2.2.2.2.2.1.map Ae), iC v2.2.2.2.2.2.2.2.1, iC v2.2.2.2.2.2.2.2.2.1, iC v2.2.2.2.2.2.2.2.2.2.1, iC v2.2.2.2.2.2.2.2.2.2.2.1, iC v2.2.2.2.2.2.2.2.2.2.2.2.1, sC (v2.2.2.2.2.2.2.2.2.2.2.2.2.1.map Aa), sC (v2.2.2.2.2.2.2.2.2.2.2.2.2.2.1.map Aa), sC (v2.2.2.2.2.2.2.2.2.2.2.2.2.2.2.map Bd), .own 90900]), (90900, .vec 10 (v2.1.map As))] rfl rfl), ?_⟩
   exact ⟨⟨[], tv, rfl⟩, ⟨rfl, tv⟩, ⟨rfl, tv⟩⟩
 ·refine An (wp rfl (qm rfl (C9 rfl (qf AX rfl (qf JM rfl (ql JP rfl (AL rfl (Ab ?_))))))))
  refine A0 h (fun h => ?_) fun h => ?_
  ·obtain rfl := sj h
   refine Ap ⟨_, (sm [] [] [(90000, .box [sC (p0.fb.fi.map Aa), sC (p0.fb.fm.map Aa), sC (p0.fb.fq.map Aa), sC (p0.fb.fh.map Am), sC (p0.fu.map Aa), sC (p0.fa.fo.map Ae), iC p0.fa.fk, iC p0.fa.fp, iC p0.fa.fr, iC p0.fa.fj, iC p0.fa.fe, sC (p0.fa.fc.ff.map Aa), sC (p0.fa.fc.fd.map Aa), sC (p0.fa.fc.fg.map Bd), .own 90900]), (90900, .vec 10 (p0.fv.map As))] rfl rfl), ?_⟩
   exact ⟨⟨[], tv, rfl⟩, ⟨rfl, tv⟩, ⟨rfl, tv⟩⟩
  ·refine An (wq rfl (qf PU rfl (ql Bs rfl (Ab (AI (wq rfl (AL rfl (qe rfl ?_))))))))
   refine A0 h (fun h => ?_) fun h => ?_
   ·refine Aj Az rfl (qm rfl (C9 rfl (qf AX rfl (qf JM rfl (qs OP rfl (Ab ?_))))))
    obtain rfl := sj h
    refine ⟨_, (sm [] [] [(90000, .box [sC (p0.fb.fi.map Aa), sC (p0.fb.fm.map Aa), sC (p0.fb.fq.map Aa), sC (p0.fb.fh.map Am), sC (p0.fu.map Aa), sC (p0.fa.fo.map Ae), iC p0.fa.fk, iC p0.fa.fp, iC p0.fa.fr, iC p0.fa.fj, iC 0, sC (p0.fa.fc.ff.map Aa), sC (p0.fa.fc.fd.map Aa), sC (p0.fa.fc.fg.map Bd), .own 90900]), (90900, .vec 10 (p0.fv.map As))] rfl rfl), ?_⟩
    exact ⟨⟨[], tv, rfl⟩, ⟨rfl, tv⟩, ⟨rfl, tv⟩⟩
   ·refine wq rfl (AL rfl (qe rfl ?_))
    refine A0 h (fun h => ?_) fun h => ?_
    ·refine Aj Az rfl (qm rfl ?_)
     refine Be h fun v8 a8 h => Dh (ds0 := [_]) [90000] 90900 [90910] [true] (Fu N ((Ac.mk ((Ad.mk p0.fb.fi p0.fb.fm p0.fb.fq p0.fb.fh)) p0.fu ((Af.mk p0.fa.fo p0.fa.fk p0.fa.fp p0.fa.fr p0.fa.fj p0.fa.fe ((Ai.mk p0.fa.fc.ff p0.fa.fc.fd p0.fa.fc.fg)))) p0.fv)) v8 a8) (.p rfl) Vo rfl ⟨rfl, tv⟩ rfl rfl rfl ⟨rfl, tv⟩ rfl rfl rfl rfl rfl rfl ⟨rfl, tv⟩ ⟨(fun h => by cases h), tv⟩ rfl rfl rfl ?_
     refine Ab ?_
     obtain rfl := sj h
     refine ⟨_, (CH (rn [(90900, 90910)]) [] [(3, .box (BU p1)), (90000, .box [sC (v8.fb.fi.map Aa), sC (v8.fb.fm.map Aa), sC (v8.fb.fq.map Aa), sC (v8.fb.fh.map Am), sC (v8.fu.map Aa), sC (v8.fa.fo.map Ae), iC v8.fa.fk, iC v8.fa.fp, iC v8.fa.fr, iC v8.fa.fj, iC v8.fa.fe, sC (v8.fa.fc.ff.map Aa), sC (v8.fa.fc.fd.map Aa), sC (v8.fa.fc.fg.map Bd), .own 90900]), (90900, .vec 10 (v8.fv.map As))] tv ⟨rfl, rfl, rfl, tv⟩ rfl rfl).trans (sm [] [] [(90000, .box [sC (v8.fb.fi.map Aa), sC (v8.fb.fm.map Aa), sC (v8.fb.fq.map Aa), sC (v8.fb.fh.map Am), sC (v8.fu.map Aa), sC (v8.fa.fo.map Ae), iC v8.fa.fk, iC v8.fa.fp, iC v8.fa.fr, iC v8.fa.fj, iC v8.fa.fe, sC (v8.fa.fc.ff.map Aa), sC (v8.fa.fc.fd.map Aa), sC (v8.fa.fc.fg.map Bd), .own 90900]), (90900, .vec 10 (v8.fv.map As))] rfl rfl), ?_⟩
     exact ⟨⟨[], tv, rfl⟩, ⟨rfl, tv⟩, ⟨rfl, tv⟩⟩
    ·refine wq rfl (AL rfl (qe rfl ?_))
     refine A0 h (fun h => ?_) fun h => ?_
     ·refine Aj Az rfl (qm rfl (qL Rq OO rfl ?_))
      refine Be h fun v10 a10 h => Dh (ds0 := [_, _]) [90000] 90900 [90911] [true] (Io N ((Ac.mk ((Ad.mk p0.fb.fi p0.fb.fm p0.fb.fq p0.fb.fh)) p0.fu ((Af.mk p0.fa.fo p0.fa.fk p0.fa.fp p0.fa.fr p0.fa.fj p0.fa.fe ((Ai.mk p0.fa.fc.ff p0.fa.fc.fd p0.fa.fc.fg)))) p0.fv)) p1 v10 a10) (.p rfl) V2 rfl ⟨rfl, rfl, tv⟩ rfl rfl rfl ⟨rfl, tv⟩ rfl rfl rfl rfl rfl rfl ⟨rfl, tv⟩ ⟨(fun h => by cases h), tv⟩ rfl rfl rfl ?_
      refine Ab ?_
      obtain rfl := sj h
      refine ⟨_, (CH (rn [(90900, 90911)]) [] [(3, .box (BU p1)), (90000, .box [sC (v10.fb.fi.map Aa), sC (v10.fb.fm.map Aa), sC (v10.fb.fq.map Aa), sC (v10.fb.fh.map Am), sC (v10.fu.map Aa), sC (v10.fa.fo.map Ae), iC v10.fa.fk, iC v10.fa.fp, iC v10.fa.fr, iC v10.fa.fj, iC v10.fa.fe, sC (v10.fa.fc.ff.map Aa), sC (v10.fa.fc.fd.map Aa), sC (v10.fa.fc.fg.map Bd), .own 90900]), (90900, .vec 10 (v10.fv.map As))] tv ⟨rfl, rfl, rfl, tv⟩ rfl rfl).trans (sm [] [] [(90000, .box [sC (v10.fb.fi.map Aa), sC (v10.fb.fm.map Aa), sC (v10.fb.fq.map Aa), sC (v10.fb.fh.map Am), sC (v10.fu.map Aa), sC (v10.fa.fo.map Ae), iC v10.fa.fk, iC v10.fa.fp, iC v10.fa.fr, iC v10.fa.fj, iC v10.fa.fe, sC (v10.fa.fc.ff.map Aa), sC (v10.fa.fc.fd.map Aa), sC (v10.fa.fc.fg.map Bd), .own 90900]), (90900, .vec 10 (v10.fv.map As))] rfl rfl), ?_⟩
      exact ⟨⟨[], tv, rfl⟩, ⟨rfl, tv⟩, ⟨rfl, tv⟩⟩
     ·refine wq rfl (AL rfl (qe rfl ?_))
      refine A0 h (fun h => ?_) fun h => ?_
      ·refine Aj Az rfl (qm rfl (qL Rq OO rfl ?_))
       refine Be h fun v12 a12 h => Dh (ds0 := [_, _]) [90000] 90900 [90912] [true] (HY N ((Ac.mk ((Ad.mk p0.fb.fi p0.fb.fm p0.fb.fq p0.fb.fh)) p0.fu ((Af.mk p0.fa.fo p0.fa.fk p0.fa.fp p0.fa.fr p0.fa.fj p0.fa.fe ((Ai.mk p0.fa.fc.ff p0.fa.fc.fd p0.fa.fc.fg)))) p0.fv)) p1 v12 a12) (.p rfl) WA rfl ⟨rfl, rfl, tv⟩ rfl rfl rfl ⟨rfl, tv⟩ rfl rfl rfl rfl rfl rfl ⟨rfl, tv⟩ ⟨(fun h => by cases h), tv⟩ rfl rfl rfl ?_
       refine Ab ?_
       obtain rfl := sj h
       refine ⟨_, (CH (rn [(90900, 90912)]) [] [(3, .box (BU p1)), (90000, .box [sC (v12.fb.fi.map Aa), sC (v12.fb.fm.map Aa), sC (v12.fb.fq.map Aa), sC (v12.fb.fh.map Am), sC (v12.fu.map Aa), sC (v12.fa.fo.map Ae), iC v12.fa.fk, iC v12.fa.fp, iC v12.fa.fr, iC v12.fa.fj, iC v12.fa.fe, sC (v12.fa.fc.ff.map Aa), sC (v12.fa.fc.fd.map Aa), sC (v12.fa.fc.fg.map Bd), .own 90900]), (90900, .vec 10 (v12.fv.map As))] tv ⟨rfl, rfl, rfl, tv⟩ rfl rfl).trans (sm [] [] [(90000, .box [sC (v12.fb.fi.map Aa), sC (v12.fb.fm.map Aa), sC (v12.fb.fq.map Aa), sC (v12.fb.fh.map Am), sC (v12.fu.map Aa), sC (v12.fa.fo.map Ae), iC v12.fa.fk, iC v12.fa.fp, iC v12.fa.fr, iC v12.fa.fj, iC v12.fa.fe, sC (v12.fa.fc.ff.map Aa), sC (v12.fa.fc.fd.map Aa), sC (v12.fa.fc.fg.map Bd), .own 90900]), (90900, .vec 10 (v12.fv.map As))] rfl rfl), ?_⟩
       exact ⟨⟨[], tv, rfl⟩, ⟨rfl, tv⟩, ⟨rfl, tv⟩⟩
      ·refine wq rfl (AL rfl (qe rfl ?_))
       refine A0 h (fun h => ?_) fun h => ?_
       ·refine AF h (fun v14 => mk [(0, oD (.ptr 90000 0)), (76, bD v14)] [(90000, .box [sC (p0.fb.fi.map Aa), sC (p0.fb.fm.map Aa), sC (p0.fb.fq.map Aa), sC (p0.fb.fh.map Am), sC (p0.fu.map Aa), sC (p0.fa.fo.map Ae), iC p0.fa.fk, iC p0.fa.fp, iC p0.fa.fr, iC p0.fa.fj, iC p0.fa.fe, sC (p0.fa.fc.ff.map Aa), sC (p0.fa.fc.fd.map Aa), sC (p0.fa.fc.fg.map Bd), .own 90900]), (90900, .vec 10 (p0.fv.map As))]) (fun j14 h => ?_) (fun v14 h => ?_)
        ·refine Aj Az rfl (qm rfl (C9 rfl (qf AX rfl (qf Bv rfl (ql Bs rfl (AL rfl (qm rfl ?_)))))))
         refine Dv 59 h rfl (fun h => ?_) fun h => ?_
         ·refine qf NI rfl (ql Bs rfl (qm rfl (C9 rfl (qf AX rfl (qf FQ rfl (ql Bs rfl (AL rfl (qp rfl (qm rfl ?_)))))))))
          refine Dv 69 h rfl (fun h => ?_) fun h => ?_
          ·refine qf Sn rfl (ql Bs rfl (qm rfl ?_))
           refine Be h fun v17 a17 h => CQ (ds0 := [_]) [90000, 90900] [] [false, false] (Bk N ((Ac.mk ((Ad.mk p0.fb.fi p0.fb.fm p0.fb.fq p0.fb.fh)) p0.fu ((Af.mk p0.fa.fo p0.fa.fk p0.fa.fp p0.fa.fr p0.fa.fj p0.fa.fe ((Ai.mk p0.fa.fc.ff p0.fa.fc.fd p0.fa.fc.fg)))) p0.fv)) v17 a17) (.g rfl rfl) Pc rfl ⟨rfl, tv⟩ rfl rfl (Bf rfl) ⟨rfl, rfl, tv⟩ rfl (Bm rfl) tv ⟨(fun _ => rfl), (fun _ => rfl), tv⟩ rfl rfl rfl ?_
           refine MB (.g rfl rfl) rfl N2 Bs rfl ?_
           refine AL rfl (qp rfl (AJ (by kernel_rfl) ?_))
           exact sn [] h
          ·refine qw 6 rfl (qp rfl (AJ (by kernel_rfl) ?_))
           exact sn [] h
         ·refine qw 8 rfl (qp rfl (qw 7 rfl (qp rfl (AJ (by kernel_rfl) ?_))))
          exact sn [] h
        ·refine A0 h (fun h => ?_) fun h => ?_
         ·refine Aj Az rfl (qm rfl ?_)
          refine Be h fun v19 a19 h => Dh (ds0 := [_]) [90000] 90900 [90913] [true] (DP N ((Ac.mk ((Ad.mk p0.fb.fi p0.fb.fm p0.fb.fq p0.fb.fh)) p0.fu ((Af.mk p0.fa.fo p0.fa.fk p0.fa.fp p0.fa.fr p0.fa.fj p0.fa.fe ((Ai.mk p0.fa.fc.ff p0.fa.fc.fd p0.fa.fc.fg)))) p0.fv)) v19 a19) (.p rfl) TY rfl ⟨rfl, tv⟩ rfl rfl rfl ⟨rfl, tv⟩ rfl rfl rfl rfl rfl rfl ⟨rfl, tv⟩ ⟨(fun h => by cases h), tv⟩ rfl rfl rfl ?_
          refine Ab ?_
          obtain rfl := sj h
          refine ⟨_, (CH (rn [(90900, 90913)]) [] [(90000, .box [sC (v19.fb.fi.map Aa), sC (v19.fb.fm.map Aa), sC (v19.fb.fq.map Aa), sC (v19.fb.fh.map Am), sC (v19.fu.map Aa), sC (v19.fa.fo.map Ae), iC v19.fa.fk, iC v19.fa.fp, iC v19.fa.fr, iC v19.fa.fj, iC v19.fa.fe, sC (v19.fa.fc.ff.map Aa), sC (v19.fa.fc.fd.map Aa), sC (v19.fa.fc.fg.map Bd), .own 90900]), (90900, .vec 10 (v19.fv.map As))] tv ⟨rfl, rfl, tv⟩ rfl rfl).trans (sm [] [] [(90000, .box [sC (v19.fb.fi.map Aa), sC (v19.fb.fm.map Aa), sC (v19.fb.fq.map Aa), sC (v19.fb.fh.map Am), sC (v19.fu.map Aa), sC (v19.fa.fo.map Ae), iC v19.fa.fk, iC v19.fa.fp, iC v19.fa.fr, iC v19.fa.fj, iC v19.fa.fe, sC (v19.fa.fc.ff.map Aa), sC (v19.fa.fc.fd.map Aa), sC (v19.fa.fc.fg.map Bd), .own 90900]), (90900, .vec 10 (v19.fv.map As))] rfl rfl), ?_⟩
          exact ⟨⟨[], tv, rfl⟩, ⟨rfl, tv⟩, ⟨rfl, tv⟩⟩
         ·refine An ?_
          obtain rfl := sj h
          refine ⟨_, (sm [] [] [(90000, .box [sC (p0.fb.fi.map Aa), sC (p0.fb.fm.map Aa), sC (p0.fb.fq.map Aa), sC (p0.fb.fh.map Am), sC (p0.fu.map Aa), sC (p0.fa.fo.map Ae), iC p0.fa.fk, iC p0.fa.fp, iC p0.fa.fr, iC p0.fa.fj, iC p0.fa.fe, sC (p0.fa.fc.ff.map Aa), sC (p0.fa.fc.fd.map Aa), sC (p0.fa.fc.fg.map Bd), .own 90900]), (90900, .vec 10 (p0.fv.map As))] rfl rfl), ?_⟩
          exact ⟨⟨[], tv, rfl⟩, ⟨rfl, tv⟩, ⟨rfl, tv⟩⟩
       ·refine wq rfl (AL rfl (qe rfl ?_))
        refine A0 h (fun h => ?_) fun h => ?_
        ·refine wq rfl (qm rfl (C9 rfl (qf AX rfl (qf Bv rfl (ql Bs rfl (AL rfl (Ab ?_)))))))
         refine A0 h (fun h => ?_) fun h => ?_
         ·refine wq rfl (qm rfl ?_)
          refine Be h fun v22 a22 h => Dh (ds0 := [_, _]) [90000] 90900 [90914] [true] (CC N ((Ac.mk ((Ad.mk p0.fb.fi p0.fb.fm p0.fb.fq p0.fb.fh)) p0.fu ((Af.mk p0.fa.fo p0.fa.fk p0.fa.fp p0.fa.fr p0.fa.fj p0.fa.fe ((Ai.mk p0.fa.fc.ff p0.fa.fc.fd p0.fa.fc.fg)))) p0.fv)) 4 v22 a22) (.p rfl) Sr rfl ⟨rfl, rfl, tv⟩ rfl rfl rfl ⟨rfl, tv⟩ rfl rfl rfl rfl rfl rfl ⟨rfl, tv⟩ ⟨(fun h => by cases h), tv⟩ rfl rfl rfl ?_
          refine Ab (Ag (CH (rn [(90900, 90914)]) [(0, oD (.ptr 90000 0))] [(3, .box (BU p1)), (90000, .box [sC (v22.fb.fi.map Aa), sC (v22.fb.fm.map Aa), sC (v22.fb.fq.map Aa), sC (v22.fb.fh.map Am), sC (v22.fu.map Aa), sC (v22.fa.fo.map Ae), iC v22.fa.fk, iC v22.fa.fp, iC v22.fa.fr, iC v22.fa.fj, iC v22.fa.fe, sC (v22.fa.fc.ff.map Aa), sC (v22.fa.fc.fd.map Aa), sC (v22.fa.fc.fg.map Bd), .own 90900]), (90900, .vec 10 (v22.fv.map As))] ⟨rfl, tv⟩ ⟨rfl, rfl, rfl, tv⟩ rfl rfl) (Aj Az rfl (qm rfl (C9 rfl (qf AX rfl (qf Bv rfl (qs Dz rfl (Ab ?_))))))))
          obtain rfl := sj h
          refine ⟨_, (sm [] [] [(90000, .box [sC (v22.fb.fi.map Aa), sC (v22.fb.fm.map Aa), sC (v22.fb.fq.map Aa), sC (v22.fb.fh.map Am), sC (v22.fu.map Aa), sC (v22.fa.fo.map Ae), iC v22.fa.fk, iC 0, iC v22.fa.fr, iC v22.fa.fj, iC v22.fa.fe, sC (v22.fa.fc.ff.map Aa), sC (v22.fa.fc.fd.map Aa), sC (v22.fa.fc.fg.map Bd), .own 90900]), (90900, .vec 10 (v22.fv.map As))] rfl rfl), ?_⟩
          exact ⟨⟨[], tv, rfl⟩, ⟨rfl, tv⟩, ⟨rfl, tv⟩⟩
         ·refine An ?_
          obtain rfl := sj h
          refine ⟨_, (sm [] [] [(90000, .box [sC (p0.fb.fi.map Aa), sC (p0.fb.fm.map Aa), sC (p0.fb.fq.map Aa), sC (p0.fb.fh.map Am), sC (p0.fu.map Aa), sC (p0.fa.fo.map Ae), iC p0.fa.fk, iC p0.fa.fp, iC p0.fa.fr, iC p0.fa.fj, iC p0.fa.fe, sC (p0.fa.fc.ff.map Aa), sC (p0.fa.fc.fd.map Aa), sC (p0.fa.fc.fg.map Bd), .own 90900]), (90900, .vec 10 (p0.fv.map As))] rfl rfl), ?_⟩
          exact ⟨⟨[], tv, rfl⟩, ⟨rfl, tv⟩, ⟨rfl, tv⟩⟩
        ·refine An ?_
         obtain rfl := sj h
         refine ⟨_, (sm [] [] [(90000, .box [sC (p0.fb.fi.map Aa), sC (p0.fb.fm.map Aa), sC (p0.fb.fq.map Aa), sC (p0.fb.fh.map Am), sC (p0.fu.map Aa), sC (p0.fa.fo.map Ae), iC p0.fa.fk, iC p0.fa.fp, iC p0.fa.fr, iC p0.fa.fj, iC p0.fa.fe, sC (p0.fa.fc.ff.map Aa), sC (p0.fa.fc.fd.map Aa), sC (p0.fa.fc.fg.map Bd), .own 90900]), (90900, .vec 10 (p0.fv.map As))] rfl rfl), ?_⟩
         exact ⟨⟨[], tv, rfl⟩, ⟨rfl, tv⟩, ⟨rfl, tv⟩⟩
set_option maxHeartbeats 2000000 in
theorem K6 (N : Nat) (p0 : Ad) (p1 : List Int) (p2 : Af) (p3 : List Cr) (r : Af × (List AW) × Int) (h : Gp N p0 p1 p2 p3 = some r) : Ar zA 32 [.e (.agg (Aw p0)), pD (.sl (p1.map Aa)), .e (.agg (Bb p2)), pD (.sl (p3.map Mj))] [(10, r.2.1.map As)] (.tup [.agg (Bb r.1), .one (.own 0), .one (iC r.2.2)]) := by
 unfold Gp at h
 refine cw (n := 47) (rs := [.cell 8 54, .tmp 9, .tmp 10]) Tryz.func32 fun w0 S0 => ?_
 refine wq rfl (qb rfl (qb rfl (qz IV rfl (qa rfl (qa rfl (Ab (wp rfl (qL Cp Cm rfl (qm rfl (qL GR DN rfl ?_))))))))))
 refine Be h fun v1 a1 h => Av [] (JF N p0 p1 ((Af.mk p2.fo p2.fk p2.fp p2.fr p2.fj p2.fe ((Ai.mk p2.fc.ff p2.fc.fd p2.fc.fg)))) v1 a1) Wa rfl (qa rfl (Ab (wq rfl (qm rfl (Ba rfl (Ab ?_))))))
 refine A0 h (fun h => ?_) fun h => ?_
 ·refine wq rfl (AG IV Om rfl (qm rfl (qs DN rfl (qa rfl (qe rfl ?_)))))
  obtain rfl := sj h
  refine Ag ((BF 9 2001 10 rfl rfl rfl).trans ((Db 8 _ rfl).trans (sm [(1000, 2001)] [(8, oD (.ptr 8 0)), (9, oD (.own 1000)), (10, iD v1)] [(8, .box [sC ((([] : List Al)).map Ae), iC 0, iC 0, iC 0, iC 0, iC 0, sC ((([] : List Int)).map Aa), sC ((([] : List Int)).map Aa), sC ((([] : List Int)).map Bd)]), (1000, .vec 10 ((([] : List AW)).map As))] rfl rfl))) (Ap ?_)
  exact ⟨⟨[_, _, _], ⟨.cellN _ _ _ _ _ _ _ rfl rfl GR DN rfl rfl (EU rfl), ⟨.tmp _ _ rfl, tm⟩⟩, rfl⟩, ⟨rfl, tv⟩⟩
 ·refine An (wq rfl (qL Cp Cm rfl (qm rfl (qL GR DN rfl ?_))))
  refine Be h fun v3 a3 h => Av [2002, 2003, 2004, 2005] (JU N ((Af.mk p2.fo p2.fk p2.fp p2.fr p2.fj p2.fe ((Ai.mk p2.fc.ff p2.fc.fd p2.fc.fg)))) v3 a3) VF rfl (AG Vd UK rfl (qb rfl (qa rfl (AJ (by kernel_rfl) (wp rfl (qm rfl (AT Q2 rfl (qm rfl (Ab ?_)))))))))
  refine AS (L := Ec N p3) h (fun v4 => mk [(8, oD (.ptr 8 0)), (12, oD (.ptr 28 0)), (29, pD (.sl (p3.map Mj))), (30, iD ((p3.length : Int))), (31, iD v4.2.2.2.2.2.2.2.2.2.2.2.2.2.2.2)] [(8, .box [.pure (.nil0), iC 0, iC 0, iC 0, iC 0, iC 0, .pure (.nil0), .pure (.nil0), .pure (.nil0)]), (28, .box [sC (v4.1.map Aa), sC (v4.2.1.map Aa), sC (v4.2.2.1.map Aa), sC (v4.2.2.2.1.map Am), sC (v4.2.2.2.2.1.map Aa), sC (v4.2.2.2.2.2.1.map Ae), iC v4.2.2.2.2.2.2.1, iC v4.2.2.2.2.2.2.2.1, iC v4.2.2.2.2.2.2.2.2.1, iC v4.2.2.2.2.2.2.2.2.2.1, iC v4.2.2.2.2.2.2.2.2.2.2.1, sC (v4.2.2.2.2.2.2.2.2.2.2.2.1.map Aa), sC (v4.2.2.2.2.2.2.2.2.2.2.2.2.1.map Aa), sC (v4.2.2.2.2.2.2.2.2.2.2.2.2.2.1.map Bd), .own 2006]), (2006, .vec 10 (v4.2.2.2.2.2.2.2.2.2.2.2.2.2.2.1.map As))]) (fun v5 => mk [(8, oD (.ptr 8 0)), (12, oD (.ptr 28 0))] [(8, .box [.pure (.nil0), iC 0, iC 0, iC 0, iC 0, iC 0, .pure (.nil0), .pure (.nil0), .pure (.nil0)]), (28, .box [sC (v5.1.map Aa), sC (v5.2.1.map Aa), sC (v5.2.2.1.map Aa), sC (v5.2.2.2.1.map Am), sC (v5.2.2.2.2.1.map Aa), sC (v5.2.2.2.2.2.1.map Ae), iC v5.2.2.2.2.2.2.1, iC v5.2.2.2.2.2.2.2.1, iC v5.2.2.2.2.2.2.2.2.1, iC v5.2.2.2.2.2.2.2.2.2.1, iC v5.2.2.2.2.2.2.2.2.2.2.1, sC (v5.2.2.2.2.2.2.2.2.2.2.2.1.map Aa), sC (v5.2.2.2.2.2.2.2.2.2.2.2.2.1.map Aa), sC (v5.2.2.2.2.2.2.2.2.2.2.2.2.2.1.map Bd), .own 2007]), (2007, .vec 10 (v5.2.2.2.2.2.2.2.2.2.2.2.2.2.2.map As))]) (fun _ _ => rfl) ((AZ 28 14 2009 10 _ rfl rfl rfl rfl).trans ((AM 2002 _ _ rfl rfl).trans ((AM 2003 _ _ rfl rfl).trans ((AM 2004 _ _ rfl rfl).trans ((AM 2005 _ _ rfl rfl).trans (sm [(2006, 2009)] _ _ rfl rfl)))))) (fun j4 n4 v4 h => ?_) (fun v5 s h hs => ?_)
  ·unfold Ec at h
   refine wq rfl (A8 rfl (Ab (AH ?_)))
   refine A0 h (fun h => ?_) fun h => ?_
   ·refine An (AH (AI (wq rfl ?_)))
    refine Cn h fun v7 a7 b7 h => qi Q2 OO a7 (Ao b7) rfl (qK Rq OO rfl (qz Tt rfl (qs OO rfl (Ab (Aj Az rfl (qm rfl (qL Rq OO rfl ?_)))))))
    refine Be h fun v8 a8 h => Dh (ds0 := [_, _]) [28] 2006 [2008] [true] (Hw N ((Ac.mk ((Ad.mk v4.1 v4.2.1 v4.2.2.1 v4.2.2.2.1)) v4.2.2.2.2.1 ((Af.mk v4.2.2.2.2.2.1 v4.2.2.2.2.2.2.1 v4.2.2.2.2.2.2.2.1 v4.2.2.2.2.2.2.2.2.1 v4.2.2.2.2.2.2.2.2.2.1 v4.2.2.2.2.2.2.2.2.2.2.1 ((Ai.mk v4.2.2.2.2.2.2.2.2.2.2.2.1 v4.2.2.2.2.2.2.2.2.2.2.2.2.1 v4.2.2.2.2.2.2.2.2.2.2.2.2.2.1)))) v4.2.2.2.2.2.2.2.2.2.2.2.2.2.2.1)) v7 v8 a8) (.p rfl) V8 rfl ⟨rfl, rfl, tv⟩ rfl rfl rfl ⟨rfl, tv⟩ rfl rfl rfl rfl rfl rfl ⟨rfl, tv⟩ ⟨(fun h => by cases h), tv⟩ rfl rfl rfl ?_
    refine Ab (Aj Az rfl (A6 rfl (qm rfl (Ab ?_))))
    exact sn [(2006, 2008)] h
   ·refine Bg ?_
    exact sn [(2007, 2006)] h
  ·refine Ag hs (wq rfl (qm rfl (C9 rfl (qf AX rfl (qL GR DN rfl (qm rfl (C9 rfl (qf GA rfl (ql QC rfl (qs DN rfl (qa rfl (qa rfl (AJ (by kernel_rfl) ?_)))))))))))))
   obtain rfl := sj h
   refine Ag (sm [(1000, 2007)] [(8, oD (.ptr 8 0)), (9, oD (.own 1000)), (10, iD 0)] [(8, .box [sC (v5.2.2.2.2.2.1.map Ae), iC v5.2.2.2.2.2.2.1, iC v5.2.2.2.2.2.2.2.1, iC v5.2.2.2.2.2.2.2.2.1, iC v5.2.2.2.2.2.2.2.2.2.1, iC v5.2.2.2.2.2.2.2.2.2.2.1, sC (v5.2.2.2.2.2.2.2.2.2.2.2.1.map Aa), sC (v5.2.2.2.2.2.2.2.2.2.2.2.2.1.map Aa), sC (v5.2.2.2.2.2.2.2.2.2.2.2.2.2.1.map Bd)]), (1000, .vec 10 (v5.2.2.2.2.2.2.2.2.2.2.2.2.2.2.map As))] rfl rfl) (Ap ?_)
   exact ⟨⟨[_, _, _], ⟨.cellN _ _ _ _ _ _ _ rfl rfl GR DN rfl rfl (EU rfl), ⟨.tmp _ _ rfl, tm⟩⟩, rfl⟩, ⟨rfl, tv⟩⟩
theorem KR (N : Nat) (p0 : Ad) (p1 : List Int) (p2 : Af) (p3 : Cr) (r : Af × (List AW) × Int) (h : F4 N p0 p1 p2 p3 = some r) : Ar zA 14 [.e (.agg (Aw p0)), pD (.sl (p1.map Aa)), .e (.agg (Bb p2)), .e (.agg (BU p3))] [(10, r.2.1.map As)] (.tup [.agg (Bb r.1), .one (.own 0), .one (iC r.2.2)]) := by
 unfold F4 at h
 refine cw (n := 20) (rs := [.cell 8 54, .tmp 9, .tmp 10]) Tryz.func14 fun w0 S0 => ?_
 refine wq rfl (qb rfl (qb rfl (qb rfl (qz IV rfl (qa rfl (qa rfl (Ab (wq rfl (qL Cp Cm rfl (qm rfl (qL GR DN rfl (qL Rq OO rfl (FD Q2 OO Tt rfl (Cs (AM 15 _ _ rfl rfl) ?_))))))))))))))
 refine Be h fun v1 a1 h => Av [2001] (K6 N p0 p1 ((Af.mk p2.fo p2.fk p2.fp p2.fr p2.fj p2.fe ((Ai.mk p2.fc.ff p2.fc.fd p2.fc.fg)))) (([p3] : List Cr)) v1 a1) VC rfl (qx rfl (qx rfl (qx rfl (qs DN rfl (qa rfl (qe rfl ?_))))))
 obtain rfl := sj h
 refine Ag (sm [(1000, 2001)] [(8, oD (.ptr 8 0)), (9, oD (.own 1000)), (10, iD v1.2.2)] [(8, .box (Bb v1.1)), (1000, .vec 10 (v1.2.1.map As))] rfl rfl) (Ap ?_)
 exact ⟨⟨[_, _, _], ⟨.cellN _ _ _ _ _ _ _ rfl rfl GR DN rfl rfl (EU rfl), ⟨.tmp _ _ rfl, tm⟩⟩, rfl⟩, ⟨rfl, tv⟩⟩
theorem Hq (N : Nat) (p0 : AC) (r : Bool) (h : CW N p0 = some r) : Ar zA 21 [.e (.agg (GP p0))] [] (bD r) := by
 unfold CW at h
 refine cw (n := 16) (rs := [.tmp 2]) Tryz.func21 fun w0 S0 => ?_
 refine wq rfl (qb rfl (qe rfl ?_))
 refine AF h (fun v1 => mk [(2, bD v1)] []) (fun j1 h => ?_) (fun v1 h => ?_)
 ·refine Aj Az rfl (qf LY rfl (ql Bs rfl (EC rfl (qm rfl ?_))))
  refine Dv 6 h rfl (fun h => ?_) fun h => ?_
  ·refine qf JI rfl (ql JP rfl (EC rfl (qp rfl (qm rfl ?_))))
   refine Dv 11 h rfl (fun h => ?_) fun h => ?_
   ·refine qf Nz rfl (ql Bs rfl (EC rfl (qp rfl (qe rfl ?_))))
    exact sn [] h
   ·refine qw 3 rfl (qp rfl (qe rfl ?_))
    exact sn [] h
  ·refine qw 3 rfl (qp rfl (qw 4 rfl (qp rfl (qe rfl ?_))))
   exact sn [] h
 ·obtain rfl := sj h
  refine Ag (sm [] [(2, bD v1)] [] rfl rfl) (Ap ?_)
  exact ⟨⟨[_], tm, rfl⟩, tv⟩
theorem KW (N : Nat) (p0 : ByteArray) (r : Int × Int × Int) (h : FC N p0 = some r) : Ar zA 38 [pD (.val (.string p0))] [] (.tup [.one (.pure (.val (.int .u64 r.1))), .one (iC r.2.1), .one (iC r.2.2)]) := by
 unfold FC at h
 refine cw (n := 52) (rs := [.tmp 2, .tmp 3, .tmp 4]) Tryz.func38 fun w0 S0 => ?_
 refine wq rfl (qa rfl (qa rfl (qa rfl (Ab (wq rfl (qa rfl (Ab (wp rfl (qm rfl ?_)))))))))
 refine J9 (.p rfl) rfl HX ?_
 refine Tp (.p rfl) rfl rfl ?_
 refine qm rfl (Ab ?_)
 refine AS (L := Dy N p0) h (fun v1 => mk [(0, pD (.val (.string p0))), (5, pD (.val (.int .u64 v1.1))), (10, iD ((Ox 10 ((p0.size : Int))))), (11, iD v1.2)] []) (fun v2 => mk [] []) (fun _ _ => rfl) (sm [] _ _ rfl rfl) (fun j1 n1 v1 h => ?_) (fun v2 s h hs => ?_)
 ·unfold Dy at h
  refine wq rfl (A8 rfl (Ab (AH ?_)))
  refine A0 h (fun h => ?_) fun h => ?_
  ·refine An (AH (AI (wq rfl (qm rfl (qa rfl (Ab (wq rfl (qw 2 rfl ?_))))))))
   refine Be h fun v4 a4 h => GZ (.p rfl) rfl rfl HX a4 ?_
   refine qa rfl (Ab (AI ?_))
   refine AF h (fun v5 => mk [(0, pD (.val (.string p0))), (5, pD (.val (.int .u64 v1.1))), (6, iD v1.2), (7, pD (.val (.int .u8 v4))), (10, iD ((Ox 10 ((p0.size : Int))))), (11, iD v1.2), (26, bD v5)] []) (fun j5 h => ?_) (fun v5 h => ?_)
   ·refine Aj Az rfl (qm rfl (AL rfl (qm rfl ?_)))
    refine Dv 29 h rfl (fun h => ?_) fun h => ?_
    ·refine qm rfl (EA rfl (qp rfl (qe rfl ?_)))
     exact sn [] h
    ·refine qw 2 rfl (qp rfl (qe rfl ?_))
     exact sn [] h
   ·refine A0 h (fun h => ?_) fun h => ?_
    ·refine wq rfl (qa rfl (qa rfl (qe rfl ?_)))
     obtain rfl := sj h
     refine Ag (sm [] [(2, pD (.val (.int .u64 0))), (3, iD 0), (4, iD 7)] [] rfl rfl) (Ap ?_)
     exact ⟨⟨[_, _, _], ⟨.tmp _ _ rfl, ⟨.tmp _ _ rfl, tm⟩⟩, rfl⟩, tv⟩
    ·refine wq rfl (qm rfl (EC rfl (qe rfl ?_)))
     refine A0 h (fun h => ?_) fun h => ?_
     ·refine Aj Az rfl (qw 2 rfl (Kw rfl (Ff Qo Ov rfl (qm rfl (Jl rfl ?_)))))
      refine Ge h fun c9 h => IA rfl c9 (Ok rfl (qa rfl (Ab (Aj Az rfl (A6 rfl (qm rfl (Ab ?_)))))))
      exact sn [] h
     ·refine AF h (fun v10 => mk [(5, pD (.val (.int .u64 v1.1))), (6, iD v1.2), (7, pD (.val (.int .u8 v4))), (44, bD v10)] []) (fun j10 h => ?_) (fun v10 h => ?_)
      ·refine Aj Az rfl (qm rfl (AL rfl (qm rfl ?_)))
       refine Dv 47 h rfl (fun h => ?_) fun h => ?_
       ·refine qm rfl (EA rfl (qp rfl (qe rfl ?_)))
        exact sn [] h
       ·refine qw 2 rfl (qp rfl (qe rfl ?_))
        exact sn [] h
      ·refine A0 h (fun h => ?_) fun h => ?_
       ·refine wq rfl (qa rfl (qa rfl (qe rfl ?_)))
        obtain rfl := sj h
        refine Ag (sm [] [(2, pD (.val (.int .u64 0))), (3, iD 0), (4, iD 2)] [] rfl rfl) (Ap ?_)
        exact ⟨⟨[_, _, _], ⟨.tmp _ _ rfl, ⟨.tmp _ _ rfl, tm⟩⟩, rfl⟩, tv⟩
       ·refine wq rfl (qw 2 rfl (Ff Qo Ov rfl (qm rfl (Jl rfl ?_))))
        refine Ge h fun c13 h => IA rfl c13 (Ok rfl (qm rfl (A6 rfl (qa rfl (qa rfl (qe rfl ?_))))))
        obtain rfl := sj h
        refine Ag (sm [] [(2, pD (.val (.int .u64 ((O2 .u64 v1.1 ((GI .u64 ((wI .u64 v4)) ((wI .i64 (7 * v1.2)))))))))), (3, iD ((wI .i64 (v1.2 + 1)))), (4, iD 0)] [] rfl rfl) (Ap ?_)
        exact ⟨⟨[_, _, _], ⟨.tmp _ _ rfl, ⟨.tmp _ _ rfl, tm⟩⟩, rfl⟩, tv⟩
  ·refine Bg ?_
   exact sn [] h
 ·refine Ag hs (wq rfl (qa rfl (qa rfl (qe rfl ?_))))
  obtain rfl := sj h
  refine Ag (sm [] [(2, pD (.val (.int .u64 0))), (3, iD 0), (4, iD 10)] [] rfl rfl) (Ap ?_)
  exact ⟨⟨[_, _, _], ⟨.tmp _ _ rfl, ⟨.tmp _ _ rfl, tm⟩⟩, rfl⟩, tv⟩
theorem LS (N : Nat) (p0 : Int) (p1 : ByteArray) (r : Int) (h : GN N p0 p1 = some r) : Ar zA 62 [pD (.val (.int .u32 p0)), pD (.val (.string p1))] [] (pD (.val (.int .u32 r))) := by
 unfold GN at h
 refine cw (n := 34) (rs := [.tmp 4]) Tryz.func62 fun w0 S0 => ?_
 refine wq rfl (qa rfl (Ab (wq rfl (qm rfl ?_))))
 refine Uc (.p rfl) rfl (OB _) rfl ?_
 refine qa rfl (Ab (wp rfl (qm rfl ?_)))
 refine J9 (.p rfl) rfl HX ?_
 refine qm rfl (Ab ?_)
 refine AS (L := El N p1) h (fun v1 => mk [(0, pD (.val (.int .u32 v1.1))), (1, pD (.val (.string p1))), (10, iD ((p1.size : Int))), (11, iD v1.2)] []) (fun v2 => mk [(0, pD (.val (.int .u32 v2)))] []) (fun _ _ => rfl) (sm [] _ _ rfl rfl) (fun j1 n1 v1 h => ?_) (fun v2 s h hs => ?_)
 ·unfold El at h
  refine wq rfl (A8 rfl (Ab (AH ?_)))
  refine A0 h (fun h => ?_) fun h => ?_
  ·refine An (AH (AI (wq rfl (qm rfl (qa rfl (Ab (wq rfl (qw 3 rfl ?_))))))))
   refine Be h fun v4 a4 h => GZ (.p rfl) rfl rfl HX a4 ?_
   refine Ff Qo Nt rfl (Th rfl (qa rfl (Ab (wq rfl (qm rfl (Ab ?_))))))
   refine AS (L := En N) h (fun v5 => mk [(0, pD (.val (.int .u32 v5.1))), (1, pD (.val (.string p1))), (10, iD ((p1.size : Int))), (11, iD v1.2), (20, iD v5.2)] []) (fun v6 => mk [(0, pD (.val (.int .u32 v6))), (1, pD (.val (.string p1))), (10, iD ((p1.size : Int))), (11, iD v1.2)] []) (fun _ _ => rfl) (sm [] _ _ rfl rfl) (fun j5 n5 v5 h => ?_) (fun v6 s h hs => ?_)
   ·unfold En at h
    refine wq rfl (A8 rfl (Ab (AH ?_)))
    refine A0 h (fun h => ?_) fun h => ?_
    ·refine An ?_
     refine AF h (fun v8 => mk [(0, pD (.val (.int .u32 v8))), (1, pD (.val (.string p1))), (10, iD ((p1.size : Int))), (11, iD v1.2), (20, iD v5.2)] []) (fun j8 h => ?_) (fun v8 h => ?_)
     ·refine AI (wq rfl (qm rfl (Kw rfl (qa rfl (Ab (wq rfl (qm rfl (II rfl (by decide) (qa rfl (Ab (wq rfl (qm rfl (AL rfl (Ab ?_))))))))))))))
      refine A0 h (fun h => ?_) fun h => ?_
      ·refine Aj Az rfl (qm rfl (Th rfl (qe rfl ?_)))
       exact sn [] h
      ·refine An ?_
       exact sn [] h
     ·refine Aj Az rfl (A6 rfl (qm rfl (Ab ?_)))
      exact sn [] h
    ·refine Bg ?_
     exact sn [] h
   ·refine Ag hs (Aj Az rfl (A6 rfl (qm rfl (Ab ?_))))
    exact sn [] h
  ·refine Bg ?_
   exact sn [] h
 ·refine Ag hs (wq rfl (qm rfl ?_))
  refine Uc (.p rfl) rfl (OB _) rfl ?_
  refine qa rfl (Ab ?_)
  obtain rfl := sj h
  refine Ag (sm [] [(4, pD (.val (.int .u32 ((NR .u32 4294967295 v2)))))] [] rfl rfl) (Ap ?_)
  exact ⟨⟨[_], tm, rfl⟩, tv⟩
theorem KV (N : Nat) (p0 : ByteArray) (r : Int) (h : FG N p0 = some r) : Ar zA 39 [pD (.val (.string p0))] [] (pD (.val (.int .u32 r))) := by
 unfold FG at h
 refine cw (n := 5) (rs := [.tmp 2]) Tryz.func39 fun w0 S0 => ?_
 refine wq rfl (qa rfl (Ab (wq rfl (qm rfl ?_))))
 refine Be h fun v1 a1 h => Av [] (LS N 0 p0 v1 a1) VI rfl (qe rfl ?_)
 obtain rfl := sj h
 refine Ag (sm [] [(2, pD (.val (.int .u32 v1)))] [] rfl rfl) (Ap ?_)
 exact ⟨⟨[_], tm, rfl⟩, tv⟩
theorem Lf (N : Nat) (p0 : ByteArray) (r : ByteArray × Int × Int) (h : BV N p0 = some r) : Ar zA 25 [pD (.val (.string p0))] [] (.tup [.one (.pure (.val (.string r.1))), .one (iC r.2.1), .one (iC r.2.2)]) := by
 unfold BV at h
 refine cw (n := 75) (rs := [.tmp 2, .tmp 3, .tmp 4]) Tryz.func25 fun w0 S0 => ?_
 refine wq rfl (qa rfl (qa rfl (qa rfl (Ab (wq rfl (qm rfl ?_))))))
 refine Be h fun v1 a1 h => Av [] (KW N p0 v1 a1) Vk rfl (qm rfl (qx rfl (qx rfl (qx rfl (qa rfl (qa rfl (qa rfl (Ab (AH (AI ?_))))))))))
 refine AF h (fun v2 => mk [(0, pD (.val (.string p0))), (5, pD (.val (.int .u64 v1.1))), (6, iD v1.2.1), (7, iD v1.2.2), (17, bD v2)] []) (fun j2 h => ?_) (fun v2 h => ?_)
 ·refine wq rfl (qm rfl (AL rfl (qe rfl ?_)))
  refine A0 h (fun h => ?_) fun h => ?_
  ·refine An ?_
   exact sn [] h
  ·refine Aj Az rfl (qm rfl (AL rfl (qm rfl ?_)))
   refine Dv 22 h rfl (fun h => ?_) fun h => ?_
   ·refine qm rfl (EA rfl (qp rfl (qe rfl ?_)))
    exact sn [] h
   ·refine qw 2 rfl (qp rfl (qe rfl ?_))
    exact sn [] h
 ·refine A0 h (fun h => ?_) fun h => ?_
  ·refine wq rfl (qa rfl (qa rfl (qe rfl ?_)))
   obtain rfl := sj h
   refine Ag (sm [] [(2, pD (.val (.string ((⟨#[]⟩ : ByteArray))))), (3, iD 0), (4, iD 3)] [] rfl rfl) (Ap ?_)
   exact ⟨⟨[_, _, _], ⟨.tmp _ _ rfl, ⟨.tmp _ _ rfl, tm⟩⟩, rfl⟩, tv⟩
  ·refine wq rfl (qm rfl (Ba rfl (qe rfl ?_)))
   refine A0 h (fun h => ?_) fun h => ?_
   ·refine wq rfl (qm rfl (qa rfl (qa rfl (qe rfl ?_))))
    obtain rfl := sj h
    refine Ag (sm [] [(2, pD (.val (.string ((⟨#[]⟩ : ByteArray))))), (3, iD 0), (4, iD v1.2.2)] [] rfl rfl) (Ap ?_)
    exact ⟨⟨[_, _, _], ⟨.tmp _ _ rfl, ⟨.tmp _ _ rfl, tm⟩⟩, rfl⟩, tv⟩
   ·refine An (wq rfl (qm rfl (A6 rfl (qm rfl (Ff SM Vx rfl (A6 rfl (qa rfl (Ab (wp rfl (qm rfl ?_))))))))))
    refine J9 (.p rfl) rfl HX ?_
    refine qm rfl (A8 rfl (Ab ?_))
    refine A0 h (fun h => ?_) fun h => ?_
    ·refine wq rfl (qa rfl (qa rfl (qe rfl ?_)))
     obtain rfl := sj h
     refine Ag (sm [] [(2, pD (.val (.string ((⟨#[]⟩ : ByteArray))))), (3, iD 0), (4, iD 10)] [] rfl rfl) (Ap ?_)
     exact ⟨⟨[_, _, _], ⟨.tmp _ _ rfl, ⟨.tmp _ _ rfl, tm⟩⟩, rfl⟩, tv⟩
    ·refine An (wq rfl (qw 2 rfl (A6 rfl (qm rfl ?_))))
     refine Ge h fun c8 h => Km (.p rfl) rfl HX (.some _ _ _ _ c8.1) (.some _ _ _ _ c8.2.1) ⟨rfl, tv⟩ ⟨rfl, tv⟩ c8.2.2.1 c8.2.2.2 ?_
     refine qa rfl (Ab (wq rfl (qw 2 rfl ?_)))
     refine Be h fun v9 a9 h => GZ (.p rfl) rfl rfl HX a9 ?_
     refine Ff Qo Nt rfl (IA rfl (by decide) (qw 2 rfl (A6 rfl ?_)))
     refine Be h fun v10 a10 h => GZ (.p rfl) rfl rfl HX a10 ?_
     refine Ff Qo Nt rfl (IA rfl (by decide) (Ok rfl (qw 2 rfl (A6 rfl ?_))))
     refine Be h fun v11 a11 h => GZ (.p rfl) rfl rfl HX a11 ?_
     refine Ff Qo Nt rfl (IA rfl (by decide) (Ok rfl (qw 2 rfl (A6 rfl ?_))))
     refine Be h fun v12 a12 h => GZ (.p rfl) rfl rfl HX a12 ?_
     refine Ff Qo Nt rfl (Ok rfl (qa rfl (AJ (by kernel_rfl) (wp rfl (qw 2 rfl ?_)))))
     refine Be h fun v13 a13 h => Av [] (KV N ((p0.extract (((wI .i64 (v1.2.1 + 4))).toNat) (((wI .i64 ((wI .i64 (v1.2.1 + 4)) + (wI .i64 v1.1)))).toNat))) v13 a13) Vt rfl (Ba rfl (Ab ?_))
     refine A0 h (fun h => ?_) fun h => ?_
     ·refine wq rfl (qa rfl (qa rfl (qe rfl ?_)))
      obtain rfl := sj h
      refine Ag (sm [] [(2, pD (.val (.string ((⟨#[]⟩ : ByteArray))))), (3, iD 0), (4, iD 17)] [] rfl rfl) (Ap ?_)
      exact ⟨⟨[_, _, _], ⟨.tmp _ _ rfl, ⟨.tmp _ _ rfl, tm⟩⟩, rfl⟩, tv⟩
     ·refine An (wq rfl (qw 2 rfl (qa rfl (qa rfl (qe rfl ?_)))))
      obtain rfl := sj h
      refine Ag (sm [] [(2, pD (.val (.string ((p0.extract (((wI .i64 (v1.2.1 + 4))).toNat) (((wI .i64 ((wI .i64 (v1.2.1 + 4)) + (wI .i64 v1.1)))).toNat)))))), (3, iD ((wI .i64 ((wI .i64 (v1.2.1 + 4)) + (wI .i64 v1.1))))), (4, iD 0)] [] rfl rfl) (Ap ?_)
      exact ⟨⟨[_, _, _], ⟨.tmp _ _ rfl, ⟨.tmp _ _ rfl, tm⟩⟩, rfl⟩, tv⟩
theorem LG (N : Nat) (p0 : ByteArray) (r : AC × Int) (h : Et N p0 = some r) : Ar zA 26 [pD (.val (.string p0))] [] (.tup [.agg (GP r.1), .one (iC r.2)]) := by
 unfold Et at h
 refine cw (n := 41) (rs := [.cell 2 36, .tmp 3]) Tryz.func26 fun w0 S0 => ?_
 refine wq rfl (qz LO rfl (qa rfl (Ab (wq rfl ?_))))
 refine Oz (rows := ([0, 0, 0] : List Int).map Aa) (.p rfl) Vq rfl rfl rfl rfl ?_
 refine Ab (wp rfl (qm rfl (Ab ?_)))
 refine AS (L := Em N) h (fun v1 => mk [(0, pD (.val (.string v1.1))), (2, oD (.ptr 2 0)), (4, oD (.eptr 2001 1 0 0)), (9, iD v1.2.2)] [(2, .box [iC 0, iC 0, iC 0, .pure (.val (.string (⟨#[]⟩)))]), (2001, .vec 1 (v1.2.1.map Aa))]) (fun v2 => mk [(0, pD (.val (.string v2.1))), (2, oD (.ptr 2 0)), (4, oD (.eptr 2002 1 0 0))] [(2, .box [iC 0, iC 0, iC 0, .pure (.val (.string (⟨#[]⟩)))]), (2002, .vec 1 (v2.2.map Aa))]) (fun _ _ => rfl) (sm [(2001, 4)] _ _ rfl rfl) (fun j1 n1 v1 h => ?_) (fun v2 s h hs => ?_)
 ·unfold Em at h
  refine wq rfl (A8 rfl (Ab (AH ?_)))
  refine A0 h (fun h => ?_) fun h => ?_
  ·refine An (AH (AI (wq rfl (qm rfl (qa rfl (Ab (wq rfl (qm rfl ?_))))))))
   refine Be h fun v4 a4 h => Av [] (KW N v1.1 v4 a4) Vk rfl (qm rfl (qx rfl (qx rfl (qx rfl (qa rfl (qa rfl (qa rfl (Ab (AH ?_)))))))))
   refine AF h (fun v5 => mk [(0, pD (.val (.string v1.1))), (2, oD (.ptr 2 0)), (4, oD (.eptr 2003 1 0 0)), (5, iD v1.2.2), (6, pD (.val (.int .u64 v4.1))), (7, iD v4.2.1), (9, iD v1.2.2), (23, bD v5)] [(2, .box [iC 0, iC 0, iC 0, .pure (.val (.string (⟨#[]⟩)))]), (2003, .vec 1 (v1.2.1.map Aa))]) (fun j5 h => ?_) (fun v5 h => ?_)
   ·refine Aj Az rfl (qm rfl (Ba rfl (qm rfl ?_)))
    refine Dv 20 h rfl (fun h => ?_) fun h => ?_
    ·refine qw 2 rfl (qp rfl (Ab ?_))
     exact sn [(2003, 2001)] h
    ·refine qm rfl (EA rfl (qp rfl (Ab ?_)))
     exact sn [(2003, 2001)] h
   ·refine A0 h (fun h => ?_) fun h => ?_
    ·refine wq rfl (AG LO P2 rfl (qs HU rfl (qe rfl ?_)))
     obtain rfl := sj h
     refine Ag (sm [] [(2, oD (.ptr 2 0)), (3, iD 2)] [(2, .box [iC 0, iC 0, iC 0, .pure (.val (.string (⟨#[]⟩)))])] rfl rfl) (Ap ?_)
     exact ⟨⟨[_, _], ⟨.cellN _ _ _ _ _ _ _ rfl rfl LV HU rfl rfl (EU rfl), tm⟩, rfl⟩, tv⟩
    ·refine An (Aj Az rfl (qw 2 rfl (Ff SM Vu rfl (qw 2 rfl ?_))))
     refine Ge h fun c8 h => Km (.p rfl) rfl HX (.some _ _ _ _ c8.1) (.none _) ⟨rfl, tv⟩ tv c8.2.1 c8.2.2 ?_
     refine Ge h fun c9 h => Cn h fun v10 a10 b10 h => DX (.p rfl) rfl rfl rfl NW OP a10 (Ao (f := Aa) b10) ((zJ ..).trans c9) ?_
     refine ER rfl rfl rfl rfl (Ao (f := Aa) b10) rfl OP rfl (Da rfl) (EB Aa v1.2.1 _ ((wI .i64 v4.1))) ?_
     refine qa rfl (AJ (by kernel_rfl) (Aj Az rfl (A6 rfl (qm rfl (Ab ?_)))))
     exact sn [(2001, 2003)] h
  ·refine Bg ?_
   exact sn [(2002, 2001)] h
 ·refine Ag hs (wq rfl ?_)
  refine Ge h fun c11 h => Cn h fun v12 a12 b12 h => DX (.p rfl) rfl rfl rfl NW OP a12 (Ao (f := Aa) b12) ((zJ ..).trans c11) ?_
  refine Fj (.p rfl) rfl JP rfl (Ao (f := Aa) b12) rfl ?_
  refine Ge h fun c13 h => Cn h fun v14 a14 b14 h => DX (.p rfl) rfl rfl rfl NW OP a14 (Ao (f := Aa) b14) ((zJ ..).trans c13) ?_
  refine Fj (.p rfl) rfl JP rfl (Ao (f := Aa) b14) rfl ?_
  refine Ge h fun c15 h => Cn h fun v16 a16 b16 h => DX (.p rfl) rfl rfl rfl NW OP a16 (Ao (f := Aa) b16) ((zJ ..).trans c15) ?_
  refine Fj (.p rfl) rfl JP rfl (Ao (f := Aa) b16) rfl ?_
  refine qm rfl (AG LO P2 rfl (qs HU rfl (qe rfl ?_)))
  obtain rfl := sj h
  refine Ag (sm [] [(2, oD (.ptr 2 0)), (3, iD 0)] [(2, .box [iC v12, iC v14, iC v16, .pure (.val (.string v2.1))])] rfl rfl) (Ap ?_)
  exact ⟨⟨[_, _], ⟨.cellN _ _ _ _ _ _ _ rfl rfl LV HU rfl rfl (EU rfl), tm⟩, rfl⟩, tv⟩
theorem HV (N : Nat) (p0 : ByteArray) (r : (List AC) × Int × Int) (h : Dd N p0 = some r) : Ar zA 10 [pD (.val (.string p0))] [(4, r.1.map Cb)] (.tup [.one (.own 0), .one (iC r.2.1), .one (iC r.2.2)]) := by
 unfold Dd at h
 refine cw (n := 45) (rs := [.tmp 2, .tmp 3, .tmp 4]) Tryz.func10 fun w0 S0 => ?_
 refine wq rfl (qa rfl (qa rfl (qa rfl (Ab (wq rfl (qa rfl (Ab (wq rfl (qa rfl (Ab (AH ?_)))))))))))
 refine AS (L := Cl N p0) h (fun v1 => mk [(0, pD (.val (.string p0))), (5, oD (.own 2001)), (6, iD v1.2)] [(2001, .vec 4 (v1.1.map Cb))]) (fun v2 => mk [(5, oD (.own 2002)), (6, iD v2.2)] [(2002, .vec 4 (v2.1.map Cb))]) (fun _ _ => rfl) ((BF 5 2003 4 rfl rfl rfl).trans (sm [(2001, 2003)] _ _ rfl rfl)) (fun j1 n1 v1 h => ?_) (fun v2 s h hs => ?_)
 ·unfold Cl at h
  refine wp rfl (qw 2 rfl ?_)
  refine J9 (.p rfl) rfl HX ?_
  refine A8 rfl (Ab ?_)
  refine A0 h (fun h => ?_) fun h => ?_
  ·refine An (AI (wq rfl (qw 2 rfl ?_)))
   refine Ge h fun c4 h => Km (.p rfl) rfl HX (.some _ _ _ _ c4.1) (.none _) ⟨rfl, tv⟩ tv c4.2.1 c4.2.2 ?_
   refine Be h fun v5 a5 h => Av [] (Lf N ((p0.extract ((v1.2).toNat) p0.size)) v5 a5) VR rfl (qm rfl (qx rfl (qx rfl (qx rfl (qa rfl (qa rfl (qa rfl (Ab (wp rfl (qm rfl (Ba rfl (Ab ?_))))))))))))
   refine A0 h (fun h => ?_) fun h => ?_
   ·refine wq rfl (qw 2 rfl (qa rfl (qa rfl (qe rfl ?_))))
    obtain rfl := sj h
    refine Ag (sm [(1000, 2001)] [(2, oD (.own 1000)), (3, iD v1.2), (4, iD 17)] [(1000, .vec 4 (v1.1.map Cb))] rfl rfl) (Ap ?_)
    exact ⟨⟨[_, _, _], ⟨.tmp _ _ rfl, ⟨.tmp _ _ rfl, tm⟩⟩, rfl⟩, ⟨rfl, tv⟩⟩
   ·refine An (wq rfl (qm rfl ?_))
    refine Be h fun v7 a7 h => Av [] (LG N v5.1 v7 a7) VK rfl (qm rfl (qx rfl (qx rfl (qz LO rfl (qs HU rfl (qa rfl (Ab (wp rfl (qm rfl (Ba rfl (Ab ?_)))))))))))
    refine A0 h (fun h => ?_) fun h => ?_
    ·refine wq rfl (qw 2 rfl (qa rfl (qa rfl (qe rfl ?_))))
     obtain rfl := sj h
     refine Ag (sm [(1000, 2001)] [(2, oD (.own 1000)), (3, iD v1.2), (4, iD 17)] [(1000, .vec 4 (v1.1.map Cb))] rfl rfl) (Ap ?_)
     exact ⟨⟨[_, _, _], ⟨.tmp _ _ rfl, ⟨.tmp _ _ rfl, tm⟩⟩, rfl⟩, ⟨rfl, tv⟩⟩
    ·refine An (wq rfl (qm rfl (qL LV HU rfl (FD JY HU LO rfl ?_))))
     refine Ge h fun c9 h => G1 (f := Cb) JY JY HU Va LO c9 rfl (qa rfl (Ab (Aj Az rfl (qw 2 rfl (A6 rfl (qe rfl ?_))))))
     exact sn [(2001, 39)] h
  ·refine Bg ?_
   exact sn [(2002, 2001)] h
 ·refine Ag hs (wq rfl (qw 2 rfl (qa rfl (qa rfl (qe rfl ?_)))))
  obtain rfl := sj h
  refine Ag (sm [(1000, 2002)] [(2, oD (.own 1000)), (3, iD v2.2), (4, iD 0)] [(1000, .vec 4 (v2.1.map Cb))] rfl rfl) (Ap ?_)
  exact ⟨⟨[_, _, _], ⟨.tmp _ _ rfl, ⟨.tmp _ _ rfl, tm⟩⟩, rfl⟩, ⟨rfl, tv⟩⟩
theorem LW (N : Nat) (p0 : List AC) (r : Int) (h : Fn N p0 = some r) : Ar zA 22 [pD (.sl (p0.map Cb))] [] (iD r) := by
 unfold Fn at h
 refine cw (n := 18) (rs := [.tmp 2]) Tryz.func22 fun w0 S0 => ?_
 refine wq rfl (qa rfl (Ab (wq rfl (qa rfl (Ab (wp rfl (qm rfl (AT JY rfl (qm rfl (Ab ?_))))))))))
 refine AS (L := CJ N p0) h (fun v1 => mk [(3, iD v1.1), (6, pD (.sl (p0.map Cb))), (7, iD ((p0.length : Int))), (8, iD v1.2)] []) (fun v2 => mk [(3, iD v2)] []) (fun _ _ => rfl) (sm [] _ _ rfl rfl) (fun j1 n1 v1 h => ?_) (fun v2 s h hs => ?_)
 ·unfold CJ at h
  refine wq rfl (A8 rfl (Ab (AH ?_)))
  refine A0 h (fun h => ?_) fun h => ?_
  ·refine An (AH (AI (wq rfl ?_)))
   refine Cn h fun v4 a4 b4 h => qi JY HU a4 (Ao b4) rfl (qK LV HU rfl (qz LO rfl (qs HU rfl (Ab (Aj Az rfl (qm rfl (qf JI rfl (ql JP rfl ?_))))))))
   refine Tl (.p rfl) rfl rfl ?_
   refine qa rfl (Ab (Aj Az rfl (A6 rfl (qm rfl (Ab ?_)))))
   exact sn [] h
  ·refine Bg ?_
   exact sn [] h
 ·refine Ag hs (wq rfl (qm rfl (qe rfl ?_)))
  obtain rfl := sj h
  refine Ag (sm [] [(2, iD v2)] [] rfl rfl) (Ap ?_)
  exact ⟨⟨[_], tm, rfl⟩, tv⟩
set_option maxRecDepth 1000000 in
theorem Sb (n : Int) (_h0 : 0 ≤ n) (h1 : n < 128) (w : World) :
  Calls zA 60 #[.int .u64 n] w fun e w' => e = .returned (.string (DL [n])) ∧ Below w.heap.size w w' ∧ w'.drawn = w.drawn := by
 have hn : ¬ (128 ≤ n) := by omega
 have hw : IntKind.u8.wrap n = n := by have e : IntKind.u8.wrap n = n % 256 := rfl; rw [e]; omega
 have hc := Qb (P := zA) (w := w.alloc (.cells ((xC 10 (.int .u8 0)).setIfInBounds 0 (.int .u8 n)) 167)) (β := w.heap.size) (cap := 10) (n := n) NK HX (by rw [Bi, if_pos rfl]) (by simp) (by simp [Aq])
 go_enter Tryz.func60, Tryz.ntmps60
 go_wp2
 go_loopg [0, 4] 0 (fun g s0 s4 wx => g = 0 ∧ s0 = .int .u64 n ∧ s4 = .int .i64 0 ∧ wx = w.alloc (.cells (xC 10 (.int .u8 0)) 167))
 case atStart => exact ⟨rfl, rfl, rfl, rfl⟩
 case round =>
  obtain ⟨_, rfl, rfl, rfl⟩ := hrel
  go_wp2_with (simp only [hc])
  go_ret
  exact ⟨rfl, (Below.refl _ _).alloc (yD _) _, rfl⟩
theorem Kt (N : Nat) (p0 : Int) (r : ByteArray) (h : Il N p0 = some r) : Ar zA 60 [pD (.val (.int .u64 p0))] [] (pD (.val (.string r))) := by
 obtain ⟨hc, h⟩ := Hd h
 obtain rfl := sj h
 intro w S vs hS hgk hlen hrd
 have h0 : Aq vs 0 = .int .u64 p0 := Cx (hrd 0 _ rfl : Ca w S (Aq vs 0) (.val _))
 have hvs : vs = #[.int .u64 p0] := by
  have h2 : vs.size = 1 := hlen
  rw [← h0]
  apply Array.ext (by simp [h2])
  intro i h1 _
  have : i = 0 := by omega
  subst this; simp [Aq, h1]
 rw [hvs]
 refine (Sb p0 hc.1 hc.2 w).mono ?_
 rintro e w' ⟨rfl, hb, hd⟩
 exact ⟨_, G0 S, rfl, ⟨hb, .of (Nat.le_of_eq hd.symm)⟩, fun _ h => h, fun _ h => .inl h, Ca.val _ rfl, fun i x hi => by simp at hi, fun i β hi => by simp at hi, fun i l β hi => by simp at hi⟩
theorem LN (N : Nat) (p0 : List Int) (r : ByteArray) (h : GT N p0 = some r) : Ar zA 61 [pD (.sl (p0.map Vm))] [] (pD (.val (.string r))) := by
 unfold GT at h
 refine cw (n := 19) (rs := [.tmp 2]) Tryz.func61 fun w0 S0 => ?_
 refine wq rfl (qa rfl (Ab (wq rfl (qa rfl (Ab (wp rfl (qm rfl (AT O4 rfl (qm rfl (Ab ?_))))))))))
 refine AS (L := Es N p0) h (fun v1 => mk [(3, oD (.own 2001)), (6, pD (.sl (p0.map Vm))), (7, iD ((p0.length : Int))), (8, iD v1.2)] [(2001, .vec 1 (v1.1.map Bd))]) (fun v2 => mk [(3, oD (.own 2002))] [(2002, .vec 1 (v2.map Bd))]) (fun _ _ => rfl) ((BF 3 2003 1 rfl rfl rfl).trans (sm [(2001, 2003)] _ _ rfl rfl)) (fun j1 n1 v1 h => ?_) (fun v2 s h hs => ?_)
 ·unfold Es at h
  refine wq rfl (A8 rfl (Ab (AH ?_)))
  refine A0 h (fun h => ?_) fun h => ?_
  ·refine An (AH (AI (wq rfl ?_)))
   refine Cn h fun v4 a4 b4 h => qi O4 U2 a4 (Ao b4) rfl (qk V6 rfl (qa rfl (Ab (Aj Az rfl (qw 2 rfl ?_)))))
   refine Be h fun v5 a5 h => Av [] (Kt N v4 v5 a5) Up rfl ?_
   refine Ge h fun c6 h => Qd (.p rfl) rfl (.own _ _ _) ⟨rfl, tv⟩ rfl (Pk Bd (fun _ => rfl) v5) rfl I5 HX T1 SD (Da rfl) TK rfl (Rt (f := Bd) (g := Bd) (xs := v1.1) c6) (JN Bd v1.1 (Pt v5)) rfl ?_
   refine qa rfl (Ab (Aj Az rfl (A6 rfl (qm rfl (Ab ?_)))))
   exact sn [(2001, 15)] h
  ·refine Bg ?_
   exact sn [(2002, 2001)] h
 ·refine Ag hs (wq rfl (qm rfl ?_))
  refine Md v2 (.p rfl) rfl (HK Bd _ _ _) ⟨rfl, tv⟩ rfl NK HX ?_
  refine qa rfl (Ab ?_)
  obtain rfl := sj h
  refine Ag (sm [] [(2, pD (.val (.string ((DL v2)))))] [] rfl rfl) (Ap ?_)
  exact ⟨⟨[_], tm, rfl⟩, tv⟩
theorem Ln (N : Nat) (p0 : AC) (r : ByteArray) (h : D9 N p0 = some r) : Ar zA 37 [.e (.agg (GP p0))] [] (pD (.val (.string r))) := by
 unfold D9 at h
 refine cw (n := 20) (rs := [.tmp 2]) Tryz.func37 fun w0 S0 => ?_
 refine wq rfl (qb rfl (qa rfl (Ab (wp rfl (qL LV HU rfl ?_)))))
 refine Be h fun v1 a1 h => Av [] (Hq N p0 v1 a1) TS rfl (B2 rfl (Ab ?_))
 refine A0 h (fun h => ?_) fun h => ?_
 ·refine wq rfl (qe rfl ?_)
  obtain rfl := sj h
  refine Ag (sm [] [(2, pD (.val (.string ((⟨#[]⟩ : ByteArray)))))] [] rfl rfl) (Ap ?_)
  exact ⟨⟨[_], tm, rfl⟩, tv⟩
 ·refine An (wq rfl (qf LY rfl (ql Bs rfl (Ff Uk Ov rfl (qf JI rfl (ql JP rfl (Ff WO Ov rfl (qf Nz rfl (ql Bs rfl (Ff Uk Ov rfl (FD O4 U2 WH rfl ?_)))))))))))
  refine Be h fun v3 a3 h => FM [] [15] (LN N (([(wI .u64 p0.fw), (wI .u64 p0.fe), (wI .u64 p0.fy)] : List Int)) v3 a3) WE DW rfl (qf R0 rfl (ql WP rfl ?_))
  refine Ge h fun c4 h => F6 (.p rfl) rfl rfl (K2 _ _ _ _ c4) rfl ?_
  refine qa rfl (AJ (by kernel_rfl) ?_)
  obtain rfl := sj h
  refine Ag (sm [] [(2, pD (.val (.string ((v3 ++ p0.fS)))))] [] rfl rfl) (Ap ?_)
  exact ⟨⟨[_], tm, rfl⟩, tv⟩
theorem My (N : Nat) (p0 : ByteArray) (r : ByteArray × Int) (h : DY N p0 = some r) : Ar zA 36 [pD (.val (.string p0))] [] (.tup [.one (.pure (.val (.string r.1))), .one (iC r.2)]) := by
 unfold DY at h
 refine cw (n := 30) (rs := [.tmp 2, .tmp 3]) Tryz.func36 fun w0 S0 => ?_
 refine wq rfl (qa rfl (qa rfl (Ab (wp rfl (qm rfl ?_)))))
 refine J9 (.p rfl) rfl HX ?_
 refine EA rfl (Ab ?_)
 refine A0 h (fun h => ?_) fun h => ?_
 ·refine wq rfl (qa rfl (qe rfl ?_))
  obtain rfl := sj h
  refine Ag (sm [] [(2, pD (.val (.string ((⟨#[]⟩ : ByteArray))))), (3, iD 3)] [] rfl rfl) (Ap ?_)
  exact ⟨⟨[_, _], ⟨.tmp _ _ rfl, tm⟩, rfl⟩, tv⟩
 ·refine An (wq rfl (qm rfl ?_))
  refine Be h fun v2 a2 h => Av [] (KV N p0 v2 a2) Vt rfl (qa rfl (Ab (wq rfl (qm rfl ?_))))
  refine J9 (.p rfl) rfl HX ?_
  refine Ff Uk Ov rfl ?_
  refine Be h fun v3 a3 h => Av [] (Kt N ((wI .u64 ((p0.size : Int)))) v3 a3) Up rfl (qm rfl (II rfl (by decide) (Ff OS Um rfl (qm rfl (II rfl (by decide) (Ff OS Um rfl (qm rfl (II rfl (by decide) (Ff OS Um rfl (qm rfl (Ff OS Um rfl (FD I5 T1 TK rfl ?_))))))))))))
  refine Md (([(wI .u8 ((Eh .u32 v2 24))), (wI .u8 ((Eh .u32 v2 16))), (wI .u8 ((Eh .u32 v2 8))), (wI .u8 v2)] : List Int)) (.p rfl) rfl (HK Bd _ _ _) ⟨rfl, tv⟩ rfl NK HX ?_
  refine Ge h fun c4 h => F6 (.p rfl) rfl rfl (K2 _ _ _ _ c4) rfl ?_
  refine qm rfl ?_
  refine Ge h fun c5 h => F6 (.p rfl) rfl rfl (K2 _ _ _ _ c5) rfl ?_
  refine qa rfl (qa rfl (AJ (by kernel_rfl) ?_))
  obtain rfl := sj h
  refine Ag (sm [] [(2, pD (.val (.string (((v3 ++ (DL (([(wI .u8 ((Eh .u32 v2 24))), (wI .u8 ((Eh .u32 v2 16))), (wI .u8 ((Eh .u32 v2 8))), (wI .u8 v2)] : List Int)))) ++ p0))))), (3, iD 0)] [] rfl rfl) (Ap ?_)
  exact ⟨⟨[_, _], ⟨.tmp _ _ rfl, tm⟩, rfl⟩, tv⟩
theorem Lo (N : Nat) (p0 : ByteArray) (p1 : AC) (r : ByteArray × Int) (h : EX N p0 p1 = some r) : Ar zA 23 [pD (.val (.string p0)), .e (.agg (GP p1))] [] (.tup [.one (.pure (.val (.string r.1))), .one (iC r.2)]) := by
 unfold EX at h
 refine cw (n := 23) (rs := [.tmp 4, .tmp 5]) Tryz.func23 fun w0 S0 => ?_
 refine wq rfl (qb rfl (qa rfl (qa rfl (Ab (wp rfl (qL LV HU rfl ?_))))))
 refine Be h fun v1 a1 h => Av [] (Hq N p1 v1 a1) TS rfl (B2 rfl (Ab ?_))
 refine A0 h (fun h => ?_) fun h => ?_
 ·refine wq rfl (qa rfl (qe rfl ?_))
  obtain rfl := sj h
  refine Ag (sm [] [(4, pD (.val (.string ((⟨#[]⟩ : ByteArray))))), (5, iD 1)] [] rfl rfl) (Ap ?_)
  exact ⟨⟨[_, _], ⟨.tmp _ _ rfl, tm⟩, rfl⟩, tv⟩
 ·refine An (wq rfl (qL LV HU rfl ?_))
  refine Be h fun v3 a3 h => Av [] (Ln N p1 v3 a3) WI rfl ?_
  refine Be h fun v4 a4 h => Av [] (My N v3 v4 a4) VZ rfl (qm rfl (qx rfl (qx rfl (qa rfl (qa rfl (Ab (wp rfl (qm rfl (Ba rfl (Ab ?_))))))))))
  refine A0 h (fun h => ?_) fun h => ?_
  ·refine wq rfl (qm rfl (qa rfl (qe rfl ?_)))
   obtain rfl := sj h
   refine Ag (sm [] [(4, pD (.val (.string ((⟨#[]⟩ : ByteArray))))), (5, iD v4.2)] [] rfl rfl) (Ap ?_)
   exact ⟨⟨[_, _], ⟨.tmp _ _ rfl, tm⟩, rfl⟩, tv⟩
  ·refine An (wq rfl (qw 2 rfl ?_))
   refine Ge h fun c6 h => F6 (.p rfl) rfl rfl (K2 _ _ _ _ c6) rfl ?_
   refine qa rfl (qe rfl ?_)
   obtain rfl := sj h
   refine Ag (sm [] [(4, pD (.val (.string ((p0 ++ v4.1))))), (5, iD 0)] [] rfl rfl) (Ap ?_)
   exact ⟨⟨[_, _], ⟨.tmp _ _ rfl, tm⟩, rfl⟩, tv⟩
theorem FP (N : Nat) (p0 : ByteArray) (p1 : AC) (r : ByteArray × Int) (h : BE N p0 p1 = some r) : Ar zA 7 [pD (.val (.string p0)), .e (.agg (GP p1))] [] (.tup [.one (.pure (.val (.string r.1))), .one (iC r.2)]) := by
 unfold BE at h
 refine cw (n := 30) (rs := [.tmp 4, .tmp 5]) Tryz.func7 fun w0 S0 => ?_
 refine wq rfl (qb rfl (qa rfl (qa rfl (Ab (wp rfl (qL LV HU rfl ?_))))))
 refine Be h fun v1 a1 h => Av [] (Hq N p1 v1 a1) TS rfl (B2 rfl (Ab ?_))
 refine A0 h (fun h => ?_) fun h => ?_
 ·refine wq rfl (qa rfl (qe rfl ?_))
  obtain rfl := sj h
  refine Ag (sm [] [(4, pD (.val (.string ((⟨#[]⟩ : ByteArray))))), (5, iD 1)] [] rfl rfl) (Ap ?_)
  exact ⟨⟨[_, _], ⟨.tmp _ _ rfl, tm⟩, rfl⟩, tv⟩
 ·refine An (wq rfl (qm rfl ?_))
  refine Be h fun v3 a3 h => Av [2001] (HV N p0 v3 a3) Ts rfl (qm rfl (qx rfl (qx rfl (qx rfl (qa rfl (qa rfl (qa rfl (Ab (wp rfl (qf JI rfl (ql JP rfl (qm rfl ?_))))))))))))
  refine Be h fun v4 a4 h => FM [] [2001] (LW N v3.1 v4 a4) Wc DW rfl (A8 rfl (AJ (by kernel_rfl) ?_))
  refine A0 h (fun h => ?_) fun h => ?_
  ·refine wq rfl (qa rfl (qe rfl ?_))
   obtain rfl := sj h
   refine Ag (sm [] [(4, pD (.val (.string ((⟨#[]⟩ : ByteArray))))), (5, iD 16)] [] rfl rfl) (Ap ?_)
   exact ⟨⟨[_, _], ⟨.tmp _ _ rfl, tm⟩, rfl⟩, tv⟩
  ·refine An (wq rfl (qw 2 rfl ?_))
   refine Ge h fun c6 h => Km (.p rfl) rfl HX (.none _) (.some _ _ _ _ c6.1) tv ⟨rfl, tv⟩ c6.2.1 c6.2.2 ?_
   refine qL LV HU rfl ?_
   refine Be h fun v7 a7 h => Av [] (Lo N ((p0.extract 0 ((v3.2.1).toNat))) p1 v7 a7) VA rfl (qx rfl (qx rfl (qa rfl (qa rfl (AJ (by kernel_rfl) ?_)))))
   obtain rfl := sj h
   refine Ag (sm [] [(4, pD (.val (.string v7.1))), (5, iD v7.2)] [] rfl rfl) (Ap ?_)
   exact ⟨⟨[_, _], ⟨.tmp _ _ rfl, tm⟩, rfl⟩, tv⟩
theorem Ir (N : Nat) (p0 : AA) (r : Al) (h : DR N p0 = some r) : Cc zA 83 [oD (.ptr 90000 0)] [(.box (A2 p0), .box (A2 p0))] [] (.e (.agg (Bz r))) := by
 unfold DR at h
 refine BP (n := 28) (rs := [.cell 2 87]) Tryz.func83 rfl rfl rfl (Da rfl) (Da rfl) rfl rfl (Da rfl) rfl (Da rfl) fun w0 S0 GL => ?_
 refine Ag (sm [] [(0, oD (.ptr 90000 0))] [(90000, .box (A2 p0))] rfl rfl) (wq rfl (qz Gd rfl (Ab (wp rfl (qm rfl (C9 rfl (qf Ct rfl (qf Dk rfl (ql Bs rfl (qm rfl (C9 rfl (qf Ct rfl (qf FK rfl (ql Kk rfl (AT BH rfl (EC rfl (AJ (by kernel_rfl) ?_)))))))))))))))))
 refine A0 h (fun h => ?_) fun h => ?_
 ·refine wq rfl (AG Gd Pw rfl (qs BG rfl (Ab ?_)))
  obtain rfl := sj h
  refine Ag (sm [] [(2, oD (.ptr 2 0))] [(2, .box [iC 0, iC 0, iC 0]), (90000, .box (A2 p0))] rfl rfl) (Ap ?_)
  exact ⟨⟨[_], ⟨.cellN _ _ _ _ _ _ _ rfl rfl E5 BG rfl rfl (EU rfl), tv⟩, rfl⟩, ⟨rfl, tv⟩, tv⟩
 ·refine An (wq rfl (qm rfl (C9 rfl (qf Ct rfl (qf FK rfl (ql Kk rfl (qm rfl (C9 rfl (qf Ct rfl (qf Dk rfl (ql Bs rfl ?_)))))))))))
  refine Cn h fun v2 a2 b2 h => qi BH BG a2 (Ao b2) rfl (qK E5 BG rfl (qs BG rfl (AJ (by kernel_rfl) ?_)))
  obtain rfl := sj h
  refine Ag (sm [] [(2, oD (.ptr 2 0))] [(2, .box (Bz v2)), (90000, .box (A2 p0))] rfl rfl) (Ap ?_)
  exact ⟨⟨[_], ⟨.cellN _ _ _ _ _ _ _ rfl rfl E5 BG rfl rfl (EU rfl), tv⟩, rfl⟩, ⟨rfl, tv⟩, tv⟩
theorem ID (N : Nat) (p0 : List Int) (p1 : Int) (r : Int) (h : Ej N p0 p1 = some r) : Ar zA 111 [pD (.sl (p0.map Aa)), iD p1] [] (iD r) := by
 unfold Ej at h
 refine cw (n := 21) (rs := [.tmp 4]) Tryz.func111 fun w0 S0 => ?_
 refine wq rfl (qa rfl (Ab (wq rfl (qa rfl (Ab (wp rfl (qw 2 rfl ?_)))))))
 refine Ge h fun c1 h => PQ (.p rfl) rfl AP Dz (KN (f := Aa) (n := 1) (fun _ => rfl) _) (.none _) (.some _ _ _ _ c1.1) tv ⟨rfl, tv⟩ (by have := c1.2.1; (try simp only [zJ]); omega) (by have := c1.2.2; (try simp only [zJ]); omega) (Oa Aa p0 _ _ ((p1).toNat - 0) rfl) ?_
 refine AT AP rfl (qm rfl (Ab ?_))
 refine AS (L := Cv N p0 p1) h (fun v2 => mk [(5, iD v2.1), (10, pD (.sl ((((p0.drop 0).take ((p1).toNat - 0))).map Aa))), (11, iD (((((p0.drop 0).take ((p1).toNat - 0))).length : Int))), (12, iD v2.2)] []) (fun v3 => mk [(5, iD v3)] []) (fun _ _ => rfl) (sm [] _ _ rfl rfl) (fun j2 n2 v2 h => ?_) (fun v3 s h hs => ?_)
 ·unfold Cv at h
  refine wq rfl (A8 rfl (Ab (AH ?_)))
  refine A0 h (fun h => ?_) fun h => ?_
  ·refine An (AH (AI (wq rfl ?_)))
   refine Cn h fun v5 a5 b5 h => qi AP Dz a5 (Ao b5) rfl (qk Bs rfl (qa rfl (Ab (Aj Az rfl (qw 2 rfl (A6 rfl (qa rfl (Ab (Aj Az rfl (A6 rfl (qm rfl (Ab ?_))))))))))))
   exact sn [] h
  ·refine Bg ?_
   exact sn [] h
 ·refine Ag hs (wq rfl (qm rfl (qe rfl ?_)))
  obtain rfl := sj h
  refine Ag (sm [] [(4, iD v3)] [] rfl rfl) (Ap ?_)
  exact ⟨⟨[_], tm, rfl⟩, tv⟩
theorem GU (N : Nat) (p0 : Ad) (p1 : Ai) (p2 : Al) (r : Ai) (h : D4 N p0 p1 p2 = some r) : Ar zA 86 [.e (.agg (Aw p0)), .e (.agg (AR p1)), .e (.agg (Bz p2))] [(1, r.ff.map Aa), (1, r.fd.map Aa), (1, r.fg.map Bd)] (.e (.agg [.own 0, .own 1, .own 2])) := by
 unfold D4 at h
 refine cw (n := 17) (rs := [.cell 6 52]) Tryz.func86 fun w0 S0 => ?_
 refine wq rfl (qb rfl (qb rfl (qb rfl (qz C4 rfl (Ab (wq rfl (qL Cp Cm rfl (qL Bq AO rfl (qL E5 BG rfl ?_)))))))))
 refine Be h fun v1 a1 h => Av [2001, 2002, 2003] (Gt N p0 p1 p2 v1 a1) QD rfl (qm rfl (qx rfl (qx rfl (qz C4 rfl (qs AO rfl (qa rfl (Ab (wq rfl (qL Bq AO rfl (qs AO rfl (Ab ?_)))))))))))
 obtain rfl := sj h
 refine Ag (sm [(1000, 2001), (1001, 2002), (1002, 2003)] [(6, oD (.ptr 6 0))] [(6, .box [.own 1000, .own 1001, .own 1002]), (1000, .vec 1 (v1.1.ff.map Aa)), (1001, .vec 1 (v1.1.fd.map Aa)), (1002, .vec 1 (v1.1.fg.map Bd))] rfl rfl) (Ap ?_)
 exact ⟨⟨[_], ⟨.cellN _ _ _ _ _ _ _ rfl rfl Bq AO rfl rfl (EU rfl), tv⟩, rfl⟩, ⟨rfl, rfl, rfl, tv⟩⟩
theorem H0 (N : Nat) (p0 : AA) (p1 : Al) (r : AA) (h : DF N p0 p1 = some r) : Cc zA 84 [oD (.ptr 90000 0), .e (.agg (Bz p1))] [(.box (A2 p0), .box (A2 r))] [] (.tup []) := by
 unfold DF at h
 refine BP (n := 44) (rs := []) Tryz.func84 rfl rfl rfl (Da rfl) (Da rfl) rfl rfl (Da rfl) rfl (Da rfl) fun w0 S0 GL => Ja ?_
 refine Ag (sm [] [(0, oD (.ptr 90000 0)), (1, .e (.agg (Bz p1)))] [(90000, .box (A2 p0))] rfl rfl) (wq rfl (qb rfl (Ab (wp rfl (qf DJ rfl (ql Bs rfl (AL rfl (Ab ?_))))))))
 refine A0 h (fun h => ?_) fun h => ?_
 ·refine wq rfl (qm rfl (C9 rfl (qf Ct rfl (qf Bv rfl (qs Dz rfl (Ab ?_))))))
  obtain rfl := sj h
  refine Ap ⟨_, (sm [] [] [(90000, .box [sC (p0.fb.fi.map Aa), sC (p0.fb.fm.map Aa), sC (p0.fb.fq.map Aa), sC (p0.fb.fh.map Am), sC (p0.fu.map Aa), sC (p0.fa.fo.map Ae), iC p0.fa.fk, iC 4, iC p0.fa.fr, iC p0.fa.fj, iC p0.fa.fe, sC (p0.fa.fc.ff.map Aa), sC (p0.fa.fc.fd.map Aa), sC (p0.fa.fc.fg.map Bd)])] rfl rfl), ?_⟩
  exact ⟨⟨[], tv, rfl⟩, ⟨rfl, tv⟩, tv⟩
 ·refine An (wq rfl (qw 3 rfl (C9 rfl (qf Q1 rfl (ql B6 rfl (qf CB rfl (ql Bs rfl ?_)))))))
  refine Be h fun v2 a2 h => Av [] (ID N p0.fu p1.fy v2 a2) Uq rfl (C9 rfl (qf Ct rfl (qf Bv rfl (qs Dz rfl (C9 rfl (qf Ct rfl (qf Ep rfl (qs Dz rfl (AJ (by kernel_rfl) (wq rfl (qf DJ rfl (ql Bs rfl (AL rfl (Ab ?_))))))))))))))
  refine A0 h (fun h => ?_) fun h => ?_
  ·refine Aj Az rfl (qw 2 rfl (C9 rfl (qf MC rfl (qL Cp Cm rfl (qm rfl (C9 rfl (qf Ct rfl (qf DH rfl (qL Bq AO rfl (qL E5 BG rfl ?_))))))))))
   refine Be h fun v4 a4 h => Av [2001, 2002, 2003] (GU N ((Ad.mk p0.fb.fi p0.fb.fm p0.fb.fq p0.fb.fh)) ((Ai.mk p0.fa.fc.ff p0.fa.fc.fd p0.fa.fc.fg)) p1 v4 a4) TQ rfl (C9 rfl (qf Ct rfl (qf DH rfl (qs AO rfl (AJ (by kernel_rfl) ?_)))))
   obtain rfl := sj h
   refine ⟨_, ((AM 2001 _ _ rfl rfl).trans ((AM 2002 _ _ rfl rfl).trans ((AM 2003 _ _ rfl rfl).trans (sm [] [] [(90000, .box [sC (p0.fb.fi.map Aa), sC (p0.fb.fm.map Aa), sC (p0.fb.fq.map Aa), sC (p0.fb.fh.map Am), sC (p0.fu.map Aa), sC (p0.fa.fo.map Ae), iC p0.fa.fk, iC 1, iC v2, iC p0.fa.fj, iC p0.fa.fe, sC (v4.ff.map Aa), sC (v4.fd.map Aa), sC (v4.fg.map Bd)])] rfl rfl)))), ?_⟩
   exact ⟨⟨[], tv, rfl⟩, ⟨rfl, tv⟩, tv⟩
  ·refine An ?_
   obtain rfl := sj h
   refine ⟨_, (sm [] [] [(90000, .box [sC (p0.fb.fi.map Aa), sC (p0.fb.fm.map Aa), sC (p0.fb.fq.map Aa), sC (p0.fb.fh.map Am), sC (p0.fu.map Aa), sC (p0.fa.fo.map Ae), iC p0.fa.fk, iC 1, iC v2, iC p0.fa.fj, iC p0.fa.fe, sC (p0.fa.fc.ff.map Aa), sC (p0.fa.fc.fd.map Aa), sC (p0.fa.fc.fg.map Bd)])] rfl rfl), ?_⟩
   exact ⟨⟨[], tv, rfl⟩, ⟨rfl, tv⟩, tv⟩
theorem Ih (N : Nat) (p0 : AA) (p1 : Al) (r : AA) (h : DU N p0 p1 = some r) : Cc zA 85 [oD (.ptr 90000 0), .e (.agg (Bz p1))] [(.box (A2 p0), .box (A2 r))] [] (.tup []) := by
 unfold DU at h
 refine BP (n := 55) (rs := []) Tryz.func85 rfl rfl rfl (Da rfl) (Da rfl) rfl rfl (Da rfl) rfl (Da rfl) fun w0 S0 GL => Ja ?_
 refine Ag (sm [] [(0, oD (.ptr 90000 0)), (1, .e (.agg (Bz p1)))] [(90000, .box (A2 p0))] rfl rfl) (wq rfl (qb rfl (Ab ?_)))
 refine AF h (fun v1 => mk [(0, oD (.ptr 90000 0))] [(90000, .box [sC (p0.fb.fi.map Aa), sC (p0.fb.fm.map Aa), sC (p0.fb.fq.map Aa), sC (p0.fb.fh.map Am), sC (p0.fu.map Aa), sC (p0.fa.fo.map Ae), iC p0.fa.fk, iC p0.fa.fp, iC p0.fa.fr, iC p0.fa.fj, iC p0.fa.fe, sC (v1.1.map Aa), sC (v1.2.1.map Aa), sC (v1.2.2.map Bd)])]) (fun j1 h => ?_) (fun v1 h => ?_)
 ·refine wq rfl (qf DJ rfl (ql Bs rfl (Ba rfl (Ab ?_))))
  refine A0 h (fun h => ?_) fun h => ?_
  ·refine Aj Az rfl (qw 2 rfl (C9 rfl (qf MC rfl (qL Cp Cm rfl (qm rfl (C9 rfl (qf Ct rfl (qf DH rfl (qL Bq AO rfl (qL E5 BG rfl ?_))))))))))
   refine Be h fun v3 a3 h => Av [2001, 2002, 2003] (GU N ((Ad.mk p0.fb.fi p0.fb.fm p0.fb.fq p0.fb.fh)) ((Ai.mk p0.fa.fc.ff p0.fa.fc.fd p0.fa.fc.fg)) p1 v3 a3) TQ rfl (C9 rfl (qf Ct rfl (qf DH rfl (qs AO rfl (AJ (by kernel_rfl) ?_)))))
   exact Rs _ h ((AM 2001 _ _ rfl rfl).trans ((AM 2002 _ _ rfl rfl).trans ((AM 2003 _ _ rfl rfl).trans (sm [] _ _ rfl rfl))))
  ·refine An ?_
   exact sn [] h
 ·refine wq rfl (qm rfl (C9 rfl (qf Ct rfl (qf Dk rfl (ql Bs rfl (A6 rfl (C9 rfl (qf Ct rfl (qf Dk rfl (qs Dz rfl (Ab (wq rfl (qw 2 rfl (C9 rfl (qf Ct rfl (qf Bv rfl (qs Dz rfl (C9 rfl (qf Ct rfl (qf Ep rfl (qs Dz rfl (Ab (wq rfl (qm rfl (C9 rfl (qf Ct rfl (qf Dk rfl (ql Bs rfl (qm rfl (C9 rfl (qf Ct rfl (qf FK rfl (ql Kk rfl (AT BH rfl (AL rfl ?_)))))))))))))))))))))))))))))))))))
  refine AJ (by kernel_rfl) ?_
  refine A0 h (fun h => ?_) fun h => ?_
  ·refine Aj Az rfl (qm rfl (C9 rfl (qf Ct rfl (qf Bv rfl (qs Dz rfl (Ab ?_))))))
   obtain rfl := sj h
   refine ⟨_, (sm [] [] [(90000, .box [sC (p0.fb.fi.map Aa), sC (p0.fb.fm.map Aa), sC (p0.fb.fq.map Aa), sC (p0.fb.fh.map Am), sC (p0.fu.map Aa), sC (p0.fa.fo.map Ae), iC ((wI .i64 (p0.fa.fk + 1))), iC 6, iC 0, iC p0.fa.fj, iC p0.fa.fe, sC (v1.1.map Aa), sC (v1.2.1.map Aa), sC (v1.2.2.map Bd)])] rfl rfl), ?_⟩
   exact ⟨⟨[], tv, rfl⟩, ⟨rfl, tv⟩, tv⟩
  ·refine An ?_
   obtain rfl := sj h
   refine ⟨_, (sm [] [] [(90000, .box [sC (p0.fb.fi.map Aa), sC (p0.fb.fm.map Aa), sC (p0.fb.fq.map Aa), sC (p0.fb.fh.map Am), sC (p0.fu.map Aa), sC (p0.fa.fo.map Ae), iC ((wI .i64 (p0.fa.fk + 1))), iC 0, iC 0, iC p0.fa.fj, iC p0.fa.fe, sC (v1.1.map Aa), sC (v1.2.1.map Aa), sC (v1.2.2.map Bd)])] rfl rfl), ?_⟩
   exact ⟨⟨[], tv, rfl⟩, ⟨rfl, tv⟩, tv⟩
theorem IC (N : Nat) (p0 : AA) (p1 : AC) (r : Bool × AA) (h : Eg N p0 p1 = some r) : Cc zA 56 [oD (.ptr 90000 0), .e (.agg (GP p1))] [(.box (A2 p0), .box (A2 r.2))] [] (bD r.1) := by
 unfold Eg at h
 refine BP (n := 101) (rs := [.tmp 4]) Tryz.func56 rfl rfl rfl (Da rfl) (Da rfl) rfl rfl (Da rfl) rfl (Da rfl) fun w0 S0 GL => ?_
 refine Ag (sm [] [(0, oD (.ptr 90000 0)), (1, .e (.agg (GP p1)))] [(90000, .box (A2 p0))] rfl rfl) (wq rfl (qb rfl (qa rfl (Ab (wp rfl (qf LY rfl (ql Bs rfl (AL rfl (Ab ?_)))))))))
 refine A0 h (fun h => ?_) fun h => ?_
 ·refine wq rfl (qe rfl ?_)
  obtain rfl := sj h
  refine Ag (sm [] [(4, bD true)] [(90000, .box (A2 p0))] rfl rfl) (Ap ?_)
  exact ⟨⟨[_], tm, rfl⟩, ⟨rfl, tv⟩, tv⟩
 ·refine An (wq rfl (qm rfl (C9 rfl (qf Ct rfl (qm rfl ?_)))))
  refine Be h fun v2 a2 h => CQ (ds0 := [_]) [90000] [] [false] (Ir N ((AA.mk ((Ad.mk p0.fb.fi p0.fb.fm p0.fb.fq p0.fb.fh)) p0.fu ((Af.mk p0.fa.fo p0.fa.fk p0.fa.fp p0.fa.fr p0.fa.fj p0.fa.fe ((Ai.mk p0.fa.fc.ff p0.fa.fc.fd p0.fa.fc.fg)))))) v2 a2) (.p rfl) Wy rfl ⟨rfl, tv⟩ rfl rfl (by decide) ⟨rfl, tv⟩ rfl (Bm rfl) tv ⟨(fun _ => rfl), tv⟩ rfl rfl rfl ?_
  refine qz Gd rfl (qa rfl (qs BG rfl (AJ (by kernel_rfl) (wp rfl (qf Nz rfl (ql Bs rfl (qm rfl (C9 rfl (qf Dk rfl (ql Bs rfl (Ba rfl (AJ (by kernel_rfl) ?_))))))))))))
  refine A0 h (fun h => ?_) fun h => ?_
  ·refine wq rfl (qe rfl ?_)
   obtain rfl := sj h
   refine Ag (sm [] [(4, bD false)] [(90000, .box (A2 p0))] rfl rfl) (Ap ?_)
   exact ⟨⟨[_], tm, rfl⟩, ⟨rfl, tv⟩, tv⟩
  ·refine An (wq rfl (qm rfl (C9 rfl (qf FQ rfl (ql Bs rfl (A6 rfl (C9 rfl (qf FQ rfl (qs Dz rfl (Ab ?_))))))))))
   refine AF h (fun v4 => mk [] [(90000, .box [sC (v4.1.map Aa), sC (v4.2.1.map Aa), sC (v4.2.2.1.map Aa), sC (v4.2.2.2.1.map Am), sC (v4.2.2.2.2.1.map Aa), sC (v4.2.2.2.2.2.1.map Ae), iC v4.2.2.2.2.2.2.1, iC v4.2.2.2.2.2.2.2.1, iC v4.2.2.2.2.2.2.2.2.1, iC v4.2.2.2.2.2.2.2.2.2.1, iC v4.2.2.2.2.2.2.2.2.2.2.1, sC (v4.2.2.2.2.2.2.2.2.2.2.2.1.map Aa), sC (v4.2.2.2.2.2.2.2.2.2.2.2.2.1.map Aa), sC (v4.2.2.2.2.2.2.2.2.2.2.2.2.2.map Bd)])]) (fun j4 h => ?_) (fun v4 h => ?_)
   ·refine wq rfl (qf LY rfl (ql Bs rfl (Ab (AI (wq rfl (AL rfl (qe rfl ?_)))))))
    refine A0 h (fun h => ?_) fun h => ?_
    ·refine wp rfl (qm rfl (C9 rfl (qf Bv rfl (ql Bs rfl (Ba rfl (Ab ?_))))))
     refine A0 h (fun h => ?_) fun h => ?_
     ·refine wq rfl (qe rfl ?_)
      obtain rfl := sj h
      refine Ag (sm [] [(4, bD false)] [(90000, .box [sC (p0.fb.fi.map Aa), sC (p0.fb.fm.map Aa), sC (p0.fb.fq.map Aa), sC (p0.fb.fh.map Am), sC (p0.fu.map Aa), sC (p0.fa.fo.map Ae), iC p0.fa.fk, iC p0.fa.fp, iC p0.fa.fr, iC ((wI .i64 (p0.fa.fj + 1))), iC p0.fa.fe, sC (p0.fa.fc.ff.map Aa), sC (p0.fa.fc.fd.map Aa), sC (p0.fa.fc.fg.map Bd)])] rfl rfl) (Ap ?_)
      exact ⟨⟨[_], tm, rfl⟩, ⟨rfl, tv⟩, tv⟩
     ·refine An (Aj Az rfl (qm rfl (qL E5 BG rfl ?_)))
      refine Be h fun v7 a7 h => CQ (ds0 := [_, _]) [90000] [] [true] (H0 N ((AA.mk ((Ad.mk p0.fb.fi p0.fb.fm p0.fb.fq p0.fb.fh)) p0.fu ((Af.mk p0.fa.fo p0.fa.fk p0.fa.fp p0.fa.fr ((wI .i64 (p0.fa.fj + 1))) p0.fa.fe ((Ai.mk p0.fa.fc.ff p0.fa.fc.fd p0.fa.fc.fg)))))) v2 v7 a7) (.p rfl) WD rfl ⟨rfl, rfl, tv⟩ rfl rfl (by decide) ⟨rfl, tv⟩ rfl (Bm rfl) tv ⟨(fun h => by cases h), tv⟩ rfl rfl rfl ?_
      refine Ab ?_
      exact sn [] h
    ·refine wq rfl (AL rfl (qe rfl ?_))
     refine A0 h (fun h => ?_) fun h => ?_
     ·refine AH ?_
      refine AF h (fun v9 => mk [(0, oD (.ptr 90000 0)), (6, oD (.ptr 6 0)), (54, bD v9)] [(6, .box (Bz v2)), (90000, .box [sC (p0.fb.fi.map Aa), sC (p0.fb.fm.map Aa), sC (p0.fb.fq.map Aa), sC (p0.fb.fh.map Am), sC (p0.fu.map Aa), sC (p0.fa.fo.map Ae), iC p0.fa.fk, iC p0.fa.fp, iC p0.fa.fr, iC ((wI .i64 (p0.fa.fj + 1))), iC p0.fa.fe, sC (p0.fa.fc.ff.map Aa), sC (p0.fa.fc.fd.map Aa), sC (p0.fa.fc.fg.map Bd)])]) (fun j9 h => ?_) (fun v9 h => ?_)
      ·refine Aj Az rfl (qm rfl (C9 rfl (qf Bv rfl (ql Bs rfl (Ba rfl (qm rfl ?_))))))
       refine Dv 48 h rfl (fun h => ?_) fun h => ?_
       ·refine qm rfl (C9 rfl (qf Bv rfl (ql Bs rfl (Ba rfl (qp rfl (Ab ?_))))))
        exact sn [] h
       ·refine qw 5 rfl (qp rfl (Ab ?_))
        exact sn [] h
      ·refine A0 h (fun h => ?_) fun h => ?_
       ·refine wq rfl (qe rfl ?_)
        obtain rfl := sj h
        refine Ag (sm [] [(4, bD false)] [(90000, .box [sC (p0.fb.fi.map Aa), sC (p0.fb.fm.map Aa), sC (p0.fb.fq.map Aa), sC (p0.fb.fh.map Am), sC (p0.fu.map Aa), sC (p0.fa.fo.map Ae), iC p0.fa.fk, iC p0.fa.fp, iC p0.fa.fr, iC ((wI .i64 (p0.fa.fj + 1))), iC p0.fa.fe, sC (p0.fa.fc.ff.map Aa), sC (p0.fa.fc.fd.map Aa), sC (p0.fa.fc.fg.map Bd)])] rfl rfl) (Ap ?_)
        exact ⟨⟨[_], tm, rfl⟩, ⟨rfl, tv⟩, tv⟩
       ·refine An (Aj Az rfl (qm rfl (qL E5 BG rfl ?_)))
        refine Be h fun v12 a12 h => CQ (ds0 := [_, _]) [90000] [] [true] (Ih N ((AA.mk ((Ad.mk p0.fb.fi p0.fb.fm p0.fb.fq p0.fb.fh)) p0.fu ((Af.mk p0.fa.fo p0.fa.fk p0.fa.fp p0.fa.fr ((wI .i64 (p0.fa.fj + 1))) p0.fa.fe ((Ai.mk p0.fa.fc.ff p0.fa.fc.fd p0.fa.fc.fg)))))) v2 v12 a12) (.p rfl) VW rfl ⟨rfl, rfl, tv⟩ rfl rfl (by decide) ⟨rfl, tv⟩ rfl (Bm rfl) tv ⟨(fun h => by cases h), tv⟩ rfl rfl rfl ?_
        refine Ab ?_
        exact sn [] h
     ·refine wq rfl (AL rfl (qe rfl ?_))
      refine A0 h (fun h => ?_) fun h => ?_
      ·refine AH ?_
       refine AF h (fun v14 => mk [(5, oD (.ptr 90000 5)), (69, bD v14)] [(90000, .box [sC (p0.fb.fi.map Aa), sC (p0.fb.fm.map Aa), sC (p0.fb.fq.map Aa), sC (p0.fb.fh.map Am), sC (p0.fu.map Aa), sC (p0.fa.fo.map Ae), iC p0.fa.fk, iC p0.fa.fp, iC p0.fa.fr, iC ((wI .i64 (p0.fa.fj + 1))), iC p0.fa.fe, sC (p0.fa.fc.ff.map Aa), sC (p0.fa.fc.fd.map Aa), sC (p0.fa.fc.fg.map Bd)])]) (fun j14 h => ?_) (fun v14 h => ?_)
       ·refine Aj Az rfl (qm rfl (C9 rfl (qf Bv rfl (ql Bs rfl (Ba rfl (qm rfl ?_))))))
        refine Dv 65 h rfl (fun h => ?_) fun h => ?_
        ·refine qw 3 rfl (qp rfl (Ab ?_))
         exact sn [] h
        ·refine qf DJ rfl (ql Bs rfl (Ba rfl (qp rfl (Ab ?_))))
         exact sn [] h
       ·refine A0 h (fun h => ?_) fun h => ?_
        ·refine wq rfl (qe rfl ?_)
         obtain rfl := sj h
         refine Ag (sm [] [(4, bD false)] [(90000, .box [sC (p0.fb.fi.map Aa), sC (p0.fb.fm.map Aa), sC (p0.fb.fq.map Aa), sC (p0.fb.fh.map Am), sC (p0.fu.map Aa), sC (p0.fa.fo.map Ae), iC p0.fa.fk, iC p0.fa.fp, iC p0.fa.fr, iC ((wI .i64 (p0.fa.fj + 1))), iC p0.fa.fe, sC (p0.fa.fc.ff.map Aa), sC (p0.fa.fc.fd.map Aa), sC (p0.fa.fc.fg.map Bd)])] rfl rfl) (Ap ?_)
         exact ⟨⟨[_], tm, rfl⟩, ⟨rfl, tv⟩, tv⟩
        ·refine An (Aj Az rfl (qm rfl (C9 rfl (qf Bv rfl (qs Dz rfl (Ab ?_))))))
         exact sn [] h
      ·refine wq rfl (AL rfl (qe rfl ?_))
       refine A0 h (fun h => ?_) fun h => ?_
       ·refine wp rfl (qm rfl (C9 rfl (qf Bv rfl (ql Bs rfl (Ba rfl (Ab ?_))))))
        refine A0 h (fun h => ?_) fun h => ?_
        ·refine wq rfl (qe rfl ?_)
         obtain rfl := sj h
         refine Ag (sm [] [(4, bD false)] [(90000, .box [sC (p0.fb.fi.map Aa), sC (p0.fb.fm.map Aa), sC (p0.fb.fq.map Aa), sC (p0.fb.fh.map Am), sC (p0.fu.map Aa), sC (p0.fa.fo.map Ae), iC p0.fa.fk, iC p0.fa.fp, iC p0.fa.fr, iC ((wI .i64 (p0.fa.fj + 1))), iC p0.fa.fe, sC (p0.fa.fc.ff.map Aa), sC (p0.fa.fc.fd.map Aa), sC (p0.fa.fc.fg.map Bd)])] rfl rfl) (Ap ?_)
         exact ⟨⟨[_], tm, rfl⟩, ⟨rfl, tv⟩, tv⟩
        ·refine An (wq rfl (qw 2 rfl (C9 rfl (qf Bv rfl (qs Dz rfl (C9 rfl (qf Ep rfl (qs Dz rfl (Ab (Aj Az rfl (qw 2 rfl (C9 rfl (qf MC rfl (qL Cp Cm rfl (qm rfl (C9 rfl (qf DH rfl (qL Bq AO rfl (qf CB rfl (ql Bs rfl (AG Gd Pw rfl ?_)))))))))))))))))))))
         refine Be h fun v19 a19 h => Av [2001, 2002, 2003] (GU N ((Ad.mk p0.fb.fi p0.fb.fm p0.fb.fq p0.fb.fh)) ((Ai.mk p0.fa.fc.ff p0.fa.fc.fd p0.fa.fc.fg)) ((Al.mk 4 v2.fy 0)) v19 a19) TQ rfl (C9 rfl (qf DH rfl (qs AO rfl (AJ (by kernel_rfl) ?_))))
         exact Rs _ h ((AM 2001 _ _ rfl rfl).trans ((AM 2002 _ _ rfl rfl).trans ((AM 2003 _ _ rfl rfl).trans (sm [] _ _ rfl rfl))))
       ·refine wq rfl (qe rfl ?_)
        obtain rfl := sj h
        refine Ag (sm [] [(4, bD false)] [(90000, .box [sC (p0.fb.fi.map Aa), sC (p0.fb.fm.map Aa), sC (p0.fb.fq.map Aa), sC (p0.fb.fh.map Am), sC (p0.fu.map Aa), sC (p0.fa.fo.map Ae), iC p0.fa.fk, iC p0.fa.fp, iC p0.fa.fr, iC ((wI .i64 (p0.fa.fj + 1))), iC p0.fa.fe, sC (p0.fa.fc.ff.map Aa), sC (p0.fa.fc.fd.map Aa), sC (p0.fa.fc.fg.map Bd)])] rfl rfl) (Ap ?_)
        exact ⟨⟨[_], tm, rfl⟩, ⟨rfl, tv⟩, tv⟩
   ·refine wq rfl (qe rfl ?_)
    obtain rfl := sj h
    refine Ag (sm [] [(4, bD true)] [(90000, .box [sC (v4.1.map Aa), sC (v4.2.1.map Aa), sC (v4.2.2.1.map Aa), sC (v4.2.2.2.1.map Am), sC (v4.2.2.2.2.1.map Aa), sC (v4.2.2.2.2.2.1.map Ae), iC v4.2.2.2.2.2.2.1, iC v4.2.2.2.2.2.2.2.1, iC v4.2.2.2.2.2.2.2.2.1, iC v4.2.2.2.2.2.2.2.2.2.1, iC v4.2.2.2.2.2.2.2.2.2.2.1, sC (v4.2.2.2.2.2.2.2.2.2.2.2.1.map Aa), sC (v4.2.2.2.2.2.2.2.2.2.2.2.2.1.map Aa), sC (v4.2.2.2.2.2.2.2.2.2.2.2.2.2.map Bd)])] rfl rfl) (Ap ?_)
    exact ⟨⟨[_], tm, rfl⟩, ⟨rfl, tv⟩, tv⟩
set_option maxHeartbeats 2000000 in
theorem KG (N : Nat) (p0 : Ad) (p1 : List Int) (p2 : List Al) (p3 : List AC) (r : Af × Int) (h : zFS N p0 p1 p2 p3 = some r) : Ar zA 33 [.e (.agg (Aw p0)), pD (.sl (p1.map Aa)), pD (.sl (p2.map Ae)), pD (.sl (p3.map Cb))] [] (.tup [.agg (Bb r.1), .one (iC r.2)]) := by
 unfold zFS at h
 refine cw (n := 47) (rs := [.cell 8 54, .tmp 9]) Tryz.func33 fun w0 S0 => ?_
 refine wq rfl (qb rfl (qz IV rfl (qa rfl (Ab (wq rfl (qL Cp Cm rfl (qw 2 rfl ?_)))))))
 refine Be h fun v1 a1 h => Av [2001, 2002, 2003, 2004] (IB N p0 p1 p2 v1 a1) Ve rfl (qm rfl (qx rfl (qx rfl (qz IV rfl (qs DN rfl (qa rfl (Ab (wp rfl (qm rfl (Ba rfl (Ab ?_)))))))))))
 refine A0 h (fun h => ?_) fun h => ?_
 ·refine wq rfl (AG IV Om rfl (qm rfl (qs DN rfl (qe rfl ?_))))
  obtain rfl := sj h
  refine Ag ((Db 8 _ rfl).trans (sm [] [(8, oD (.ptr 8 0)), (9, iD v1.2)] [(8, .box [sC ((([] : List Al)).map Ae), iC 0, iC 0, iC 0, iC 0, iC 0, sC ((([] : List Int)).map Aa), sC ((([] : List Int)).map Aa), sC ((([] : List Int)).map Bd)])] rfl rfl)) (Ap ?_)
  exact ⟨⟨[_, _], ⟨.cellN _ _ _ _ _ _ _ rfl rfl GR DN rfl rfl (EU rfl), tm⟩, rfl⟩, tv⟩
 ·refine An (wq rfl (qL Cp Cm rfl (qm rfl (qL GR DN rfl (AG Us Vg rfl (qb rfl (qa rfl (Ab (wp rfl (qm rfl (AT JY rfl (qm rfl (Ab ?_)))))))))))))
  refine AS (L := DK N p3) h (fun v3 => mk [(8, oD (.ptr 8 0)), (12, oD (.ptr 30 0)), (31, pD (.sl (p3.map Cb))), (32, iD ((p3.length : Int))), (33, iD v3.2.2.2.2.2.2.2.2.2.2.2.2.2.2)] [(8, .box [.pure (.nil0), iC 0, iC 0, iC 0, iC 0, iC 0, .pure (.nil0), .pure (.nil0), .pure (.nil0)]), (30, .box [sC (v3.1.map Aa), sC (v3.2.1.map Aa), sC (v3.2.2.1.map Aa), sC (v3.2.2.2.1.map Am), sC (v3.2.2.2.2.1.map Aa), sC (v3.2.2.2.2.2.1.map Ae), iC v3.2.2.2.2.2.2.1, iC v3.2.2.2.2.2.2.2.1, iC v3.2.2.2.2.2.2.2.2.1, iC v3.2.2.2.2.2.2.2.2.2.1, iC v3.2.2.2.2.2.2.2.2.2.2.1, sC (v3.2.2.2.2.2.2.2.2.2.2.2.1.map Aa), sC (v3.2.2.2.2.2.2.2.2.2.2.2.2.1.map Aa), sC (v3.2.2.2.2.2.2.2.2.2.2.2.2.2.1.map Bd)])]) (fun v4 => mk [(8, oD (.ptr 8 0)), (12, oD (.ptr 30 0))] [(8, .box [.pure (.nil0), iC 0, iC 0, iC 0, iC 0, iC 0, .pure (.nil0), .pure (.nil0), .pure (.nil0)]), (30, .box (A2 v4))]) (fun _ _ => rfl) ((AM 2001 _ _ rfl rfl).trans ((AM 2002 _ _ rfl rfl).trans ((AM 2003 _ _ rfl rfl).trans ((AM 2004 _ _ rfl rfl).trans (sm [] _ _ rfl rfl))))) (fun j3 n3 v3 h => ?_) (fun v4 s h hs => ?_)
  ·unfold DK at h
   refine wq rfl (A8 rfl (Ab (AH ?_)))
   refine A0 h (fun h => ?_) fun h => ?_
   ·refine An (AH (AI (wq rfl ?_)))
    refine Cn h fun v6 a6 b6 h => qi JY HU a6 (Ao b6) rfl (qK LV HU rfl (qz LO rfl (qs HU rfl (Ab (wq rfl (qm rfl (qL LV HU rfl ?_)))))))
    refine Be h fun v7 a7 h => CQ (ds0 := [_, _]) [30] [] [true] (IC N ((AA.mk ((Ad.mk v3.1 v3.2.1 v3.2.2.1 v3.2.2.2.1)) v3.2.2.2.2.1 ((Af.mk v3.2.2.2.2.2.1 v3.2.2.2.2.2.2.1 v3.2.2.2.2.2.2.2.1 v3.2.2.2.2.2.2.2.2.1 v3.2.2.2.2.2.2.2.2.2.1 v3.2.2.2.2.2.2.2.2.2.2.1 ((Ai.mk v3.2.2.2.2.2.2.2.2.2.2.2.1 v3.2.2.2.2.2.2.2.2.2.2.2.2.1 v3.2.2.2.2.2.2.2.2.2.2.2.2.2.1)))))) v6 v7 a7) (.p rfl) Wi rfl ⟨rfl, rfl, tv⟩ rfl rfl (by decide) ⟨rfl, tv⟩ rfl (Bm rfl) tv ⟨(fun h => by cases h), tv⟩ rfl rfl rfl ?_
    refine B2 rfl (Ab ?_)
    refine A0 h (fun h => ?_) fun h => ?_
    ·refine wq rfl (AG IV Om rfl (qs DN rfl (qe rfl ?_)))
     obtain rfl := sj h
     refine Ag ((Db 8 _ rfl).trans (sm [] [(8, oD (.ptr 8 0)), (9, iD 1)] [(8, .box [sC ((([] : List Al)).map Ae), iC 0, iC 0, iC 0, iC 0, iC 0, sC ((([] : List Int)).map Aa), sC ((([] : List Int)).map Aa), sC ((([] : List Int)).map Bd)])] rfl rfl)) (Ap ?_)
     exact ⟨⟨[_, _], ⟨.cellN _ _ _ _ _ _ _ rfl rfl GR DN rfl rfl (EU rfl), tm⟩, rfl⟩, tv⟩
    ·refine An (Aj Az rfl (A6 rfl (qm rfl (Ab ?_))))
     exact sn [] h
   ·refine Bg ?_
    exact sn [] h
  ·refine Ag hs (wq rfl (qm rfl (C9 rfl (qf Ct rfl (qL GR DN rfl (qs DN rfl (qe rfl ?_)))))))
   obtain rfl := sj h
   refine Ag (sm [] [(8, oD (.ptr 8 0)), (9, iD 0)] [(8, .box (Bb v4.fa))] rfl rfl) (Ap ?_)
   exact ⟨⟨[_, _], ⟨.cellN _ _ _ _ _ _ _ rfl rfl GR DN rfl rfl (EU rfl), tm⟩, rfl⟩, tv⟩
theorem LE (N : Nat) (p0 : Ad) (p1 : List Int) (p2 : List Al) (p3 : ByteArray) (r : Af × Int × Int) (h : GY N p0 p1 p2 p3 = some r) : Ar zA 15 [.e (.agg (Aw p0)), pD (.sl (p1.map Aa)), pD (.sl (p2.map Ae)), pD (.val (.string p3))] [] (.tup [.agg (Bb r.1), .one (iC r.2.1), .one (iC r.2.2)]) := by
 unfold GY at h
 refine cw (n := 36) (rs := [.cell 8 54, .tmp 9, .tmp 10]) Tryz.func15 fun w0 S0 => ?_
 refine wq rfl (qb rfl (qz IV rfl (qa rfl (qa rfl (Ab (wq rfl (qm rfl ?_)))))))
 refine Be h fun v1 a1 h => Av [2001] (HV N p3 v1 a1) Ts rfl (qm rfl (qx rfl (qx rfl (qx rfl (qa rfl (qa rfl (qa rfl (Ab (wq rfl (qL Cp Cm rfl (qw 3 rfl (Cs (AM 2001 _ _ rfl rfl) ?_))))))))))))
 refine Be h fun v2 a2 h => Av [] (KG N p0 p1 p2 v1.1 v2 a2) V1 rfl (qm rfl (qx rfl (qx rfl (qz IV rfl (qs DN rfl (qa rfl (Ab (wp rfl (qm rfl (Ba rfl (Ab ?_)))))))))))
 refine A0 h (fun h => ?_) fun h => ?_
 ·refine wq rfl (AG IV Om rfl (qm rfl (qs DN rfl (qa rfl (qe rfl ?_)))))
  obtain rfl := sj h
  refine Ag ((Db 8 _ rfl).trans (sm [] [(8, oD (.ptr 8 0)), (9, iD 0), (10, iD v2.2)] [(8, .box [sC ((([] : List Al)).map Ae), iC 0, iC 0, iC 0, iC 0, iC 0, sC ((([] : List Int)).map Aa), sC ((([] : List Int)).map Aa), sC ((([] : List Int)).map Bd)])] rfl rfl)) (Ap ?_)
  exact ⟨⟨[_, _, _], ⟨.cellN _ _ _ _ _ _ _ rfl rfl GR DN rfl rfl (EU rfl), ⟨.tmp _ _ rfl, tm⟩⟩, rfl⟩, tv⟩
 ·refine An (wq rfl (qL GR DN rfl (qm rfl (qs DN rfl (qa rfl (qe rfl ?_))))))
  obtain rfl := sj h
  refine Ag (sm [] [(8, oD (.ptr 8 0)), (9, iD v1.2.1), (10, iD 0)] [(8, .box (Bb v2.1))] rfl rfl) (Ap ?_)
  exact ⟨⟨[_, _, _], ⟨.cellN _ _ _ _ _ _ _ rfl rfl GR DN rfl rfl (EU rfl), ⟨.tmp _ _ rfl, tm⟩⟩, rfl⟩, tv⟩
theorem Gg (N : Nat) (p0 : List Al) (p1 : List Al) (r : Bool) (h : Cy N p0 p1 = some r) : Ar zA 34 [pD (.sl (p0.map Ae)), pD (.sl (p1.map Ae))] [] (bD r) := by
 unfold Cy at h
 refine cw (n := 26) (rs := [.tmp 4]) Tryz.func34 fun w0 S0 => ?_
 refine wq rfl (qa rfl (Ab (wp rfl (qm rfl (AT BH rfl (qm rfl (AT BH rfl (Ba rfl (Ab ?_)))))))))
 refine A0 h (fun h => ?_) fun h => ?_
 ·refine wq rfl (qe rfl ?_)
  obtain rfl := sj h
  refine Ag (sm [] [(4, bD false)] [] rfl rfl) (Ap ?_)
  exact ⟨⟨[_], tm, rfl⟩, tv⟩
 ·refine An (wp rfl (qm rfl (AT BH rfl (qm rfl (Ab ?_)))))
  refine AS (L := BD N p0 p1) h (fun v2 => mk [(0, pD (.sl (p0.map Ae))), (1, pD (.sl (p1.map Ae))), (12, iD ((p0.length : Int))), (13, iD v2)] []) (fun v3 => mk [] []) (fun _ _ => rfl) (sm [] _ _ rfl rfl) (fun j2 n2 v2 h => ?_) (fun v3 s h hs => ?_)
  ·unfold BD at h
   refine wq rfl (A8 rfl (Ab (AH ?_)))
   refine A0 h (fun h => ?_) fun h => ?_
   ·refine An (AH (AI (wq rfl (qm rfl (qa rfl (Ab (wq rfl (qw 2 rfl ?_))))))))
    refine Cn h fun v5 a5 b5 h => qi BH BG a5 (Ao b5) rfl (qK E5 BG rfl (qw 2 rfl ?_))
    refine Cn h fun v6 a6 b6 h => qi BH BG a6 (Ao b6) rfl (qK E5 BG rfl ?_)
    refine To [.int .i64 v5.fw, .int .i64 v5.fy, .int .i64 v5.fA] [.int .i64 v6.fw, .int .i64 v6.fy, .int .i64 v6.fA] (.p rfl) rfl rfl Uw rfl ?_
    refine AJ (by kernel_rfl) ?_
    refine A0 h (fun h => ?_) fun h => ?_
    ·refine wq rfl (qe rfl ?_)
     obtain rfl := sj h
     refine Ag (sm [] [(4, bD false)] [] rfl rfl) (Ap ?_)
     exact ⟨⟨[_], tm, rfl⟩, tv⟩
    ·refine An (Aj Az rfl (A6 rfl (qm rfl (Ab ?_))))
     exact sn [] h
   ·refine Bg ?_
    exact sn [] h
  ·refine Ag hs (wq rfl (qe rfl ?_))
   obtain rfl := sj h
   refine Ag (sm [] [(4, bD true)] [] rfl rfl) (Ap ?_)
   exact ⟨⟨[_], tm, rfl⟩, tv⟩
theorem LF (N : Nat) (p0 : Af) (p1 : Af) (r : Bool) (h : GS N p0 p1 = some r) : Ar zA 16 [.e (.agg (Bb p0)), .e (.agg (Bb p1))] [] (bD r) := by
 unfold GS at h
 refine cw (n := 46) (rs := [.tmp 4]) Tryz.func16 fun w0 S0 => ?_
 refine wq rfl (qb rfl (qb rfl (qe rfl ?_)))
 refine AF h (fun v1 => mk [(4, bD v1)] []) (fun j1 h => ?_) (fun v1 h => ?_)
 ·refine Aj Az rfl (qf FK rfl (ql Kk rfl (qf FK rfl (ql Kk rfl ?_))))
  refine Be h fun v2 a2 h => Av [] (Gg N p0.fo p1.fo v2 a2) VH rfl (qm rfl ?_)
  refine Dv 10 h rfl (fun h => ?_) fun h => ?_
  ·refine qf Dk rfl (ql Bs rfl (qf Dk rfl (ql Bs rfl (AL rfl (qp rfl (qm rfl ?_))))))
   refine Dv 17 h rfl (fun h => ?_) fun h => ?_
   ·refine qf Bv rfl (ql Bs rfl (qf Bv rfl (ql Bs rfl (AL rfl (qp rfl (qm rfl ?_))))))
    refine Dv 24 h rfl (fun h => ?_) fun h => ?_
    ·refine qf Ep rfl (ql Bs rfl (qf Ep rfl (ql Bs rfl (AL rfl (qp rfl (qm rfl ?_))))))
     refine Dv 31 h rfl (fun h => ?_) fun h => ?_
     ·refine qf FQ rfl (ql Bs rfl (qf FQ rfl (ql Bs rfl (AL rfl (qp rfl (qm rfl ?_))))))
      refine Dv 38 h rfl (fun h => ?_) fun h => ?_
      ·refine qf DH rfl (qL Bq AO rfl (qf DH rfl (qL Bq AO rfl ?_)))
       refine Be h fun v8 a8 h => Av [] (Ip N ((Ai.mk p0.fc.ff p0.fc.fd p0.fc.fg)) ((Ai.mk p1.fc.ff p1.fc.fd p1.fc.fg)) v8 a8) TA rfl (AL rfl (qp rfl (qe rfl ?_)))
       exact sn [] h
      ·refine qw 6 rfl (qp rfl (qe rfl ?_))
       exact sn [] h
     ·refine qw 5 rfl (qp rfl (qw 7 rfl (qp rfl (qe rfl ?_))))
      exact sn [] h
    ·refine qw 5 rfl (qp rfl (qw 6 rfl (qp rfl (qw 7 rfl (qp rfl (qe rfl ?_))))))
     exact sn [] h
   ·refine qw 5 rfl (qp rfl (qw 6 rfl (qp rfl (qw 6 rfl (qp rfl (qw 7 rfl (qp rfl (qe rfl ?_))))))))
    exact sn [] h
  ·refine qw 5 rfl (qp rfl (qw 6 rfl (qp rfl (qw 6 rfl (qp rfl (qw 6 rfl (qp rfl (qw 7 rfl (qp rfl (qe rfl ?_))))))))))
   exact sn [] h
 ·obtain rfl := sj h
  refine Ag (sm [] [(4, bD v1)] [] rfl rfl) (Ap ?_)
  exact ⟨⟨[_], tm, rfl⟩, tv⟩
set_option maxHeartbeats 2000000 in
theorem Hu (N : Nat) (r : Bool) (h : C7 N = some r) : Ar zA 4 [] [] (bD r) := by
 unfold C7 at h
 refine cw (n := 94) (rs := [.tmp 0]) Tryz.func4 fun w0 S0 => ?_
 refine wq rfl (qa rfl (Ab (Ag (sm [] [] [] rfl rfl) (wq rfl (FD AP Dz O3 rfl (FD AP Dz O3 rfl (FD AP Dz O3 rfl (AG U4 Wn rfl (qz U4 rfl (qs Cm rfl (Ab (Ag (sm [] [(1, oD (.ptr 1 0))] [(1, .box [.own 13, .own 14, .own 15, .pure (.nil0)]), (13, .vec 1 ((([2] : List Int)).map Aa)), (14, .vec 1 ((([0] : List Int)).map Aa)), (15, .vec 1 ((([1] : List Int)).map Aa))] rfl rfl) (wq rfl (qL Cp Cm rfl ?_))))))))))))))
 refine Be h fun v1 a1 h => FM [2001] [13, 14, 15] (Ou N ((Ad.mk (([2] : List Int)) (([0] : List Int)) (([1] : List Int)) (([] : List A9)))) v1 a1) VT (FZ (fun _ => rfl) DW) rfl (qm rfl (qx rfl (qx rfl (qa rfl (qa rfl (Ab (Ag (sm [] [(1, oD (.ptr 1 0)), (2, oD (.own 2001)), (3, iD v1.2)] [(1, .box [.own 13, .own 14, .own 15, .pure (.nil0)]), (13, .vec 1 ((([2] : List Int)).map Aa)), (14, .vec 1 ((([0] : List Int)).map Aa)), (15, .vec 1 ((([1] : List Int)).map Aa)), (2001, .vec 3 (v1.1.map Ae))] rfl rfl) (wq rfl (qL Cp Cm rfl (FD AP Dz O3 rfl (qm rfl ?_)))))))))))
 refine Be h fun v2 a2 h => FM [2002, 2003, 2004, 2005] [13, 14, 15, 24, 2001] (IB N ((Ad.mk (([2] : List Int)) (([0] : List Int)) (([1] : List Int)) (([] : List A9)))) (([1] : List Int)) v1.1 v2 a2) Ve (FZ (fun _ => rfl) (FZ (fun _ => rfl) (FZ (fun _ => rfl) (FZ (fun _ => rfl) DW)))) rfl (qm rfl (qx rfl (qx rfl (qz IV rfl (qs DN rfl (qa rfl (Ab (Ag (sm [] [(1, oD (.ptr 1 0)), (2, oD (.own 2001)), (3, iD v1.2), (4, oD (.ptr 4 0)), (5, iD v2.2)] [(1, .box [.own 13, .own 14, .own 15, .pure (.nil0)]), (4, .box [.own 2002, iC v2.1.fk, iC v2.1.fp, iC v2.1.fr, iC v2.1.fj, iC v2.1.fe, .own 2003, .own 2004, .own 2005]), (13, .vec 1 ((([2] : List Int)).map Aa)), (14, .vec 1 ((([0] : List Int)).map Aa)), (15, .vec 1 ((([1] : List Int)).map Aa)), (24, .vec 1 ((([1] : List Int)).map Aa)), (2001, .vec 3 (v1.1.map Ae)), (2002, .vec 3 (v2.1.fo.map Ae)), (2003, .vec 1 (v2.1.fc.ff.map Aa)), (2004, .vec 1 (v2.1.fc.fd.map Aa)), (2005, .vec 1 (v2.1.fc.fg.map Bd))] rfl rfl) (wq rfl (qL Cp Cm rfl (FD AP Dz O3 rfl (qL GR DN rfl (AG Tt VM rfl (Cs (AM 13 _ _ rfl rfl) (Cs (AM 14 _ _ rfl rfl) (Cs (AM 15 _ _ rfl rfl) (Cs (AM 31 _ _ rfl rfl) (Cs (AM 2002 _ _ rfl rfl) (Cs (AM 2003 _ _ rfl rfl) (Cs (AM 2004 _ _ rfl rfl) (Cs (AM 2005 _ _ rfl rfl) ?_)))))))))))))))))))))
 refine Be h fun v3 a3 h => Av [2006] (KR N ((Ad.mk (([2] : List Int)) (([0] : List Int)) (([1] : List Int)) (([] : List A9)))) (([1] : List Int)) ((Af.mk v2.1.fo v2.1.fk v2.1.fp v2.1.fr v2.1.fj v2.1.fe ((Ai.mk v2.1.fc.ff v2.1.fc.fd v2.1.fc.fg)))) ((Cr.mk 1 3 0 0 0 false 0)) v3 a3) Wx rfl (qm rfl (qx rfl (qx rfl (qx rfl (qs DN rfl (qa rfl (qa rfl (Ab (Ag (sm [] [(1, oD (.ptr 1 0)), (2, oD (.own 2001)), (3, iD v1.2), (4, oD (.ptr 4 0)), (5, iD v2.2), (6, oD (.own 2006)), (7, iD v3.2.2)] [(1, .box [sC ((([2] : List Int)).map Aa), sC ((([0] : List Int)).map Aa), sC ((([1] : List Int)).map Aa), .pure (.nil0)]), (4, .box (Bb v3.1)), (24, .vec 1 ((([1] : List Int)).map Aa)), (2001, .vec 3 (v1.1.map Ae)), (2006, .vec 10 (v3.2.1.map As))] rfl rfl) (AH ?_))))))))))
 refine AF h (fun v4 => mk [(1, oD (.ptr 1 0)), (2, oD (.own 2007)), (4, oD (.ptr 4 0)), (6, oD (.own 2008)), (59, bD v4)] [(1, .box [sC ((([2] : List Int)).map Aa), sC ((([0] : List Int)).map Aa), sC ((([1] : List Int)).map Aa), .pure (.nil0)]), (4, .box (Bb v3.1)), (2007, .vec 3 (v1.1.map Ae)), (2008, .vec 10 (v3.2.1.map As))]) (fun j4 h => ?_) (fun v4 h => ?_)
 ·refine Aj Az rfl (qm rfl (Ba rfl (qm rfl ?_)))
  refine Dv 40 h rfl (fun h => ?_) fun h => ?_
  ·refine qw 2 rfl (qp rfl (qw 3 rfl (qp rfl (qw 4 rfl (qp rfl (qw 6 rfl (qp rfl (Ab ?_))))))))
   exact sn [(2007, 2001), (2008, 2006)] h
  ·refine qm rfl (Ba rfl (qp rfl (qm rfl ?_)))
   refine Dv 44 h rfl (fun h => ?_) fun h => ?_
   ·refine qw 2 rfl (qp rfl (qw 4 rfl (qp rfl (qw 6 rfl (qp rfl (Ab ?_))))))
    exact sn [(2007, 2001), (2008, 2006)] h
   ·refine qm rfl (Ba rfl (qp rfl (qm rfl ?_)))
    refine Dv 48 h rfl (fun h => ?_) fun h => ?_
    ·refine qw 3 rfl (qp rfl (qw 6 rfl (qp rfl (Ab ?_))))
     exact sn [(2007, 2001), (2008, 2006)] h
    ·refine qm rfl (Iv HF rfl (Ba rfl (qp rfl (qm rfl ?_))))
     refine Dv 53 h rfl (fun h => ?_) fun h => ?_
     ·refine qw 5 rfl (qp rfl (Ab ?_))
      exact sn [(2007, 2001), (2008, 2006)] h
     ·refine qm rfl ?_
      refine Cn h fun v9 a9 b9 h => qI HF M2 a9 (Ao b9) rfl (qh RX rfl (qj Bs (Ao b9) rfl (Ba rfl (qp rfl (Ab ?_)))))
      exact sn [(2007, 2001), (2008, 2006)] h
 ·refine A0 h (fun h => ?_) fun h => ?_
  ·refine wq rfl (qa rfl (Ab (Ag (sm [] [(0, bD false)] [(1, .box [sC ((([2] : List Int)).map Aa), sC ((([0] : List Int)).map Aa), sC ((([1] : List Int)).map Aa), .pure (.nil0)]), (4, .box (Bb v3.1)), (2007, .vec 3 (v1.1.map Ae)), (2008, .vec 10 (v3.2.1.map As))] rfl rfl) ?_)))
   obtain rfl := sj h
   refine Ag (sm [] [(0, bD false)] [] rfl rfl) (Ap ?_)
   exact ⟨⟨[_], tm, rfl⟩, tv⟩
  ·refine An (Ag (sm [] [(1, oD (.ptr 1 0)), (2, oD (.own 2007)), (4, oD (.ptr 4 0)), (6, oD (.own 2008))] [(1, .box [sC ((([2] : List Int)).map Aa), sC ((([0] : List Int)).map Aa), sC ((([1] : List Int)).map Aa), .pure (.nil0)]), (4, .box (Bb v3.1)), (2007, .vec 3 (v1.1.map Ae)), (2008, .vec 10 (v3.2.1.map As))] rfl rfl) (wq rfl (qm rfl ?_)))
   refine Cn h fun v11 a11 b11 h => qI HF M2 a11 (Ao b11) rfl (qh Sx rfl ?_)
   refine Rh (.p rfl) rfl LV HU rfl (Ao b11) rfl rfl (by decide) ?_
   refine Be h fun v12 a12 h => Av [] (FP N ((⟨#[]⟩ : ByteArray)) ((AC.mk v11.fO.fw v11.fO.fe v11.fO.fy v11.fO.fS)) v12 a12) Vw rfl (qm rfl (qx rfl (qx rfl (qa rfl (qa rfl (Ab (Ag (sm [] [(1, oD (.ptr 1 0)), (2, oD (.own 2007)), (4, oD (.ptr 4 0)), (8, pD (.val (.string v12.1))), (9, iD v12.2)] [(1, .box [sC ((([2] : List Int)).map Aa), sC ((([0] : List Int)).map Aa), sC ((([1] : List Int)).map Aa), .pure (.nil0)]), (4, .box (Bb v3.1)), (2007, .vec 3 (v1.1.map Ae)), (2008, .vec 10 (v3.2.1.map As))] rfl rfl) (wq rfl (qL Cp Cm rfl (FD AP Dz O3 rfl (qw 2 rfl (Cs (AM 70 _ _ rfl rfl) (Cs (AM 2007 _ _ rfl rfl) ?_)))))))))))))
   refine Be h fun v13 a13 h => Av [] (LE N ((Ad.mk (([2] : List Int)) (([0] : List Int)) (([1] : List Int)) (([] : List A9)))) (([1] : List Int)) v1.1 v12.1 v13 a13) V5 rfl (qm rfl (qx rfl (qx rfl (qx rfl (qz IV rfl (qs DN rfl (qa rfl (qa rfl (Ab (Ag (sm [] [(4, oD (.ptr 4 0)), (8, pD (.val (.string v12.1))), (9, iD v12.2), (10, oD (.ptr 10 0)), (11, iD v13.2.1), (12, iD v13.2.2)] [(1, .box [sC ((([2] : List Int)).map Aa), sC ((([0] : List Int)).map Aa), sC ((([1] : List Int)).map Aa), .pure (.nil0)]), (4, .box (Bb v3.1)), (10, .box (Bb v13.1)), (2008, .vec 10 (v3.2.1.map As))] rfl rfl) ?_))))))))))
   refine AF h (fun v14 => mk [(0, bD v14)] []) (fun j14 h => ?_) (fun v14 h => ?_)
   ·refine Aj Az rfl (qm rfl (AL rfl (qm rfl ?_)))
    refine Dv 79 h rfl (fun h => ?_) fun h => ?_
    ·refine qm rfl (AL rfl (qp rfl (qm rfl ?_)))
     refine Dv 83 h rfl (fun h => ?_) fun h => ?_
     ·refine qw 2 rfl ?_
      refine J9 (.g rfl rfl) rfl HX ?_
      refine AL rfl (qp rfl (qm rfl ?_))
      refine Dv 89 h rfl (fun h => ?_) fun h => ?_
      ·refine qL GR DN rfl (qL GR DN rfl ?_)
       refine Be h fun v18 a18 h => Av [] (LF N ((Af.mk v3.1.fo v3.1.fk v3.1.fp v3.1.fr v3.1.fj v3.1.fe ((Ai.mk v3.1.fc.ff v3.1.fc.fd v3.1.fc.fg)))) ((Af.mk v13.1.fo v13.1.fk v13.1.fp v13.1.fr v13.1.fj v13.1.fe ((Ai.mk v13.1.fc.ff v13.1.fc.fd v13.1.fc.fg)))) v18 a18) Wg rfl (qp rfl (qe rfl ?_))
       exact sn [] h
      ·refine qw 3 rfl (qp rfl (qe rfl ?_))
       exact sn [] h
     ·refine qw 4 rfl (qp rfl (qw 4 rfl (qp rfl (qe rfl ?_))))
      exact sn [] h
    ·refine qw 2 rfl (qp rfl (qw 5 rfl (qp rfl (qw 4 rfl (qp rfl (qe rfl ?_))))))
     exact sn [] h
   ·obtain rfl := sj h
    refine Ag (sm [] [(0, bD v14)] [] rfl rfl) (Ap ?_)
    exact ⟨⟨[_], tm, rfl⟩, tv⟩
theorem G7 (N : Nat) (p0 : AB) (r : Bool) (h : C3 N p0 = some r) : Ar zA 20 [.e (.agg (Bh p0))] [] (bD r) := by
 unfold C3 at h
 refine cw (n := 16) (rs := [.tmp 2]) Tryz.func20 fun w0 S0 => ?_
 refine wq rfl (qb rfl (qe rfl ?_))
 refine AF h (fun v1 => mk [(2, bD v1)] []) (fun j1 h => ?_) (fun v1 h => ?_)
 ·refine Aj Az rfl (qf Kq rfl (ql Bs rfl (EC rfl (qm rfl ?_))))
  refine Dv 6 h rfl (fun h => ?_) fun h => ?_
  ·refine qf H2 rfl (ql JP rfl (EC rfl (qp rfl (qm rfl ?_))))
   refine Dv 11 h rfl (fun h => ?_) fun h => ?_
   ·refine qf KJ rfl (ql JP rfl (EC rfl (qp rfl (qe rfl ?_))))
    exact sn [] h
   ·refine qw 3 rfl (qp rfl (qe rfl ?_))
    exact sn [] h
  ·refine qw 3 rfl (qp rfl (qw 4 rfl (qp rfl (qe rfl ?_))))
   exact sn [] h
 ·obtain rfl := sj h
  refine Ag (sm [] [(2, bD v1)] [] rfl rfl) (Ap ?_)
  exact ⟨⟨[_], tm, rfl⟩, tv⟩
theorem I9 (N : Nat) (p0 : AB) (p1 : Int) (p2 : Int) (p3 : Int) (p4 : Int) (r : Int) (h : Dx N p0 p1 p2 p3 p4 = some r) : Ar zA 17 [.e (.agg (Bh p0)), iD p1, iD p2, iD p3, iD p4] [] (iD r) := by
 unfold Dx at h
 refine cw (n := 36) (rs := [.tmp 10]) Tryz.func17 fun w0 S0 => ?_
 refine wq rfl (qb rfl (qa rfl (Ab (AH (AI (wq rfl (qL EW CN rfl ?_)))))))
 refine Be h fun v1 a1 h => Av [] (G7 N p0 v1 a1) SQ rfl (B2 rfl (qe rfl ?_))
 refine A0 h (fun h => ?_) fun h => ?_
 ·refine wq rfl (qe rfl ?_)
  obtain rfl := sj h
  refine Ag (sm [] [(10, iD 1)] [] rfl rfl) (Ap ?_)
  exact ⟨⟨[_], tm, rfl⟩, tv⟩
 ·refine AF h (fun v3 => mk [(15, bD v3)] []) (fun j3 h => ?_) (fun v3 h => ?_)
  ·refine Aj Az rfl (qm rfl (A8 rfl (qm rfl ?_)))
   refine Dv 18 h rfl (fun h => ?_) fun h => ?_
   ·refine qw 2 rfl (qp rfl (qw 3 rfl (qp rfl (qw 3 rfl (qp rfl (qw 5 rfl (qp rfl (qe rfl ?_))))))))
    exact sn [] h
   ·refine qm rfl (A8 rfl (qp rfl (qm rfl ?_)))
    refine Dv 22 h rfl (fun h => ?_) fun h => ?_
    ·refine qw 2 rfl (qp rfl (qw 3 rfl (qp rfl (qw 5 rfl (qp rfl (qe rfl ?_))))))
     exact sn [] h
    ·refine qm rfl (A8 rfl (qp rfl (qm rfl ?_)))
     refine Dv 26 h rfl (fun h => ?_) fun h => ?_
     ·refine qw 2 rfl (qp rfl (qw 5 rfl (qp rfl (qe rfl ?_))))
      exact sn [] h
     ·refine qm rfl (A8 rfl (qp rfl (qm rfl ?_)))
      refine Dv 30 h rfl (fun h => ?_) fun h => ?_
      ·refine qw 4 rfl (qp rfl (qe rfl ?_))
       exact sn [] h
      ·refine qw 2 rfl (J5 rfl (EA rfl (qp rfl (qe rfl ?_))))
       exact sn [] h
  ·refine A0 h (fun h => ?_) fun h => ?_
   ·refine wq rfl (qe rfl ?_)
    obtain rfl := sj h
    refine Ag (sm [] [(10, iD 7)] [] rfl rfl) (Ap ?_)
    exact ⟨⟨[_], tm, rfl⟩, tv⟩
   ·refine An (wq rfl (qe rfl ?_))
    obtain rfl := sj h
    refine Ag (sm [] [(10, iD 0)] [] rfl rfl) (Ap ?_)
    exact ⟨⟨[_], tm, rfl⟩, tv⟩
theorem Hx (N : Nat) (p0 : AB) (p1 : Int) (r : Bool) (h : Dw N p0 p1 = some r) : Ar zA 18 [.e (.agg (Bh p0)), iD p1] [] (bD r) := by
 unfold Dw at h
 refine cw (n := 18) (rs := [.tmp 4]) Tryz.func18 fun w0 S0 => ?_
 refine wq rfl (qb rfl (qe rfl ?_))
 refine AF h (fun v1 => mk [(4, bD v1)] []) (fun j1 h => ?_) (fun v1 h => ?_)
 ·refine Aj Az rfl (qf Kq rfl (ql Bs rfl (EC rfl (qm rfl ?_))))
  refine Dv 8 h rfl (fun h => ?_) fun h => ?_
  ·refine qm rfl (EC rfl (qp rfl (qm rfl ?_)))
   refine Dv 12 h rfl (fun h => ?_) fun h => ?_
   ·refine qm rfl (qf KJ rfl (ql JP rfl (A8 rfl (qp rfl (qe rfl ?_)))))
    exact sn [] h
   ·refine qw 4 rfl (qp rfl (qe rfl ?_))
    exact sn [] h
  ·refine qw 2 rfl (qp rfl (qw 5 rfl (qp rfl (qe rfl ?_))))
   exact sn [] h
 ·obtain rfl := sj h
  refine Ag (sm [] [(4, bD v1)] [] rfl rfl) (Ap ?_)
  exact ⟨⟨[_], tm, rfl⟩, tv⟩
theorem IE (N : Nat) (p0 : AB) (p1 : Int) (r : AB) (h : Eb N p0 p1 = some r) : Ar zA 19 [.e (.agg (Bh p0)), iD p1] [] (.e (.agg (Bh r))) := by
 unfold Eb at h
 refine cw (n := 11) (rs := [.cell 4 25]) Tryz.func19 fun w0 S0 => ?_
 refine wq rfl (qb rfl (qz IN rfl (Ab (wq rfl (qf KJ rfl (ql JP rfl (qm rfl ?_)))))))
 refine Tl (.p rfl) rfl rfl ?_
 refine qf KJ rfl (qs OP rfl (Ab (wq rfl (qL EW CN rfl (qs CN rfl (Ab ?_))))))
 obtain rfl := sj h
 refine Ag (sm [] [(4, oD (.ptr 4 0))] [(4, .box [iC p0.fE, iC p0.fe, iC ((Hk p0.fI p1))])] rfl rfl) (Ap ?_)
 exact ⟨⟨[_], ⟨.cellN _ _ _ _ _ _ _ rfl rfl EW CN rfl rfl (EU rfl), tv⟩, rfl⟩, tv⟩
theorem LQ (N : Nat) (p0 : AB) (p1 : Int) (p2 : Int) (p3 : Int) (r : AB × Int) (h : Ey N p0 p1 p2 p3 = some r) : Ar zA 5 [.e (.agg (Bh p0)), iD p1, iD p2, iD p3] [] (.tup [.agg (Bh r.1), .one (iC r.2)]) := by
 unfold Ey at h
 refine cw (n := 55) (rs := [.cell 8 25, .tmp 9]) Tryz.func5 fun w0 S0 => ?_
 refine wq rfl (qb rfl (qz IN rfl (qa rfl (Ab (wp rfl (qL EW CN rfl (qw 3 rfl ?_)))))))
 refine Be h fun v1 a1 h => Av [] (I9 N p0 p1 0 p2 p3 v1 a1) Uv rfl (qa rfl (Ab (wq rfl (qm rfl (Ba rfl (Ab ?_))))))
 refine A0 h (fun h => ?_) fun h => ?_
 ·refine wq rfl (AG IN Mr rfl (qm rfl (qs CN rfl (qe rfl ?_))))
  obtain rfl := sj h
  refine Ag (sm [] [(8, oD (.ptr 8 0)), (9, iD v1)] [(8, .box [iC 0, iC 0, iC 0])] rfl rfl) (Ap ?_)
  exact ⟨⟨[_, _], ⟨.cellN _ _ _ _ _ _ _ rfl rfl EW CN rfl rfl (EU rfl), tm⟩, rfl⟩, tv⟩
 ·refine An (AH (AI ?_))
  refine AF h (fun v3 => mk [(1, iD p1), (2, iD p2), (3, iD p3), (4, oD (.ptr 4 0)), (8, oD (.ptr 8 0)), (20, bD v3)] [(4, .box (Bh p0)), (8, .box [iC 0, iC 0, iC 0])]) (fun j3 h => ?_) (fun v3 h => ?_)
  ·refine Aj Az rfl (qL EW CN rfl (qm rfl ?_))
   refine Be h fun v4 a4 h => Av [] (Hx N p0 p2 v4 a4) R2 rfl (B2 rfl (qm rfl ?_))
   refine Dv 25 h rfl (fun h => ?_) fun h => ?_
   ·refine qf H2 rfl (ql JP rfl (AL rfl (qp rfl (qe rfl ?_))))
    exact sn [] h
   ·refine qw 3 rfl (qp rfl (qe rfl ?_))
    exact sn [] h
  ·refine A0 h (fun h => ?_) fun h => ?_
   ·refine wq rfl (AG IN Mr rfl (qs CN rfl (qe rfl ?_)))
    obtain rfl := sj h
    refine Ag (sm [] [(8, oD (.ptr 8 0)), (9, iD 7)] [(8, .box [iC 0, iC 0, iC 0])] rfl rfl) (Ap ?_)
    exact ⟨⟨[_, _], ⟨.cellN _ _ _ _ _ _ _ rfl rfl EW CN rfl rfl (EU rfl), tm⟩, rfl⟩, tv⟩
   ·refine wq rfl (qL EW CN rfl (qm rfl ?_))
    refine Be h fun v7 a7 h => Av [] (Hx N p0 p2 v7 a7) R2 rfl (B2 rfl (qe rfl ?_))
    refine A0 h (fun h => ?_) fun h => ?_
    ·refine wq rfl (qm rfl (qf H2 rfl (ql JP rfl (A6 rfl (qw 2 rfl (A6 rfl (AG IN Mr rfl (qs CN rfl (qe rfl ?_)))))))))
     obtain rfl := sj h
     refine Ag (sm [] [(8, oD (.ptr 8 0)), (9, iD 0)] [(8, .box [iC p1, iC ((wI .i64 (p0.fe + 1))), iC ((wI .i64 (p2 + p3)))])] rfl rfl) (Ap ?_)
     exact ⟨⟨[_, _], ⟨.cellN _ _ _ _ _ _ _ rfl rfl EW CN rfl rfl (EU rfl), tm⟩, rfl⟩, tv⟩
    ·refine wq rfl (qf Kq rfl (ql Bs rfl (qm rfl (Ba rfl (qe rfl ?_)))))
     refine A0 h (fun h => ?_) fun h => ?_
     ·refine wq rfl (AG IN Mr rfl (qs CN rfl (qe rfl ?_)))
      obtain rfl := sj h
      refine Ag (sm [] [(8, oD (.ptr 8 0)), (9, iD 11)] [(8, .box [iC 0, iC 0, iC 0])] rfl rfl) (Ap ?_)
      exact ⟨⟨[_, _], ⟨.cellN _ _ _ _ _ _ _ rfl rfl EW CN rfl rfl (EU rfl), tm⟩, rfl⟩, tv⟩
     ·refine An (wq rfl (qL EW CN rfl (qw 2 rfl (A6 rfl ?_))))
      refine Be h fun v10 a10 h => Av [] (IE N p0 ((wI .i64 (p2 + p3))) v10 a10) UD rfl (qs CN rfl (qe rfl ?_))
      obtain rfl := sj h
      refine Ag (sm [] [(8, oD (.ptr 8 0)), (9, iD 0)] [(8, .box (Bh v10))] rfl rfl) (Ap ?_)
      exact ⟨⟨[_, _], ⟨.cellN _ _ _ _ _ _ _ rfl rfl EW CN rfl rfl (EU rfl), tm⟩, rfl⟩, tv⟩
theorem MA (N : Nat) (p0 : AB) (p1 : Int) (r : Int) (h : EO N p0 p1 = some r) : Ar zA 6 [.e (.agg (Bh p0)), iD p1] [] (iD r) := by
 unfold EO at h
 refine cw (n := 16) (rs := [.tmp 4]) Tryz.func6 fun w0 S0 => ?_
 refine wq rfl (qb rfl (qa rfl (Ab (AH ?_))))
 refine AF h (fun v1 => mk [(2, oD (.ptr 2 0)), (13, bD v1)] [(2, .box (Bh p0))]) (fun j1 h => ?_) (fun v1 h => ?_)
 ·refine Aj Az rfl (qL EW CN rfl ?_)
  refine Be h fun v2 a2 h => Av [] (G7 N p0 v2 a2) SQ rfl (B2 rfl (qm rfl ?_))
  refine Dv 8 h rfl (fun h => ?_) fun h => ?_
  ·refine qw 4 rfl (qp rfl (Ab ?_))
   exact sn [] h
  ·refine qL EW CN rfl (qm rfl ?_)
   refine Be h fun v4 a4 h => Av [] (Hx N p0 p1 v4 a4) R2 rfl (B2 rfl (qp rfl (Ab ?_)))
   exact sn [] h
 ·refine A0 h (fun h => ?_) fun h => ?_
  ·refine wq rfl (qe rfl ?_)
   obtain rfl := sj h
   refine Ag (sm [] [(4, iD ((-1)))] [] rfl rfl) (Ap ?_)
   exact ⟨⟨[_], tm, rfl⟩, tv⟩
  ·refine An (wq rfl (qf Kq rfl (ql Bs rfl (qe rfl ?_))))
   obtain rfl := sj h
   refine Ag (sm [] [(4, iD p0.fE)] [] rfl rfl) (Ap ?_)
   exact ⟨⟨[_], tm, rfl⟩, tv⟩
theorem IM (N : Nat) (p0 : AB) (p1 : Int) (p2 : Int) (p3 : Int) (r : Bool) (h : Ed N p0 p1 p2 p3 = some r) : Ar zA 24 [.e (.agg (Bh p0)), iD p1, iD p2, iD p3] [] (bD r) := by
 unfold Ed at h
 refine cw (n := 24) (rs := [.tmp 8]) Tryz.func24 fun w0 S0 => ?_
 refine wq rfl (qb rfl (qe rfl ?_))
 refine AF h (fun v1 => mk [(8, bD v1)] []) (fun j1 h => ?_) (fun v1 h => ?_)
 ·refine Aj Az rfl (qL EW CN rfl (qm rfl ?_))
  refine Be h fun v2 a2 h => Av [] (Hx N p0 p3 v2 a2) R2 rfl (qm rfl ?_)
  refine Dv 12 h rfl (fun h => ?_) fun h => ?_
  ·refine qf Kq rfl (ql Bs rfl (qm rfl (AL rfl (qp rfl (qm rfl ?_)))))
   refine Dv 18 h rfl (fun h => ?_) fun h => ?_
   ·refine qf H2 rfl (ql JP rfl (qm rfl (AL rfl (qp rfl (qe rfl ?_)))))
    exact sn [] h
   ·refine qw 4 rfl (qp rfl (qe rfl ?_))
    exact sn [] h
  ·refine qw 4 rfl (qp rfl (qw 5 rfl (qp rfl (qe rfl ?_))))
   exact sn [] h
 ·obtain rfl := sj h
  refine Ag (sm [] [(8, bD v1)] [] rfl rfl) (Ap ?_)
  exact ⟨⟨[_], tm, rfl⟩, tv⟩
theorem M0 (N : Nat) (p0 : AB) (p1 : Int) (p2 : Int) (p3 : Int) (p4 : Int) (r : AB × Int) (h : Fe N p0 p1 p2 p3 p4 = some r) : Ar zA 8 [.e (.agg (Bh p0)), iD p1, iD p2, iD p3, iD p4] [] (.tup [.agg (Bh r.1), .one (iC r.2)]) := by
 unfold Fe at h
 refine cw (n := 35) (rs := [.cell 10 25, .tmp 11]) Tryz.func8 fun w0 S0 => ?_
 refine wq rfl (qb rfl (qz IN rfl (qa rfl (Ab (wp rfl (qL EW CN rfl (qw 4 rfl ?_)))))))
 refine Be h fun v1 a1 h => Av [] (I9 N p0 p1 p2 p3 p4 v1 a1) Uv rfl (qa rfl (Ab (wq rfl (qm rfl (Ba rfl (Ab ?_))))))
 refine A0 h (fun h => ?_) fun h => ?_
 ·refine wq rfl (AG IN Mr rfl (qm rfl (qs CN rfl (qe rfl ?_))))
  obtain rfl := sj h
  refine Ag (sm [] [(10, oD (.ptr 10 0)), (11, iD v1)] [(10, .box [iC 0, iC 0, iC 0])] rfl rfl) (Ap ?_)
  exact ⟨⟨[_, _], ⟨.cellN _ _ _ _ _ _ _ rfl rfl EW CN rfl rfl (EU rfl), tm⟩, rfl⟩, tv⟩
 ·refine An (wp rfl (qL EW CN rfl (qw 3 rfl ?_)))
  refine Be h fun v3 a3 h => Av [] (IM N p0 p1 p2 p3 v3 a3) TC rfl (B2 rfl (Ab ?_))
  refine A0 h (fun h => ?_) fun h => ?_
  ·refine wq rfl (AG IN Mr rfl (qs CN rfl (qe rfl ?_)))
   obtain rfl := sj h
   refine Ag (sm [] [(10, oD (.ptr 10 0)), (11, iD 11)] [(10, .box [iC 0, iC 0, iC 0])] rfl rfl) (Ap ?_)
   exact ⟨⟨[_, _], ⟨.cellN _ _ _ _ _ _ _ rfl rfl EW CN rfl rfl (EU rfl), tm⟩, rfl⟩, tv⟩
  ·refine An (wq rfl (qL EW CN rfl (qw 2 rfl (A6 rfl ?_))))
   refine Be h fun v5 a5 h => Av [] (IE N p0 ((wI .i64 (p3 + p4))) v5 a5) UD rfl (qs CN rfl (qe rfl ?_))
   obtain rfl := sj h
   refine Ag (sm [] [(10, oD (.ptr 10 0)), (11, iD 0)] [(10, .box (Bh v5))] rfl rfl) (Ap ?_)
   exact ⟨⟨[_, _], ⟨.cellN _ _ _ _ _ _ _ rfl rfl EW CN rfl rfl (EU rfl), tm⟩, rfl⟩, tv⟩
theorem LJ (N : Nat) (p0 : AB) (p1 : Int) (p2 : Int) (p3 : Int) (r : AB × Int) (h : Ev N p0 p1 p2 p3 = some r) : Ar zA 9 [.e (.agg (Bh p0)), iD p1, iD p2, iD p3] [] (.tup [.agg (Bh r.1), .one (iC r.2)]) := by
 unfold Ev at h
 refine cw (n := 38) (rs := [.cell 8 25, .tmp 9]) Tryz.func9 fun w0 S0 => ?_
 refine wq rfl (qb rfl (qz IN rfl (qa rfl (Ab (AH (AI (wq rfl (qL EW CN rfl ?_))))))))
 refine Be h fun v1 a1 h => Av [] (G7 N p0 v1 a1) SQ rfl (B2 rfl (qe rfl ?_))
 refine A0 h (fun h => ?_) fun h => ?_
 ·refine wq rfl (AG IN Mr rfl (qs CN rfl (qe rfl ?_)))
  obtain rfl := sj h
  refine Ag (sm [] [(8, oD (.ptr 8 0)), (9, iD 1)] [(8, .box [iC 0, iC 0, iC 0])] rfl rfl) (Ap ?_)
  exact ⟨⟨[_, _], ⟨.cellN _ _ _ _ _ _ _ rfl rfl EW CN rfl rfl (EU rfl), tm⟩, rfl⟩, tv⟩
 ·refine AF h (fun v3 => mk [(1, iD p1), (2, iD p2), (3, iD p3), (4, oD (.ptr 4 0)), (8, oD (.ptr 8 0)), (15, bD v3)] [(4, .box (Bh p0)), (8, .box [iC 0, iC 0, iC 0])]) (fun j3 h => ?_) (fun v3 h => ?_)
  ·refine Aj Az rfl (qm rfl (A8 rfl (qm rfl ?_)))
   refine Dv 18 h rfl (fun h => ?_) fun h => ?_
   ·refine qw 2 rfl (qp rfl (qw 3 rfl (qp rfl (qe rfl ?_))))
    exact sn [] h
   ·refine qm rfl (A8 rfl (qp rfl (qm rfl ?_)))
    refine Dv 22 h rfl (fun h => ?_) fun h => ?_
    ·refine qw 2 rfl (qp rfl (qe rfl ?_))
     exact sn [] h
    ·refine qm rfl (A8 rfl (qp rfl (qe rfl ?_)))
     exact sn [] h
  ·refine A0 h (fun h => ?_) fun h => ?_
   ·refine wq rfl (AG IN Mr rfl (qs CN rfl (qe rfl ?_)))
    obtain rfl := sj h
    refine Ag (sm [] [(8, oD (.ptr 8 0)), (9, iD 7)] [(8, .box [iC 0, iC 0, iC 0])] rfl rfl) (Ap ?_)
    exact ⟨⟨[_, _], ⟨.cellN _ _ _ _ _ _ _ rfl rfl EW CN rfl rfl (EU rfl), tm⟩, rfl⟩, tv⟩
   ·refine wq rfl (qL EW CN rfl (qw 3 rfl ?_))
    refine Be h fun v7 a7 h => Av [] (IM N p0 p1 p2 p3 v7 a7) TC rfl (B2 rfl (qe rfl ?_))
    refine A0 h (fun h => ?_) fun h => ?_
    ·refine wq rfl (AG IN Mr rfl (qs CN rfl (qe rfl ?_)))
     obtain rfl := sj h
     refine Ag (sm [] [(8, oD (.ptr 8 0)), (9, iD 11)] [(8, .box [iC 0, iC 0, iC 0])] rfl rfl) (Ap ?_)
     exact ⟨⟨[_, _], ⟨.cellN _ _ _ _ _ _ _ rfl rfl EW CN rfl rfl (EU rfl), tm⟩, rfl⟩, tv⟩
    ·refine An (wq rfl (qf H2 rfl (ql JP rfl (AG IN Mr rfl (qs CN rfl (qe rfl ?_))))))
     obtain rfl := sj h
     refine Ag (sm [] [(8, oD (.ptr 8 0)), (9, iD 0)] [(8, .box [iC ((-1)), iC p0.fe, iC 0])] rfl rfl) (Ap ?_)
     exact ⟨⟨[_, _], ⟨.cellN _ _ _ _ _ _ _ rfl rfl EW CN rfl rfl (EU rfl), tm⟩, rfl⟩, tv⟩
theorem M3 (N : Nat) (p0 : AB) (p1 : Int) (p2 : Int) (p3 : Int) (p4 : Int) (r : Bool) (h : Fb N p0 p1 p2 p3 p4 = some r) : Ar zA 11 [.e (.agg (Bh p0)), iD p1, iD p2, iD p3, iD p4] [] (bD r) := by
 unfold Fb at h
 refine cw (n := 32) (rs := [.tmp 10]) Tryz.func11 fun w0 S0 => ?_
 refine wq rfl (qb rfl (qe rfl ?_))
 refine AF h (fun v1 => mk [(10, bD v1)] []) (fun j1 h => ?_) (fun v1 h => ?_)
 ·refine Aj Az rfl (qL EW CN rfl ?_)
  refine Be h fun v2 a2 h => Av [] (G7 N p0 v2 a2) SQ rfl (qm rfl ?_)
  refine Dv 13 h rfl (fun h => ?_) fun h => ?_
  ·refine qm rfl (EC rfl (qp rfl (qm rfl ?_)))
   refine Dv 17 h rfl (fun h => ?_) fun h => ?_
   ·refine qL EW CN rfl (qw 3 rfl ?_)
    refine Be h fun v5 a5 h => Av [] (IM N p0 p1 p2 p3 v5 a5) TC rfl (qp rfl (qm rfl ?_))
    refine Dv 24 h rfl (fun h => ?_) fun h => ?_
    ·refine qf KJ rfl (ql JP rfl (qm rfl (J5 rfl (qm rfl (EA rfl (qp rfl (qe rfl ?_)))))))
     exact sn [] h
    ·refine qw 6 rfl (qp rfl (qe rfl ?_))
     exact sn [] h
   ·refine qw 5 rfl (qp rfl (qw 7 rfl (qp rfl (qe rfl ?_))))
    exact sn [] h
  ·refine qw 2 rfl (qp rfl (qw 6 rfl (qp rfl (qw 7 rfl (qp rfl (qe rfl ?_))))))
   exact sn [] h
 ·obtain rfl := sj h
  refine Ag (sm [] [(10, bD v1)] [] rfl rfl) (Ap ?_)
  exact ⟨⟨[_], tm, rfl⟩, tv⟩
set_option maxHeartbeats 2000000 in
theorem Jd (N : Nat) (p0 : List Ch) (r : Bool) (h : CG N p0 = some r) : Ar zA 3 [pD (.sl (p0.map Bn))] [] (bD r) := by
 unfold CG at h
 refine cw (n := 217) (rs := [.tmp 2]) Tryz.func3 fun w0 S0 => ?_
 refine wq rfl (qa rfl (Ab (AH ?_)))
 refine AF h (fun v1 => mk [(0, pD (.sl (p0.map Bn))), (35, bD v1)] []) (fun j1 h => ?_) (fun v1 h => ?_)
 ·refine Aj Az rfl ?_
  refine Be h fun v2 a2 h => Av [] (Hu N v2 a2) WL rfl (B2 rfl (qm rfl ?_))
  refine Dv 31 h rfl (fun h => ?_) fun h => ?_
  ·refine qw 3 rfl (qp rfl (Ab ?_))
   exact sn [] h
  ·refine qm rfl (AT QB rfl (EA rfl (qp rfl (Ab ?_))))
   exact sn [] h
 ·refine A0 h (fun h => ?_) fun h => ?_
  ·refine wq rfl ?_
   refine Be h fun v5 a5 h => Av [] (Hu N v5 a5) WL rfl (qe rfl ?_)
   obtain rfl := sj h
   refine Ag (sm [] [(2, bD v5)] [] rfl rfl) (Ap ?_)
   exact ⟨⟨[_], tm, rfl⟩, tv⟩
  ·refine An (wq rfl (AG IN Mr rfl (qz IN rfl (qs CN rfl (Ab (wq rfl ?_))))))
   refine Oz (rows := ([0, 0] : List Int).map Aa) (.p rfl) VP rfl rfl rfl rfl ?_
   refine Ab (wq rfl (qa rfl (qa rfl (Ab (wp rfl (qm rfl (AT QB rfl (qm rfl (Ab ?_)))))))))
   refine AS (L := Bl N p0) h (fun v6 => mk [(3, oD (.ptr 3 0)), (4, oD (.eptr 2001 1 0 0)), (5, iD v6.2.2.1), (6, pD (.val (.string v6.2.2.2.1))), (38, pD (.sl (p0.map Bn))), (39, iD ((p0.length : Int))), (40, iD v6.2.2.2.2)] [(3, .box (Bh v6.1)), (2001, .vec 1 (v6.2.1.map Aa))]) (fun v7 => mk [] []) (fun _ _ => rfl) (sm [(2001, 4)] _ _ rfl rfl) (fun j6 n6 v6 h => ?_) (fun v7 s h hs => ?_)
   ·unfold Bl at h
    refine wq rfl (A8 rfl (Ab (AH ?_)))
    refine A0 h (fun h => ?_) fun h => ?_
    ·refine An ?_
     refine AF h (fun v9 => mk [(3, oD (.ptr 3 0)), (4, oD (.eptr 2002 1 0 0)), (5, iD v9.2.2.1), (6, pD (.val (.string v9.2.2.2))), (38, pD (.sl (p0.map Bn))), (39, iD ((p0.length : Int))), (40, iD v6.2.2.2.2)] [(3, .box (Bh v9.1)), (2002, .vec 1 (v9.2.1.map Aa))]) (fun j9 h => ?_) (fun v9 h => ?_)
     ·refine AI (wq rfl ?_)
      refine Cn h fun v10 a10 b10 h => qi QB T3 a10 (Ao b10) rfl (qK Wo T3 rfl (qz Wf rfl (qs T3 rfl (Ab (wq rfl (qf SA rfl (ql UE rfl (Na rfl (by decide) (Ff Qo Vx rfl (qa rfl (Ab (wq rfl (qm rfl (qf Si rfl (ql UE rfl (Na rfl (by decide) (Ff Qo Vu rfl (A6 rfl (qe rfl ?_)))))))))))))))))))
      refine AF h (fun v11 => mk [(3, oD (.ptr 3 0)), (4, oD (.eptr 2003 1 0 0)), (5, iD ((wI .i64 (v6.2.2.1 + (wI .i64 ((zI v10.fB 8))))))), (6, pD (.val (.string v11.2.2))), (38, pD (.sl (p0.map Bn))), (39, iD ((p0.length : Int))), (40, iD v6.2.2.2.2)] [(3, .box (Bh v11.1)), (2003, .vec 1 (v11.2.1.map Aa))]) (fun j11 h => ?_) (fun v11 h => ?_)
      ·refine wq rfl (qf SE rfl (ql UE rfl (Na rfl (by decide) (Ab (AI (wq rfl (AL rfl (qe rfl ?_))))))))
       refine A0 h (fun h => ?_) fun h => ?_
       ·refine wq rfl (qL EW CN rfl (qw 2 rfl (qf PJ rfl (ql UE rfl (Na rfl (by decide) (Ff Qo Vu rfl (A6 rfl ?_)))))))
        refine Be h fun v13 a13 h => Av [] (LQ N v6.1 ((wI .i64 ((zI v10.fH 2)))) ((wI .i64 (v6.2.2.1 + (wI .i64 ((zI v10.fB 8)))))) ((wI .i64 (1 + (wI .i64 ((zI v10.fQ 10)))))) v13 a13) WS rfl (qm rfl (qx rfl (qx rfl (qz IN rfl (qs CN rfl (qa rfl (Ab (wp rfl (qm rfl (Ba rfl (Ab ?_)))))))))))
        refine A0 h (fun h => ?_) fun h => ?_
        ·refine AH ?_
         refine AF h (fun v15 => mk [(3, oD (.ptr 3 0)), (4, oD (.eptr 2004 1 0 0)), (5, iD ((wI .i64 (v6.2.2.1 + (wI .i64 ((zI v10.fB 8))))))), (6, pD (.val (.string v6.2.2.2.1))), (38, pD (.sl (p0.map Bn))), (39, iD ((p0.length : Int))), (40, iD v6.2.2.2.2), (94, bD v15)] [(3, .box (Bh v6.1)), (2004, .vec 1 (v6.2.1.map Aa))]) (fun j15 h => ?_) (fun v15 h => ?_)
         ·refine Aj Az rfl (qm rfl (Ba rfl (qm rfl ?_)))
          refine Dv 87 h rfl (fun h => ?_) fun h => ?_
          ·refine qw 6 rfl (qp rfl (Ab ?_))
           exact sn [(2004, 2001)] h
          ·refine qL EW CN rfl (qm rfl ?_)
           refine Be h fun v17 a17 h => Av [] (MA N v6.1 ((wI .i64 (v6.2.2.1 + (wI .i64 ((zI v10.fB 8)))))) v17 a17) WR rfl (qm rfl (J5 rfl (Ba rfl (qp rfl (Ab ?_)))))
           exact sn [(2004, 2001)] h
         ·refine A0 h (fun h => ?_) fun h => ?_
          ·refine wq rfl (qe rfl ?_)
           obtain rfl := sj h
           refine Ag (sm [] [(2, bD false)] [] rfl rfl) (Ap ?_)
           exact ⟨⟨[_], tm, rfl⟩, tv⟩
          ·refine An (Bg ?_)
           exact sn [(2002, 2004)] h
        ·refine An (wq rfl (qL EW CN rfl (qs CN rfl (Ab (wq rfl (qf H2 rfl (ql JP rfl (qm rfl ?_))))))))
         refine Ge h fun c19 h => Cn h fun v20 a20 b20 h => DX (.p rfl) rfl rfl rfl Ly OP a20 (Ao (f := Aa) b20) ((zJ ..).trans c19) ?_
         refine Fj (.p rfl) rfl JP rfl (Ao (f := Aa) b20) rfl ?_
         refine Ba rfl (AJ (by kernel_rfl) ?_)
         refine A0 h (fun h => ?_) fun h => ?_
         ·refine wq rfl (qm rfl (qf H2 rfl (ql JP rfl ?_)))
          refine Ge h fun c22 h => Cn h fun v23 a23 b23 h => DX (.p rfl) rfl rfl rfl Ly OP a23 (Ao (f := Aa) b23) ((zJ ..).trans c22) ?_
          refine ER rfl rfl rfl rfl (Ao (f := Aa) b23) rfl OP rfl (Da rfl) (EB Aa v6.2.1 _ v13.1.fe) ?_
          refine Ab (wq rfl (qm rfl (qf H2 rfl (ql JP rfl (AG LO P2 rfl ?_)))))
          refine Be h fun v24 a24 h => Av [] (FP N v6.2.2.2.1 ((AC.mk 5 v13.1.fe 0 (⟨#[]⟩))) v24 a24) Vw rfl (qm rfl (qx rfl (qx rfl (qa rfl (qa rfl (Ab (wp rfl (qm rfl (Ba rfl (Ab ?_))))))))))
          refine A0 h (fun h => ?_) fun h => ?_
          ·refine wq rfl (qe rfl ?_)
           obtain rfl := sj h
           refine Ag (sm [] [(2, bD false)] [] rfl rfl) (Ap ?_)
           exact ⟨⟨[_], tm, rfl⟩, tv⟩
          ·refine An (Aj Az rfl (qm rfl (qe rfl ?_)))
           exact sn [(2003, 2001)] h
         ·refine An ?_
          exact sn [(2003, 2001)] h
       ·refine wq rfl (AL rfl (qe rfl ?_))
        refine A0 h (fun h => ?_) fun h => ?_
        ·refine wq rfl (qL EW CN rfl (qw 2 rfl ?_))
         refine Ge h fun c27 h => Cn h fun v28 a28 b28 h => DX (.p rfl) rfl rfl rfl Ly OP a28 (Ao (f := Aa) b28) ((zJ ..).trans c27) ?_
         refine Fj (.p rfl) rfl JP rfl (Ao (f := Aa) b28) rfl ?_
         refine qm rfl (qf PJ rfl (ql UE rfl (Na rfl (by decide) (Ff Qo Vu rfl (A6 rfl ?_)))))
         refine Be h fun v29 a29 h => Av [] (M0 N v6.1 ((wI .i64 ((zI v10.fH 2)))) v28 ((wI .i64 (v6.2.2.1 + (wI .i64 ((zI v10.fB 8)))))) ((wI .i64 (1 + (wI .i64 ((zI v10.fQ 10)))))) v29 a29) WN rfl (qm rfl (qx rfl (qx rfl (qz IN rfl (qs CN rfl (qa rfl (AJ (by kernel_rfl) (wq rfl (qm rfl (AL rfl (Ab ?_)))))))))))
         refine A0 h (fun h => ?_) fun h => ?_
         ·refine Aj Az rfl (qL EW CN rfl (qs CN rfl (Ab ?_)))
          exact sn [(2003, 2001)] h
         ·refine An ?_
          exact sn [(2003, 2001)] h
        ·refine wq rfl (AL rfl (qe rfl ?_))
         refine A0 h (fun h => ?_) fun h => ?_
         ·refine wq rfl (qL EW CN rfl (qw 2 rfl ?_))
          refine Ge h fun c32 h => Cn h fun v33 a33 b33 h => DX (.p rfl) rfl rfl rfl Ly OP a33 (Ao (f := Aa) b33) ((zJ ..).trans c32) ?_
          refine Fj (.p rfl) rfl JP rfl (Ao (f := Aa) b33) rfl ?_
          refine qm rfl ?_
          refine Be h fun v34 a34 h => Av [] (LJ N v6.1 ((wI .i64 ((zI v10.fH 2)))) v33 ((wI .i64 (v6.2.2.1 + (wI .i64 ((zI v10.fB 8)))))) v34 a34) WM rfl (qm rfl (qx rfl (qx rfl (qz IN rfl (qs CN rfl (qa rfl (AJ (by kernel_rfl) (wq rfl (qm rfl (AL rfl (Ab ?_)))))))))))
          refine A0 h (fun h => ?_) fun h => ?_
          ·refine Aj Az rfl (qL EW CN rfl (qs CN rfl (Ab ?_)))
           exact sn [(2003, 2001)] h
          ·refine An ?_
           exact sn [(2003, 2001)] h
         ·refine wq rfl (qw 2 rfl ?_)
          refine Ge h fun c36 h => Cn h fun v37 a37 b37 h => DX (.p rfl) rfl rfl rfl Ly OP a37 (Ao (f := Aa) b37) ((zJ ..).trans c36) ?_
          refine Fj (.p rfl) rfl JP rfl (Ao (f := Aa) b37) rfl ?_
          refine AG LO P2 rfl ?_
          refine Be h fun v38 a38 h => Av [] (FP N v6.2.2.2.1 ((AC.mk 1 v37 0 (⟨#[]⟩))) v38 a38) Vw rfl (qm rfl (qx rfl (qx rfl (qa rfl (qa rfl (Ab (wq rfl (qm rfl (AL rfl (Ab ?_))))))))))
          refine A0 h (fun h => ?_) fun h => ?_
          ·refine Aj Az rfl (qm rfl (qe rfl ?_))
           exact sn [(2003, 2001)] h
          ·refine An ?_
           exact sn [(2003, 2001)] h
      ·refine wq rfl (qm rfl ?_)
       refine Be h fun v40 a40 h => Av [2005] (HV N v11.2.2 v40 a40) Ts rfl (qm rfl (qx rfl (qx rfl (qx rfl (qa rfl (qa rfl (qa rfl (Ab (wp rfl (qm rfl (Ba rfl (Ab ?_))))))))))))
       refine A0 h (fun h => ?_) fun h => ?_
       ·refine wq rfl (qe rfl ?_)
        obtain rfl := sj h
        refine Ag (sm [] [(2, bD false)] [] rfl rfl) (Ap ?_)
        exact ⟨⟨[_], tm, rfl⟩, tv⟩
       ·refine An (wq rfl (qa rfl (qa rfl (Ab (wp rfl (qm rfl (Ab ?_)))))))
        refine AS (L := AK N v6 v10 v11) h (fun v42 => mk [(3, oD (.ptr 3 0)), (4, oD (.eptr 2006 1 0 0)), (5, iD ((wI .i64 (v6.2.2.1 + (wI .i64 ((zI v10.fB 8))))))), (6, pD (.val (.string v11.2.2))), (20, oD (.own 2007)), (23, iD v42.1), (24, iD v42.2.1), (38, pD (.sl (p0.map Bn))), (39, iD ((p0.length : Int))), (40, iD v6.2.2.2.2), (160, iD v42.2.2)] [(3, .box (Bh v11.1)), (2006, .vec 1 (v11.2.1.map Aa)), (2007, .vec 4 (v40.1.map Cb))]) (fun v43 => mk [(3, oD (.ptr 3 0)), (4, oD (.eptr 2008 1 0 0)), (5, iD ((wI .i64 (v6.2.2.1 + (wI .i64 ((zI v10.fB 8))))))), (6, pD (.val (.string v11.2.2))), (20, oD (.own 2009)), (23, iD v43.1), (24, iD v43.2), (38, pD (.sl (p0.map Bn))), (39, iD ((p0.length : Int))), (40, iD v6.2.2.2.2)] [(3, .box (Bh v11.1)), (2008, .vec 1 (v11.2.1.map Aa)), (2009, .vec 4 (v40.1.map Cb))]) (fun _ _ => rfl) (sm [(2006, 2003), (2007, 2005)] _ _ rfl rfl) (fun j42 n42 v42 h => ?_) (fun v43 s h hs => ?_)
        ·unfold AK at h
         refine wq rfl (A8 rfl (Ab (AH ?_)))
         refine A0 h (fun h => ?_) fun h => ?_
         ·refine An ?_
          refine AF h (fun v45 => mk [(3, oD (.ptr 3 0)), (4, oD (.eptr 2010 1 0 0)), (5, iD ((wI .i64 (v6.2.2.1 + (wI .i64 ((zI v10.fB 8))))))), (6, pD (.val (.string v11.2.2))), (20, oD (.own 2011)), (23, iD v45.1), (24, iD v45.2), (38, pD (.sl (p0.map Bn))), (39, iD ((p0.length : Int))), (40, iD v6.2.2.2.2), (160, iD v42.2.2)] [(3, .box (Bh v11.1)), (2010, .vec 1 (v11.2.1.map Aa)), (2011, .vec 4 (v40.1.map Cb))]) (fun j45 h => ?_) (fun v45 h => ?_)
          ·refine AI (wq rfl (qm rfl (qe rfl ?_)))
           refine AF h (fun v46 => mk [(3, oD (.ptr 3 0)), (4, oD (.eptr 2012 1 0 0)), (5, iD ((wI .i64 (v6.2.2.1 + (wI .i64 ((zI v10.fB 8))))))), (6, pD (.val (.string v11.2.2))), (20, oD (.own 2013)), (23, iD v46), (24, iD v42.2.1), (25, iD v42.2.2), (38, pD (.sl (p0.map Bn))), (39, iD ((p0.length : Int))), (40, iD v6.2.2.2.2), (160, iD v42.2.2)] [(3, .box (Bh v11.1)), (2012, .vec 1 (v11.2.1.map Aa)), (2013, .vec 4 (v40.1.map Cb))]) (fun j46 h => ?_) (fun v46 h => ?_)
           ·refine wq rfl (qL EW CN rfl (qw 2 rfl ?_))
            refine Ge h fun c47 h => Cn h fun v48 a48 b48 h => DX (.p rfl) rfl rfl rfl Ly OP a48 (Ao (f := Aa) b48) ((zJ ..).trans c47) ?_
            refine Fj (.p rfl) rfl JP rfl (Ao (f := Aa) b48) rfl ?_
            refine qm rfl ?_
            refine Be h fun v49 a49 h => Av [] (M3 N v11.1 v42.2.2 v48 ((wI .i64 (v6.2.2.1 + (wI .i64 ((zI v10.fB 8)))))) 0 v49 a49) VU rfl (AJ (by kernel_rfl) ?_)
            refine A0 h (fun h => ?_) fun h => ?_
            ·refine Aj Az rfl (qm rfl (A6 rfl (qe rfl ?_)))
             exact sn [(2012, 2006), (2013, 2007)] h
            ·refine An ?_
             exact sn [(2012, 2006), (2013, 2007)] h
           ·refine wq rfl (qw 2 rfl ?_)
            refine Ge h fun c51 h => Cn h fun v52 a52 b52 h => DX (.p rfl) rfl rfl rfl Ly OP a52 (Ao (f := Aa) b52) ((zJ ..).trans c51) ?_
            refine Fj (.p rfl) rfl JP rfl (Ao (f := Aa) b52) rfl ?_
            refine AG LO P2 rfl ?_
            refine Be h fun v53 a53 h => Av [] (FP N v11.2.2 ((AC.mk 1 v52 0 (⟨#[]⟩))) v53 a53) Vw rfl (qm rfl (qx rfl (qx rfl (qa rfl (qe rfl ?_)))))
            refine AF h (fun v54 => mk [(3, oD (.ptr 3 0)), (4, oD (.eptr 2014 1 0 0)), (5, iD ((wI .i64 (v6.2.2.1 + (wI .i64 ((zI v10.fB 8))))))), (6, pD (.val (.string v11.2.2))), (20, oD (.own 2015)), (23, iD v46), (24, iD v42.2.1), (38, pD (.sl (p0.map Bn))), (39, iD ((p0.length : Int))), (40, iD v6.2.2.2.2), (160, iD v42.2.2), (188, bD v54)] [(3, .box (Bh v11.1)), (2014, .vec 1 (v11.2.1.map Aa)), (2015, .vec 4 (v40.1.map Cb))]) (fun j54 h => ?_) (fun v54 h => ?_)
            ·refine Aj Az rfl (qm rfl ?_)
             refine Ge h fun c55 h => Cn h fun v56 a56 b56 h => DX (.p rfl) rfl rfl rfl Ly OP a56 (Ao (f := Aa) b56) ((zJ ..).trans c55) ?_
             refine Fj (.p rfl) rfl JP rfl (Ao (f := Aa) b56) rfl ?_
             refine EA rfl (qm rfl ?_)
             refine Dv 185 h rfl (fun h => ?_) fun h => ?_
             ·refine qm rfl (AL rfl (qp rfl (Ab ?_)))
              exact sn [(2014, 2012), (2015, 2013)] h
             ·refine qw 2 rfl (qp rfl (Ab ?_))
              exact sn [(2014, 2012), (2015, 2013)] h
            ·refine A0 h (fun h => ?_) fun h => ?_
             ·refine Aj Az rfl (qm rfl (A6 rfl (qe rfl ?_)))
              exact sn [(2010, 2014), (2011, 2015)] h
             ·refine An ?_
              exact sn [(2010, 2014), (2011, 2015)] h
          ·refine Aj Az rfl (A6 rfl (qm rfl (Ab ?_)))
           exact sn [(2006, 2010), (2007, 2011)] h
         ·refine Bg ?_
          exact sn [(2008, 2006), (2009, 2007)] h
        ·refine Ag hs (AH ?_)
         refine AF h (fun v59 => mk [(3, oD (.ptr 3 0)), (4, oD (.eptr 2016 1 0 0)), (5, iD ((wI .i64 (v6.2.2.1 + (wI .i64 ((zI v10.fB 8))))))), (6, pD (.val (.string v11.2.2))), (20, oD (.own 2017)), (38, pD (.sl (p0.map Bn))), (39, iD ((p0.length : Int))), (40, iD v6.2.2.2.2), (197, bD v59)] [(3, .box (Bh v11.1)), (2016, .vec 1 (v11.2.1.map Aa)), (2017, .vec 4 (v40.1.map Cb))]) (fun j59 h => ?_) (fun v59 h => ?_)
         ·refine Aj Az rfl (qm rfl (EA rfl (qm rfl ?_)))
          refine Dv 194 h rfl (fun h => ?_) fun h => ?_
          ·refine qw 2 rfl (qp rfl (Ab ?_))
           exact sn [(2016, 2008), (2017, 2009)] h
          ·refine qm rfl (EA rfl (qp rfl (Ab ?_)))
           exact sn [(2016, 2008), (2017, 2009)] h
         ·refine A0 h (fun h => ?_) fun h => ?_
          ·refine wq rfl (qe rfl ?_)
           obtain rfl := sj h
           refine Ag (sm [] [(2, bD false)] [] rfl rfl) (Ap ?_)
           exact ⟨⟨[_], tm, rfl⟩, tv⟩
          ·refine An (wq rfl (qe rfl ?_))
           refine AS (L := Bt N v40) h (fun v62 => mk [(3, oD (.ptr 3 0)), (4, oD (.eptr 2018 1 0 0)), (5, iD ((wI .i64 (v6.2.2.1 + (wI .i64 ((zI v10.fB 8))))))), (6, pD (.val (.string v11.2.2))), (20, oD (.own 2019)), (28, iD v62), (38, pD (.sl (p0.map Bn))), (39, iD ((p0.length : Int))), (40, iD v6.2.2.2.2)] [(3, .box (Bh v11.1)), (2018, .vec 1 (v11.2.1.map Aa)), (2019, .vec 4 (v40.1.map Cb))]) (fun v63 => mk [(3, oD (.ptr 3 0)), (4, oD (.eptr 2020 1 0 0)), (5, iD ((wI .i64 (v6.2.2.1 + (wI .i64 ((zI v10.fB 8))))))), (6, pD (.val (.string v11.2.2))), (38, pD (.sl (p0.map Bn))), (39, iD ((p0.length : Int))), (40, iD v6.2.2.2.2)] [(3, .box (Bh v11.1)), (2020, .vec 1 (v11.2.1.map Aa))]) (fun _ _ => rfl) (sm [(2018, 2016), (2019, 2017)] _ _ rfl rfl) (fun j62 n62 v62 h => ?_) (fun v63 s h hs => ?_)
           ·unfold Bt at h
            refine wp rfl (qw 2 rfl (Iv JY rfl (A8 rfl (Ab ?_))))
            refine A0 h (fun h => ?_) fun h => ?_
            ·refine An (AH (AI (wq rfl (qw 2 rfl ?_))))
             refine Cn h fun v65 a65 b65 h => qI JY HU a65 (Ao b65) rfl (qh JI rfl (qj JP (Ao b65) rfl (qw 2 rfl (J5 rfl ?_))))
             refine Cn h fun v66 a66 b66 h => qI JY HU a66 (Ao b66) rfl (qh JI rfl (qj JP (Ao b66) rfl (A8 rfl (AJ (by kernel_rfl) ?_))))
             refine A0 h (fun h => ?_) fun h => ?_
             ·refine wq rfl (qe rfl ?_)
              obtain rfl := sj h
              refine Ag (sm [] [(2, bD false)] [] rfl rfl) (Ap ?_)
              exact ⟨⟨[_], tm, rfl⟩, tv⟩
             ·refine An (Aj Az rfl (qm rfl (A6 rfl (qe rfl ?_))))
              exact sn [] h
            ·refine Bg ?_
             exact sn [(2020, 2018)] h
           ·exact Rs _ h (hs.trans (sm [(2002, 2020)] _ _ rfl rfl))
     ·refine Aj Az rfl (A6 rfl (qm rfl (Ab ?_)))
      exact sn [(2001, 2002)] h
    ·refine Bg ?_
     exact sn [] h
   ·refine Ag hs (wq rfl (qe rfl ?_))
    obtain rfl := sj h
    refine Ag (sm [] [(2, bD true)] [] rfl rfl) (Ap ?_)
    exact ⟨⟨[_], tm, rfl⟩, tv⟩
end Go.Lift
