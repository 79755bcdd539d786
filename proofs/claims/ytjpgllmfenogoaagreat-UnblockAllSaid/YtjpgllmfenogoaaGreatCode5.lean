/- Lemmas for UnblockAllSaid, which YtjpgllmfenogoaaGreatFinU8 proves. -/
import Derived.Test.YtjpgllmfenogoaaGreatCode3
open List renaming length_map → zI, map_eq_nil_iff → uY, replicate → zD
open Nat renaming zero_add → zC
open Go.Proofs.Tryz renaming prog → zA
namespace Go.Lift
open IntKind renaming wrap → wI
set_option maxRecDepth 10000
open Go.RowKit
open Go.Proofs
theorem OI (N : Nat) (p0 : Af) (p1 : List Int) (p2 : List Int) (p3 : List Int) (p4 : List Ao) (p5 : List Int) (p6 : List Int) (p7 : List Int) (r : Bool) (h : D8 N p0 p1 p2 p3 p4 p5 p6 p7 = some r) : Ar zA 127 [.e (.agg (DL p0)), oD (.rop [.sl (p1.map Aq), .sl (p2.map Aq), .sl (p3.map Aq), .sl (p4.map AJ)]), oD (.rop [.sl (p5.map Aq), .sl (p6.map Aq), .sl (p7.map El)])] [] (bD r) := by
 unfold D8 at h
 refine cw (n := 16) (rs := [.tmp 4]) Tryz.func127 fun w0 S0 => ?_
 refine wq rfl (qb rfl (qa rfl (Ad (wq rfl (qK CD BT rfl (qK B7 A2 rfl (qL Hu Dg rfl ?_)))))))
 refine B1 h fun v1 a1 h => AA [2001, 2002, 2003] (On N ((Ab.mk p1 p2 p3 p4)) ((Ae.mk p5 p6 p7)) p0 v1 a1) bd rfl (qm rfl (qx rfl (qx rfl (qz Fm rfl (qs A2 rfl (qa rfl (Ad (wq rfl (qm rfl (CQ rfl (qe rfl ?_)))))))))))
 obtain rfl := sj h
 refine Ag (sm [] [(4, bD ((!v1.2)))] [] rfl rfl) (Au ?_)
 exact ⟨⟨[_], tm, rfl⟩, tv⟩
theorem HN (N : Nat) (p0 : List Af) (p1 : Af → Option Bool) (r : Int) (h : BW N p0 p1 = some r) : Ar zA 147 [pD (.sl (p0.map AD)), oD (.clo (JV (PC true AD) tB p1))] [] (iD r) := by
 unfold BW at h
 refine cw (n := 19) (rs := [.tmp 4]) Tryz.func147 fun w0 S0 => ?_
 refine wq rfl (qa rfl (Ad (wp rfl (qm rfl (AM Fr rfl (qm rfl (Ad ?_)))))))
 refine AE (L := A6 N p0 p1) h (fun v1 => mk [(0, pD (.sl (p0.map AD))), (1, oD (.clo (JV (PC true AD) tB p1))), (7, iD ((p0.length : Int))), (8, iD v1)] []) (fun v2 => mk [] []) (fun _ _ => rfl) (sm [] _ _ rfl rfl) (fun j1 n1 v1 h => ?_) (fun v2 s h hs => ?_)
 ·unfold A6 at h
  refine wq rfl (AW rfl (Ad (AP ?_)))
  refine Bd h (fun h => ?_) fun h => ?_
  ·refine Am (AP (AK (wq rfl (qm rfl (qa rfl (Ad (wq rfl (qw 3 rfl ?_))))))))
   refine BB h fun v4 a4 b4 h => qi Fr Dg a4 (Ah b4) rfl (qK Hu Dg rfl ?_)
   refine B1 h fun v5 a5 h => NU (ds0 := [_]) (ar := (PC true AD) v4) (.p rfl) rfl rfl ⟨rfl, tv⟩ rfl rfl rfl (MB (NI _ _ Qa) a5) ?_
   refine Ad ?_
   refine Bd h (fun h => ?_) fun h => ?_
   ·refine wq rfl (qm rfl (qe rfl ?_))
    obtain rfl := sj h
    refine Ag (sm [] [(4, iD v1)] [] rfl rfl) (Au ?_)
    exact ⟨⟨[_], tm, rfl⟩, tv⟩
   ·refine Am (Ak Ax rfl (AZ rfl (qm rfl (Ad ?_))))
    exact sn [] h
  ·refine AS ?_
   exact sn [] h
 ·refine Ag hs (wq rfl (qe rfl ?_))
  obtain rfl := sj h
  refine Ag (sm [] [(4, iD ((-1)))] [] rfl rfl) (Au ?_)
  exact ⟨⟨[_], tm, rfl⟩, tv⟩
theorem HH (N : Nat) (p0 : List Af) (p1 : Af → Option Bool) (r : Nat × (List Af)) (h : BR N p0 p1 = some r) : DV zA 125 [oD (.own 90000), oD (.clo (JV (PC true AD) tB p1))] [(.vec 3 (p0.map AD), .vec 3 (r.2.map AD))] [] (oD (.view 90000 3 0 r.1)) := by
 unfold BR at h
 refine FF (n := 42) (rs := [.tmp 4]) Tryz.func125 rfl rfl rfl (Hy rfl) (Hy rfl) rfl rfl (Hy rfl) rfl (Hy rfl) fun w0 S0 GL => ?_
 refine Ag (sm [] [(0, oD (.own 90000)), (1, oD (.clo (JV (PC true AD) tB p1)))] [(90000, .vec 3 (p0.map AD))] rfl rfl) (wq rfl (qa rfl (Ad (wq rfl (qw 2 rfl ?_)))))
 refine B1 h fun v1 a1 h => DU [] [90000] (HN N p0 p1 v1 a1) dQ B9 rfl (qa rfl (Ad (wp rfl (qm rfl (B5 rfl (Ad ?_))))))
 refine Bd h (fun h => ?_) fun h => ?_
 ·refine wq rfl (qm rfl (qe rfl ?_))
  obtain rfl := sj h
  refine Ag ((PM AD p0 4 90000 3 rfl rfl).trans (sm [] [(4, oD (.view 90000 3 0 p0.length))] [(90000, .vec 3 (p0.map AD))] rfl rfl)) (Au ?_)
  exact ⟨⟨[_], tm, rfl⟩, ⟨rfl, tv⟩, tv⟩
 ·refine Am (wp rfl (qm rfl (AZ rfl (qe rfl ?_))))
  refine AE (L := AY N p1) h (fun v3 => mk [(0, oD (.own 90000)), (1, oD (.clo (JV (PC true AD) tB p1))), (5, iD v3.2.1), (6, iD v3.2.2)] [(90000, .vec 3 (v3.1.map AD))]) (fun v4 => mk [(0, oD (.own 90000)), (5, iD v4.2)] [(90000, .vec 3 (v4.1.map AD))]) (fun _ _ => rfl) (sm [] _ _ rfl rfl) (fun j3 n3 v3 h => ?_) (fun v4 s h hs => ?_)
  ·unfold AY at h
   refine wp rfl (qw 2 rfl (C3 Fr rfl (AW rfl (Ad ?_))))
   refine Bd h (fun h => ?_) fun h => ?_
   ·refine Am ?_
    refine AT h (fun v6 => mk [(0, oD (.own 90000)), (1, oD (.clo (JV (PC true AD) tB p1))), (5, iD v6.2), (6, iD v3.2.2)] [(90000, .vec 3 (v6.1.map AD))]) (fun j6 h => ?_) (fun v6 h => ?_)
    ·refine AK (wq rfl (qw 2 rfl ?_))
     refine BB h fun v7 a7 b7 h => qI Fr Dg a7 (Ah b7) rfl (qJ Hu Dg (Ah b7) rfl (qz In rfl (qs Dg rfl (Ad (wq rfl (qm rfl (qL Hu Dg rfl ?_)))))))
     refine B1 h fun v8 a8 h => NU (ds0 := [_]) (ar := (PC true AD) v7) (.p rfl) rfl rfl ⟨rfl, tv⟩ rfl rfl rfl (MB (NI _ _ Qa) a8) ?_
     refine CQ rfl (Ad ?_)
     refine Bd h (fun h => ?_) fun h => ?_
     ·refine wq rfl (qw 2 rfl (qL Hu Dg rfl ?_))
      refine BB h fun v10 a10 b10 h => qI Fr Dg a10 (Ah b10) rfl ?_
      refine Eg rfl rfl rfl rfl (Ah b10) rfl Dg rfl (Hy rfl) (Dh AD v3.1 _ v7) ?_
      refine Ad (Ak Ax rfl (qm rfl (AZ rfl (qe rfl ?_))))
      exact sn [] h
     ·refine Am ?_
      exact sn [] h
    ·refine Ak Ax rfl (qm rfl (AZ rfl (qe rfl ?_)))
     exact sn [] h
   ·refine AS ?_
    exact sn [] h
  ·refine Ag hs (wq rfl (qw 2 rfl ?_))
   obtain ⟨c11, h⟩ := Fg h
   have w12 : ((v4.2).toNat) + ((v4.1.length - (v4.2).toNat)) ≤ v4.1.length := by have := c11.2.1; have := c11.2.2; omega
   refine HF AD v4.1 (.p rfl) rfl (Hz AD _ _ v4.1) rfl Fr Dg (.some _ _ _ _ c11.1) (.none _) ⟨rfl, tv⟩ tv c11.2.1 (by rw [zC]; exact c11.2.2) (zC _) rfl ?_
   have w13 : (GZ v4.1 ((v4.2).toNat) (zD ((v4.1.length - (v4.2).toNat)) ((Af.mk 0 0 0)))).length = v4.1.length := H7 (by rw [List.length_replicate]; exact w12)
   refine Qm AD v4.1 ((Af.mk 0 0 0)) rfl rfl (JO AD _ _ ((v4.2).toNat) ((v4.1.length - (v4.2).toNat)) v4.1 w12) rfl Fr In rfl rfl rfl rfl ?_
   refine Ad (wq rfl (qw 2 rfl ?_))
   obtain ⟨c14, h⟩ := Fg h
   have w15 : 0 + ((v4.2).toNat) ≤ (GZ v4.1 ((v4.2).toNat) (zD ((v4.1.length - (v4.2).toNat)) ((Af.mk 0 0 0)))).length := by have := c14.2.1; have := c14.2.2; omega
   refine HF AD (GZ v4.1 ((v4.2).toNat) (zD ((v4.1.length - (v4.2).toNat)) ((Af.mk 0 0 0)))) (.p rfl) rfl (Hz AD _ _ (GZ v4.1 ((v4.2).toNat) (zD ((v4.1.length - (v4.2).toNat)) ((Af.mk 0 0 0))))) rfl Fr Dg (.none _) (.some _ _ _ _ c14.1) tv ⟨rfl, tv⟩ c14.2.1 (by rw [zC]; exact c14.2.2) (zC _) rfl ?_
   refine qa rfl (Ad ?_)
   obtain rfl := sj h
   refine Ag (sm [] [(4, oD (.view 90000 3 0 ((v4.2).toNat)))] [(90000, .vec 3 ((GZ v4.1 ((v4.2).toNat) (zD ((v4.1.length - (v4.2).toNat)) ((Af.mk 0 0 0)))).map AD))] rfl rfl) (Au ?_)
   exact ⟨⟨[_], tm, rfl⟩, ⟨rfl, tv⟩, tv⟩
theorem Q2 (N : Nat) (p0 : Ab) (p1 : Ae) (r : (List Af) × Int) (h : Ha N p0 p1 = some r) : Ar zA 89 [.e (.agg (Ai p0)), .e (.agg (AL p1))] [(3, r.1.map AD)] (.tup [.one (.own 0), .one (iC r.2)]) := by
 unfold Ha at h
 refine cw (n := 17) (rs := [.tmp 4, .tmp 5]) Tryz.func89 fun w0 S0 => ?_
 refine wq rfl (qb rfl (qb rfl (qa rfl (qa rfl (Ad (wp rfl (qL CD BT rfl (qL B7 A2 rfl ?_))))))))
 refine B1 h fun v1 a1 h => AA [] (KE N p0 p1 v1 a1) ao rfl (qa rfl (Ad (wq rfl (qm rfl (BF rfl (Ad ?_))))))
 refine Bd h (fun h => ?_) fun h => ?_
 ·refine wq rfl (qm rfl (qa rfl (qe rfl ?_)))
  obtain rfl := sj h
  refine Ag ((AU 4 2001 3 rfl rfl rfl).trans (sm [(1000, 2001)] [(4, oD (.own 1000)), (5, iD v1)] [(1000, .vec 3 ((([] : List Af)).map AD))] rfl rfl)) (Au ?_)
  exact ⟨⟨[_, _], ⟨.tmp _ _ rfl, tm⟩, rfl⟩, ⟨rfl, tv⟩⟩
 ·refine Am (wq rfl (qL CD BT rfl ?_))
  refine B1 h fun v3 a3 h => AA [2002] (Vz N p0 v3 a3) d8 rfl (Et (NG 2 [.sl (p0.f9.map Aq), .sl (p0.gf.map Aq), .sl (p0.gj.map Aq), .sl (p0.ga.map AJ)] rfl rfl) (Et (NG 3 [.sl (p1.gb.map Aq), .sl (p1.f7.map Aq), .sl (p1.gc.map El)] rfl rfl) ?_))
  refine Ni (capD := [_, _]) (JV (PC true AD) tB ((fun (x : Af) => D8 N x p0.f9 p0.gf p0.gj p0.ga p1.gb p1.f7 p1.gc))) (.p rfl) dz rfl ⟨rfl, rfl, tv⟩ rfl (fun ar t ht => by obtain ⟨x, r, rfl, hq, rfl⟩ := JQ ht; exact OI N x p0.f9 p0.gf p0.gj p0.ga p1.gb p1.f7 p1.gc r hq) ?_
  obtain ⟨v4, a4, h⟩ := bind_some h
  obtain ⟨c5, h⟩ := Fg h
  have w6 : 0 + v4.1 ≤ v4.2.length := by rw [zC]; exact c5
  refine IJ (ds0 := [_, _]) [2002] [] [true] (HH N v3 ((fun (x : Af) => D8 N x p0.f9 p0.gf p0.gj p0.ga p1.gb p1.f7 p1.gc)) v4 a4) (.p rfl) dK rfl ⟨rfl, rfl, tv⟩ rfl rfl (by decide) ⟨rfl, tv⟩ rfl (EA rfl) tv ⟨(fun h => by cases h), tv⟩ rfl rfl rfl ?_
  refine Et (VH AD v4.2 16 2002 2003 3 v4.1 rfl rfl rfl rfl rfl c5) (qa rfl (qe rfl ?_))
  obtain rfl := sj h
  refine Ag (sm [(1000, 2003)] [(4, oD (.own 1000)), (5, iD 0)] [(1000, .vec 3 ((v4.2.take v4.1).map AD))] rfl rfl) (Au ?_)
  exact ⟨⟨[_, _], ⟨.tmp _ _ rfl, tm⟩, rfl⟩, ⟨rfl, tv⟩⟩
theorem SR (N : Nat) (p0 : Af) (r : Bool) (h : HS N p0 = some r) : Ar zA 151 [.e (.agg (DL p0))] [] (bD r) := by
 unfold HS at h
 refine cw (n := 27) (rs := [.tmp 2]) Tryz.func151 fun w0 S0 => ?_
 refine wq rfl (qb rfl (qa rfl (Ad (AP ?_))))
 refine AT h (fun v1 => mk [(1, oD (.ptr 1 0)), (18, bD v1)] [(1, .box (DL p0))]) (fun j1 h => ?_) (fun v1 h => ?_)
 ·refine Ak Ax rfl (qf Fh rfl (ql Cr rfl (qf G9 rfl (ql Cr rfl ?_))))
  refine eD (.p rfl) rfl rfl ?_
  refine AW rfl (qm rfl ?_)
  refine EU 9 h rfl (fun h => ?_) fun h => ?_
  ·refine qw 3 rfl (qp rfl (qw 4 rfl (qp rfl (Ad ?_))))
   exact sn [] h
  ·refine qf Gb rfl (ql Cr rfl (AW rfl (qp rfl (qm rfl ?_))))
   refine EU 14 h rfl (fun h => ?_) fun h => ?_
   ·refine qw 3 rfl (qp rfl (Ad ?_))
    exact sn [] h
   ·refine qf Gb rfl (ql Cr rfl (GE rfl (qp rfl (Ad ?_))))
    exact sn [] h
 ·refine Bd h (fun h => ?_) fun h => ?_
  ·refine wq rfl (qe rfl ?_)
   obtain rfl := sj h
   refine Ag (sm [] [(2, bD false)] [] rfl rfl) (Au ?_)
   exact ⟨⟨[_], tm, rfl⟩, tv⟩
  ·refine Am ?_
   refine AT h (fun v5 => mk [(2, bD v5)] []) (fun j5 h => ?_) (fun v5 h => ?_)
   ·refine Ak Ax rfl (qf Gb rfl (ql Cr rfl (B5 rfl (qm rfl ?_))))
    refine EU 22 h rfl (fun h => ?_) fun h => ?_
    ·refine qw 3 rfl (qp rfl (qe rfl ?_))
     exact sn [] h
    ·refine qf G9 rfl (ql Cr rfl (B5 rfl (qp rfl (qe rfl ?_))))
     exact sn [] h
   ·obtain rfl := sj h
    refine Ag (sm [] [(2, bD v5)] [] rfl rfl) (Au ?_)
    exact ⟨⟨[_], tm, rfl⟩, tv⟩
theorem Ra (N : Nat) (p0 : Ab) (p1 : Af) (r : Bool) (h : HD N p0 p1 = some r) : Ar zA 152 [.e (.agg (Ai p0)), .e (.agg (DL p1))] [] (bD r) := by
 unfold HD at h
 refine cw (n := 36) (rs := [.tmp 4]) Tryz.func152 fun w0 S0 => ?_
 refine wq rfl (qb rfl (qb rfl (qa rfl (Ad (wp rfl (qf Gb rfl (ql Cr rfl (B5 rfl (Ad ?_)))))))))
 refine Bd h (fun h => ?_) fun h => ?_
 ·refine wq rfl (qf Fh rfl (ql Cr rfl (qf Bx rfl (ql Gm rfl (AM CR rfl (AW rfl (qe rfl ?_)))))))
  obtain rfl := sj h
  refine Ag (sm [] [(4, bD ((decide (p1.gg < (p0.ga.length : Int)))))] [] rfl rfl) (Au ?_)
  exact ⟨⟨[_], tm, rfl⟩, tv⟩
 ·refine Am ?_
  refine AT h (fun v2 => mk [(4, bD v2)] []) (fun j2 h => ?_) (fun v2 h => ?_)
  ·refine Ak Ax rfl (qf Fh rfl (ql Cr rfl (qf Bu rfl (ql Bb rfl (AM AC rfl (AW rfl (qm rfl ?_)))))))
   refine EU 20 h rfl (fun h => ?_) fun h => ?_
   ·refine qf Gb rfl (ql Cr rfl (BF rfl (qm rfl ?_)))
    refine EU 24 h rfl (fun h => ?_) fun h => ?_
    ·refine qw 9 rfl (qp rfl (qp rfl (qa rfl (AQ (by kernel_rfl) ?_))))
     exact sn [] h
    ·refine qf G9 rfl (ql Cr rfl (qf Bu rfl (ql Bb rfl (qf Fh rfl (ql Cr rfl ?_)))))
     refine BB h fun v5 a5 b5 h => qi AC DR a5 (Ah b5) rfl (qk Cr rfl (AW rfl (qp rfl (qp rfl (qa rfl (AQ (by kernel_rfl) ?_))))))
     exact sn [] h
   ·refine qw 4 rfl (qu rfl (qu rfl (qu rfl (qu rfl (qu rfl (qu rfl (qu rfl (qu rfl (qu rfl (qn rfl (qp rfl (qa rfl (AQ (by kernel_rfl) ?_)))))))))))))
    exact sn [] h
  ·obtain rfl := sj h
   refine Ag (sm [] [(4, bD v2)] [] rfl rfl) (Au ?_)
   exact ⟨⟨[_], tm, rfl⟩, tv⟩
theorem Tc (N : Nat) (p0 : Ab) (p1 : Ae) (p2 : Af) (r : Ae × Int) (h : H1 N p0 p1 p2 = some r) : Ar zA 129 [.e (.agg (Ai p0)), .e (.agg (AL p1)), .e (.agg (DL p2))] [(1, r.1.gb.map Aq), (1, r.1.f7.map Aq), (1, r.1.gc.map El)] (.tup [.agg [.own 0, .own 1, .own 2], .one (iC r.2)]) := by
 unfold H1 at h
 refine cw (n := 32) (rs := [.cell 6 64, .tmp 7]) Tryz.func129 fun w0 S0 => ?_
 refine wq rfl (qb rfl (qb rfl (qb rfl (qz Fm rfl (qa rfl (Ad (AP (AK (wq rfl (qL Hu Dg rfl ?_))))))))))
 refine B1 h fun v1 a1 h => AA [] (SR N p2 v1 a1) ex rfl (CQ rfl (qe rfl ?_))
 refine Bd h (fun h => ?_) fun h => ?_
 ·refine wq rfl (Bm Fm JH rfl (qs A2 rfl (qe rfl ?_)))
  obtain rfl := sj h
  refine Ag ((Az 6 0 2001 1 _ rfl rfl rfl rfl).trans ((Az 6 1 2002 1 _ rfl rfl rfl rfl).trans ((Az 6 2 2003 1 _ rfl rfl rfl rfl).trans (sm [(1000, 2001), (1001, 2002), (1002, 2003)] [(6, oD (.ptr 6 0)), (7, iD 1)] [(6, .box [.own 1000, .own 1001, .own 1002]), (1000, .vec 1 ((([] : List Int)).map Aq)), (1001, .vec 1 ((([] : List Int)).map Aq)), (1002, .vec 1 ((([] : List Int)).map El))] rfl rfl)))) (Au ?_)
  exact ⟨⟨[_, _], ⟨.cellN _ _ _ _ _ _ _ rfl rfl B7 A2 rfl rfl (Km rfl), tm⟩, rfl⟩, ⟨rfl, rfl, rfl, tv⟩⟩
 ·refine wq rfl (qL CD BT rfl (qL Hu Dg rfl ?_))
  refine B1 h fun v3 a3 h => AA [] (Ra N p0 p2 v3 a3) ez rfl (CQ rfl (qe rfl ?_))
  refine Bd h (fun h => ?_) fun h => ?_
  ·refine wq rfl (Bm Fm JH rfl (qs A2 rfl (qe rfl ?_)))
   obtain rfl := sj h
   refine Ag ((Az 6 0 2004 1 _ rfl rfl rfl rfl).trans ((Az 6 1 2005 1 _ rfl rfl rfl rfl).trans ((Az 6 2 2006 1 _ rfl rfl rfl rfl).trans (sm [(1000, 2004), (1001, 2005), (1002, 2006)] [(6, oD (.ptr 6 0)), (7, iD 4)] [(6, .box [.own 1000, .own 1001, .own 1002]), (1000, .vec 1 ((([] : List Int)).map Aq)), (1001, .vec 1 ((([] : List Int)).map Aq)), (1002, .vec 1 ((([] : List Int)).map El))] rfl rfl)))) (Au ?_)
   exact ⟨⟨[_, _], ⟨.cellN _ _ _ _ _ _ _ rfl rfl B7 A2 rfl rfl (Km rfl), tm⟩, rfl⟩, ⟨rfl, rfl, rfl, tv⟩⟩
  ·refine Am (wq rfl (qL CD BT rfl (qL B7 A2 rfl (qL Hu Dg rfl ?_))))
   refine B1 h fun v5 a5 h => AA [2007, 2008, 2009] (On N p0 p1 p2 v5 a5) bd rfl (qm rfl (qx rfl (qx rfl (qz Fm rfl (qs A2 rfl (qa rfl (Ad (wp rfl (qm rfl (CQ rfl (Ad ?_)))))))))))
   refine Bd h (fun h => ?_) fun h => ?_
   ·refine wq rfl (Bm Fm JH rfl (qs A2 rfl (qe rfl ?_)))
    obtain rfl := sj h
    refine Ag ((Az 6 0 2010 1 _ rfl rfl rfl rfl).trans ((Az 6 1 2011 1 _ rfl rfl rfl rfl).trans ((Az 6 2 2012 1 _ rfl rfl rfl rfl).trans (sm [(1000, 2010), (1001, 2011), (1002, 2012)] [(6, oD (.ptr 6 0)), (7, iD 11)] [(6, .box [.own 1000, .own 1001, .own 1002]), (1000, .vec 1 ((([] : List Int)).map Aq)), (1001, .vec 1 ((([] : List Int)).map Aq)), (1002, .vec 1 ((([] : List Int)).map El))] rfl rfl)))) (Au ?_)
    exact ⟨⟨[_, _], ⟨.cellN _ _ _ _ _ _ _ rfl rfl B7 A2 rfl rfl (Km rfl), tm⟩, rfl⟩, ⟨rfl, rfl, rfl, tv⟩⟩
   ·refine Am (wq rfl (qL B7 A2 rfl (qs A2 rfl (qe rfl ?_))))
    obtain rfl := sj h
    refine Ag (sm [(1000, 2007), (1001, 2008), (1002, 2009)] [(6, oD (.ptr 6 0)), (7, iD 0)] [(6, .box [.own 1000, .own 1001, .own 1002]), (1000, .vec 1 (v5.1.gb.map Aq)), (1001, .vec 1 (v5.1.f7.map Aq)), (1002, .vec 1 (v5.1.gc.map El))] rfl rfl) (Au ?_)
    exact ⟨⟨[_, _], ⟨.cellN _ _ _ _ _ _ _ rfl rfl B7 A2 rfl rfl (Km rfl), tm⟩, rfl⟩, ⟨rfl, rfl, rfl, tv⟩⟩
theorem S6 (N : Nat) (p0 : Ab) (p1 : Ae) (p2 : Af) (r : Ae × Int) (h : H2 N p0 p1 p2 = some r) : Ar zA 90 [.e (.agg (Ai p0)), .e (.agg (AL p1)), .e (.agg (DL p2))] [(1, r.1.gb.map Aq), (1, r.1.f7.map Aq), (1, r.1.gc.map El)] (.tup [.agg [.own 0, .own 1, .own 2], .one (iC r.2)]) := by
 unfold H2 at h
 refine cw (n := 22) (rs := [.cell 6 64, .tmp 7]) Tryz.func90 fun w0 S0 => ?_
 refine wq rfl (qb rfl (qb rfl (qb rfl (qz Fm rfl (qa rfl (Ad (wp rfl (qL CD BT rfl (qL B7 A2 rfl ?_)))))))))
 refine B1 h fun v1 a1 h => AA [] (KE N p0 p1 v1 a1) ao rfl (qa rfl (Ad (wq rfl (qm rfl (BF rfl (Ad ?_))))))
 refine Bd h (fun h => ?_) fun h => ?_
 ·refine wq rfl (Bm Fm JH rfl (qm rfl (qs A2 rfl (qe rfl ?_))))
  obtain rfl := sj h
  refine Ag ((Az 6 0 2001 1 _ rfl rfl rfl rfl).trans ((Az 6 1 2002 1 _ rfl rfl rfl rfl).trans ((Az 6 2 2003 1 _ rfl rfl rfl rfl).trans (sm [(1000, 2001), (1001, 2002), (1002, 2003)] [(6, oD (.ptr 6 0)), (7, iD v1)] [(6, .box [.own 1000, .own 1001, .own 1002]), (1000, .vec 1 ((([] : List Int)).map Aq)), (1001, .vec 1 ((([] : List Int)).map Aq)), (1002, .vec 1 ((([] : List Int)).map El))] rfl rfl)))) (Au ?_)
  exact ⟨⟨[_, _], ⟨.cellN _ _ _ _ _ _ _ rfl rfl B7 A2 rfl rfl (Km rfl), tm⟩, rfl⟩, ⟨rfl, rfl, rfl, tv⟩⟩
 ·refine Am (wq rfl (qL CD BT rfl (qL B7 A2 rfl (qL Hu Dg rfl ?_))))
  refine B1 h fun v3 a3 h => AA [2004, 2005, 2006] (Tc N p0 p1 p2 v3 a3) d4 rfl (qx rfl (qx rfl (qs A2 rfl (qe rfl ?_))))
  obtain rfl := sj h
  refine Ag (sm [(1000, 2004), (1001, 2005), (1002, 2006)] [(6, oD (.ptr 6 0)), (7, iD v3.2)] [(6, .box [.own 1000, .own 1001, .own 1002]), (1000, .vec 1 (v3.1.gb.map Aq)), (1001, .vec 1 (v3.1.f7.map Aq)), (1002, .vec 1 (v3.1.gc.map El))] rfl rfl) (Au ?_)
  exact ⟨⟨[_, _], ⟨.cellN _ _ _ _ _ _ _ rfl rfl B7 A2 rfl rfl (Km rfl), tm⟩, rfl⟩, ⟨rfl, rfl, rfl, tv⟩⟩
theorem Q7 (N : Nat) (p0 : Ab) (p1 : Ae) (r : (List AG) × Int) (h : HA N p0 p1 = some r) : Ar zA 64 [.e (.agg (Ai p0)), .e (.agg (AL p1))] [] (.tup [.one (sC (r.1.map Bk)), .one (iC r.2)]) := by
 unfold HA at h
 refine cw (n := 119) (rs := [.tmp 4, .tmp 5]) Tryz.func64 fun w0 S0 => ?_
 refine wq rfl (qb rfl (qb rfl (qa rfl (qa rfl (Ad (wq rfl (qL B7 A2 rfl (Bm Uc aY rfl ?_))))))))
 refine M4 [(0, .tmp 21, _)] (.p rfl) rfl ⟨rfl, tv⟩ rfl Jv LC Uc rfl rfl (Hy rfl) rfl rfl ?_
 refine Et (Ij 22 8 [.s, .s, .s, .s, .s, .s, .s, .x 1 []] _ ((([(AG.mk p1 ((-1)) ((Af.mk 0 0 0)) (([] : List Int)))] : List AG)).map Bk) rfl rfl) (qa rfl (Ad (wq rfl ?_)))
 refine Xk (.p rfl) rfl ?_
 refine qL B7 A2 rfl ?_
 refine B1 h fun v1 a1 h => AA [] (Qc N p1 v1 a1) dB rfl ?_
 refine TG (kv := Value.string) (vt := QU) (m := ([] : List (ByteArray × Int))) (k := v1) (v := 0) rfl (.inr rfl) rfl rfl rfl rfl (OX Tu bU) rfl ?_
 refine qm rfl (qa rfl (Ad (wp rfl (qe rfl ?_))))
 refine AE (L := Ea N p0) h (fun v2 => mk [(2, oD (.ptr 2 0)), (6, oD (.own 2001)), (7, oD (.mref 2002)), (8, iD v2.2.2)] [(2, .box (Ai p0)), (2001, .dvec 8 [.s, .s, .s, .s, .s, .s, .s, .x 1 []] (v2.1.map Bk)), (2002, .mp (JU Value.string QU v2.2.1))]) (fun v3 => mk [(6, oD (.own 2003))] [(2003, .dvec 8 [.s, .s, .s, .s, .s, .s, .s, .x 1 []] (v3.map Bk))]) (fun _ _ => rfl) (sm [(2001, 22), (2002, 23)] _ _ rfl rfl) (fun j2 n2 v2 h => ?_) (fun v3 s h hs => ?_)
 ·unfold Ea at h
  refine wp rfl (qw 2 rfl ?_)
  refine VR (.p rfl) rfl rfl (MA Bk v2.1 _ _) Jv ?_
  refine AW rfl (Ad ?_)
  refine Bd h (fun h => ?_) fun h => ?_
  ·refine Am (AP (AK (wq rfl (qL CD BT rfl (qw 2 rfl ?_)))))
   refine BB h fun v5 a5 b5 h => HR (.p rfl) rfl rfl rfl (MA Bk v2.1 _ _) Jv LC a5 (Aw b5) ?_
   refine qh P8 rfl ?_
   refine Ud (.p rfl) rfl B7 A2 rfl (Ah b5) rfl rfl (by decide) rfl ?_
   refine B1 h fun v6 a6 h => AA [2004] (Q2 N p0 ((Ae.mk v5.gq.gb v5.gq.f7 v5.gq.gc)) v6 a6) fE rfl (qm rfl (qx rfl (qx rfl (qa rfl (qa rfl (AQ (by kernel_rfl) (wp rfl (qm rfl (BF rfl (Ad ?_))))))))))
   refine Bd h (fun h => ?_) fun h => ?_
   ·refine wq rfl (qm rfl (qa rfl (qe rfl ?_)))
    obtain rfl := sj h
    refine Ag ((N3 4 _ rfl).trans (sm [] [(4, pD (.sl ((([] : List AG)).map Bk))), (5, iD v6.2)] [] rfl rfl)) (Au ?_)
    exact ⟨⟨[_, _], ⟨.tmp _ _ rfl, tm⟩, rfl⟩, tv⟩
   ·refine Am (wq rfl (qm rfl (C3 Fr rfl (qm rfl (Ad ?_)))))
    refine AE (L := CI N p0 v2 v6) h (fun v8 => mk [(2, oD (.ptr 2 0)), (6, oD (.own 2005)), (7, oD (.mref 2006)), (8, iD v2.2.2), (46, oD (.own 2007)), (47, iD ((v6.1.length : Int))), (48, iD v8.2.2)] [(2, .box (Ai p0)), (2005, .dvec 8 [.s, .s, .s, .s, .s, .s, .s, .x 1 []] (v8.1.map Bk)), (2006, .mp (JU Value.string QU v8.2.1)), (2007, .vec 3 (v6.1.map AD))]) (fun v9 => mk [(2, oD (.ptr 2 0)), (6, oD (.own 2008)), (7, oD (.mref 2009)), (8, iD v2.2.2)] [(2, .box (Ai p0)), (2008, .dvec 8 [.s, .s, .s, .s, .s, .s, .s, .x 1 []] (v9.1.map Bk)), (2009, .mp (JU Value.string QU v9.2))]) (fun _ _ => rfl) (sm [(2005, 2001), (2006, 2002), (2007, 2004)] _ _ rfl rfl) (fun j8 n8 v8 h => ?_) (fun v9 s h hs => ?_)
    ·unfold CI at h
     refine wq rfl (AW rfl (Ad (AP ?_)))
     refine Bd h (fun h => ?_) fun h => ?_
     ·refine Am (AP (AK (wq rfl ?_)))
      refine BB h fun v11 a11 b11 h => qI Fr Dg a11 (Ah b11) rfl (qJ Hu Dg (Ah b11) rfl (qz In rfl (qs Dg rfl (Ad (wq rfl (qL CD BT rfl (qw 2 rfl ?_)))))))
      refine BB h fun v12 a12 b12 h => HR (.p rfl) rfl rfl rfl (MA Bk v8.1 _ _) Jv LC a12 (Aw b12) ?_
      refine qh P8 rfl ?_
      refine Ud (.p rfl) rfl B7 A2 rfl (Ah b12) rfl rfl (by decide) rfl ?_
      refine qL Hu Dg rfl ?_
      refine B1 h fun v13 a13 h => AA [2010, 2011, 2012] (S6 N p0 ((Ae.mk v12.gq.gb v12.gq.f7 v12.gq.gc)) v11 v13 a13) fC rfl (qm rfl (qx rfl (qx rfl (qz Fm rfl (qs A2 rfl (qa rfl (AQ (by kernel_rfl) (wp rfl (qm rfl (BF rfl (Ad ?_)))))))))))
      refine Bd h (fun h => ?_) fun h => ?_
      ·refine wq rfl (qm rfl (qa rfl (qe rfl ?_)))
       obtain rfl := sj h
       refine Ag ((N3 4 _ rfl).trans (sm [] [(4, pD (.sl ((([] : List AG)).map Bk))), (5, iD v13.2)] [] rfl rfl)) (Au ?_)
       exact ⟨⟨[_, _], ⟨.tmp _ _ rfl, tm⟩, rfl⟩, tv⟩
      ·refine Am (wq rfl (qL B7 A2 rfl ?_))
       refine B1 h fun v15 a15 h => DU [] [2010, 2011, 2012] (Qc N v13.1 v15 a15) dB B9 rfl (qa rfl (Ad (wq rfl (qw 2 rfl ?_))))
       refine YE (kv := Value.string) (vt := QU) (m := v8.2.1) (dv := 0) (.p rfl) rfl rfl rfl (OX Tu bU) (by rw [Tu]; rfl) Lf rfl rfl rfl ?_
       refine qm rfl (qx rfl (qx rfl (qa rfl (qe rfl ?_))))
       refine AT h (fun v16 => mk [(2, oD (.ptr 2 0)), (6, oD (.own 2013)), (7, oD (.mref 2014)), (8, iD v2.2.2), (16, iD v16.2.2), (46, oD (.own 2015)), (47, iD ((v6.1.length : Int))), (48, iD v8.2.2)] [(2, .box (Ai p0)), (2013, .dvec 8 [.s, .s, .s, .s, .s, .s, .s, .x 1 []] (v16.1.map Bk)), (2014, .mp (JU Value.string QU v16.2.1)), (2015, .vec 3 (v6.1.map AD))]) (fun j16 h => ?_) (fun v16 h => ?_)
       ·refine wq rfl (qm rfl (CQ rfl (Ad ?_)))
        refine Bd h (fun h => ?_) fun h => ?_
        ·refine AT h (fun v18 => mk [(2, oD (.ptr 2 0)), (6, oD (.own 2016)), (7, oD (.mref 2017)), (8, iD v2.2.2), (15, pD (.val (.string v15))), (16, iD v18.2), (46, oD (.own 2018)), (47, iD ((v6.1.length : Int))), (48, iD v8.2.2)] [(2, .box (Ai p0)), (2016, .dvec 8 [.s, .s, .s, .s, .s, .s, .s, .x 1 []] (v18.1.map Bk)), (2017, .mp (JU Value.string QU v8.2.1)), (2018, .vec 3 (v6.1.map AD))]) (fun j18 h => ?_) (fun v18 h => ?_)
         ·refine wq rfl (qL CD BT rfl (qL B7 A2 rfl ?_))
          refine B1 h fun v19 a19 h => DU [] [2010, 2011, 2012] (Oe N p0 v13.1 v19 a19) eI B9 rfl (qm rfl (qx rfl (qx rfl (qa rfl (qe rfl ?_)))))
          refine AT h (fun v20 => mk [(2, oD (.ptr 2 0)), (6, oD (.own 2022)), (7, oD (.mref 2023)), (8, iD v2.2.2), (12, oD (.ptr 12 0)), (13, oD (.ptr 13 0)), (15, pD (.val (.string v15))), (46, oD (.own 2024)), (47, iD ((v6.1.length : Int))), (48, iD v8.2.2), (87, bD v20)] [(2, .box (Ai p0)), (12, .box (DL v11)), (13, .box [.own 2019, .own 2020, .own 2021]), (2019, .vec 1 (v13.1.gb.map Aq)), (2020, .vec 1 (v13.1.f7.map Aq)), (2021, .vec 1 (v13.1.gc.map El)), (2022, .dvec 8 [.s, .s, .s, .s, .s, .s, .s, .x 1 []] (v8.1.map Bk)), (2023, .mp (JU Value.string QU v8.2.1)), (2024, .vec 3 (v6.1.map AD))]) (fun j20 h => ?_) (fun v20 h => ?_)
          ·refine Ak Ax rfl (qm rfl (BF rfl (qm rfl ?_)))
           refine EU 84 h rfl (fun h => ?_) fun h => ?_
           ·refine qw 2 rfl (qp rfl (Ad ?_))
            exact sn [(2019, 2010), (2020, 2011), (2021, 2012), (2022, 2005), (2023, 2006), (2024, 2007)] h
           ·refine qm rfl (CQ rfl (qp rfl (Ad ?_)))
            exact sn [(2019, 2010), (2020, 2011), (2021, 2012), (2022, 2005), (2023, 2006), (2024, 2007)] h
          ·refine Bd h (fun h => ?_) fun h => ?_
           ·refine Ak Ax rfl (qe rfl ?_)
            exact sn [(2016, 2022), (2017, 2023), (2018, 2024)] h
           ·refine wq rfl (qm rfl ?_)
            refine VR (.p rfl) rfl rfl (MA Bk v8.1 _ _) Jv ?_
            refine qa rfl (Ad (Ak Ax rfl (qm rfl (qL B7 A2 rfl (qm rfl (qL Hu Dg rfl (Bm Uc aY rfl (Et (BJ 2019 _ _ rfl rfl) (Et (BJ 2020 _ _ rfl rfl) (Et (BJ 2021 _ _ rfl rfl) ?_))))))))))
            refine M4 [(0, .tmp 94, _)] (.p rfl) rfl ⟨rfl, tv⟩ rfl Jv LC Uc rfl rfl (Hy rfl) rfl rfl ?_
            refine Et (Ij 95 8 [.s, .s, .s, .s, .s, .s, .s, .x 1 []] _ ((([(AG.mk v13.1 v2.2.2 v11 (([] : List Int)))] : List AG)).map Bk) rfl rfl) ?_
            refine F2 h fun c23 h => KV (.p rfl) rfl rfl rfl rfl rfl (by decide) Jv Jv LC ck (Hy rfl) Uc rfl (Mo (f := Bk) (g := Bk) (xs := v8.1) (ys := (([(AG.mk v13.1 v2.2.2 v11 (([] : List Int)))] : List AG))) c23) (Mw Bk v8.1 (([(AG.mk v13.1 v2.2.2 v11 (([] : List Int)))] : List AG))) rfl rfl ?_
            refine qa rfl (Ad ?_)
            exact sn [(2016, 96), (2017, 2023), (2018, 2024)] h
         ·refine Ak Ax rfl (qw 3 rfl ?_)
          refine TG (kv := Value.string) (vt := QU) (m := v8.2.1) (k := v15) (v := v18.2) rfl (.inl rfl) rfl rfl rfl rfl (OX Tu bU) rfl ?_
          refine Ad ?_
          exact sn [(2013, 2016), (2014, 2017), (2015, 2018)] h
        ·refine Am ?_
         exact sn [(2013, 2005), (2014, 2006), (2015, 2007)] h
       ·refine AT h (fun v24 => mk [(2, oD (.ptr 2 0)), (6, oD (.own 2025)), (7, oD (.mref 2026)), (8, iD v2.2.2), (46, oD (.own 2027)), (47, iD ((v6.1.length : Int))), (48, iD v8.2.2)] [(2, .box (Ai p0)), (2025, .dvec 8 [.s, .s, .s, .s, .s, .s, .s, .x 1 []] (v24.map Bk)), (2026, .mp (JU Value.string QU v16.2.1)), (2027, .vec 3 (v6.1.map AD))]) (fun j24 h => ?_) (fun v24 h => ?_)
        ·refine wq rfl (qm rfl (F9 rfl (Ad ?_)))
         refine Bd h (fun h => ?_) fun h => ?_
         ·refine Ak Ax rfl (qw 4 rfl ?_)
          refine BB h fun v26 a26 b26 h => HR (.p rfl) rfl rfl rfl (MA Bk v16.1 _ _) Jv LC a26 (Aw b26) ?_
          refine qh UF rfl ?_
          refine cy (.p rfl) rfl Bb rfl (Ah b26) rfl rfl rfl rfl ?_
          refine qm rfl (Eb AC DR Lf rfl ?_)
          refine F2 h fun c27 h => DE (f := Aq) AC AC DR LX Lf c27 rfl ?_
          refine BB h fun v28 a28 b28 h => HR (.p rfl) rfl rfl rfl (VG Bk v16.1 _ _ _ _ _) Jv LC a28 (Aw b28) ?_
          refine qh UF rfl ?_
          refine X7 rfl rfl rfl rfl (rows2 := (v26.f7 ++ (([v16.2.2] : List Int))).map Aq) (cols2 := []) rfl rfl (Ah b28) (by decide) W7 rfl rfl (Dh Bk v16.1 _ ((AG.mk ((Ae.mk v28.gq.gb v28.gq.f7 v28.gq.gc)) v28.ge ((Af.mk v28.gw.gd v28.gw.gg v28.gw.gp)) (v26.f7 ++ (([v16.2.2] : List Int)))))) ?_
          refine Ad ?_
          exact sn [(2025, 2013), (2026, 2014), (2027, 2015)] h
         ·refine Am ?_
          exact sn [(2025, 2013), (2026, 2014), (2027, 2015)] h
        ·refine wq rfl (qm rfl ?_)
         refine VR (.p rfl) rfl rfl (MA Bk v24 _ _) Jv ?_
         refine GE rfl (Ad ?_)
         refine Bd h (fun h => ?_) fun h => ?_
         ·refine wq rfl (qa rfl (qe rfl ?_))
          obtain rfl := sj h
          refine Ag ((N3 4 _ rfl).trans (sm [] [(4, pD (.sl ((([] : List AG)).map Bk))), (5, iD 3)] [] rfl rfl)) (Au ?_)
          exact ⟨⟨[_, _], ⟨.tmp _ _ rfl, tm⟩, rfl⟩, tv⟩
         ·refine Am (Ak Ax rfl (AZ rfl (qm rfl (Ad ?_))))
          exact sn [(2005, 2025), (2006, 2026), (2007, 2027)] h
     ·refine AS ?_
      exact sn [(2008, 2005), (2009, 2006)] h
    ·refine Ag hs (Ak Ax rfl (qm rfl (AZ rfl (qe rfl ?_))))
     exact sn [(2001, 2008), (2002, 2009)] h
  ·refine AS ?_
   exact sn [(2003, 2001)] h
 ·refine Ag hs (wq rfl (qm rfl (qa rfl (qe rfl ?_))))
  obtain rfl := sj h
  refine Ag ((OL 2003 _ _ _ rfl rfl).trans (sm [] [(4, pD (.sl (v3.map Bk))), (5, iD 0)] [] rfl rfl)) (Au ?_)
  exact ⟨⟨[_, _], ⟨.tmp _ _ rfl, tm⟩, rfl⟩, tv⟩
theorem Lj (N : Nat) (p0 : List Int) (p1 : List Int) (r : Bool) (h : Ew N p0 p1 = some r) : Ar zA 92 [pD (.sl (p0.map Aq)), pD (.sl (p1.map Aq))] [] (bD r) := by
 unfold Ew at h
 refine cw (n := 26) (rs := [.tmp 4]) Tryz.func92 fun w0 S0 => ?_
 refine wq rfl (qa rfl (Ad (wp rfl (qm rfl (AM AC rfl (qm rfl (AM AC rfl (BF rfl (Ad ?_)))))))))
 refine Bd h (fun h => ?_) fun h => ?_
 ·refine wq rfl (qe rfl ?_)
  obtain rfl := sj h
  refine Ag (sm [] [(4, bD false)] [] rfl rfl) (Au ?_)
  exact ⟨⟨[_], tm, rfl⟩, tv⟩
 ·refine Am (wp rfl (qm rfl (AM AC rfl (qm rfl (Ad ?_)))))
  refine AE (L := Cm N p0 p1) h (fun v2 => mk [(0, pD (.sl (p0.map Aq))), (1, pD (.sl (p1.map Aq))), (12, iD ((p0.length : Int))), (13, iD v2)] []) (fun v3 => mk [] []) (fun _ _ => rfl) (sm [] _ _ rfl rfl) (fun j2 n2 v2 h => ?_) (fun v3 s h hs => ?_)
  ·unfold Cm at h
   refine wq rfl (AW rfl (Ad (AP ?_)))
   refine Bd h (fun h => ?_) fun h => ?_
   ·refine Am (AP (AK (wq rfl (qm rfl (qa rfl (Ad (wq rfl (qw 2 rfl ?_))))))))
    refine BB h fun v5 a5 b5 h => qi AC DR a5 (Ah b5) rfl (qk Cr rfl (qw 2 rfl ?_))
    refine BB h fun v6 a6 b6 h => qi AC DR a6 (Ah b6) rfl (qk Cr rfl (BF rfl (AQ (by kernel_rfl) ?_)))
    refine Bd h (fun h => ?_) fun h => ?_
    ·refine wq rfl (qe rfl ?_)
     obtain rfl := sj h
     refine Ag (sm [] [(4, bD false)] [] rfl rfl) (Au ?_)
     exact ⟨⟨[_], tm, rfl⟩, tv⟩
    ·refine Am (Ak Ax rfl (AZ rfl (qm rfl (Ad ?_))))
     exact sn [] h
   ·refine AS ?_
    exact sn [] h
  ·refine Ag hs (wq rfl (qe rfl ?_))
   obtain rfl := sj h
   refine Ag (sm [] [(4, bD true)] [] rfl rfl) (Au ?_)
   exact ⟨⟨[_], tm, rfl⟩, tv⟩
theorem Ka (N : Nat) (p0 : List Int) (p1 : Int → Option Bool) (r : Int) (h : EF N p0 p1 = some r) : Ar zA 131 [pD (.sl (p0.map Aq)), oD (.clo (JV (PC false Aq) tB p1))] [] (iD r) := by
 unfold EF at h
 refine cw (n := 19) (rs := [.tmp 4]) Tryz.func131 fun w0 S0 => ?_
 refine wq rfl (qa rfl (Ad (wp rfl (qm rfl (AM AC rfl (qm rfl (Ad ?_)))))))
 refine AE (L := Bp N p0 p1) h (fun v1 => mk [(0, pD (.sl (p0.map Aq))), (1, oD (.clo (JV (PC false Aq) tB p1))), (7, iD ((p0.length : Int))), (8, iD v1)] []) (fun v2 => mk [] []) (fun _ _ => rfl) (sm [] _ _ rfl rfl) (fun j1 n1 v1 h => ?_) (fun v2 s h hs => ?_)
 ·unfold Bp at h
  refine wq rfl (AW rfl (Ad (AP ?_)))
  refine Bd h (fun h => ?_) fun h => ?_
  ·refine Am (AP (AK (wq rfl (qm rfl (qa rfl (Ad (wq rfl (qw 3 rfl ?_))))))))
   refine BB h fun v4 a4 b4 h => qi AC DR a4 (Ah b4) rfl (qk Cr rfl ?_)
   refine B1 h fun v5 a5 h => NU (ds0 := [_]) (ar := (PC false Aq) v4) (.p rfl) rfl rfl ⟨rfl, tv⟩ rfl rfl rfl (MB (NI _ _ Tl) a5) ?_
   refine Ad ?_
   refine Bd h (fun h => ?_) fun h => ?_
   ·refine wq rfl (qm rfl (qe rfl ?_))
    obtain rfl := sj h
    refine Ag (sm [] [(4, iD v1)] [] rfl rfl) (Au ?_)
    exact ⟨⟨[_], tm, rfl⟩, tv⟩
   ·refine Am (Ak Ax rfl (AZ rfl (qm rfl (Ad ?_))))
    exact sn [] h
  ·refine AS ?_
   exact sn [] h
 ·refine Ag hs (wq rfl (qe rfl ?_))
  obtain rfl := sj h
  refine Ag (sm [] [(4, iD ((-1)))] [] rfl rfl) (Au ?_)
  exact ⟨⟨[_], tm, rfl⟩, tv⟩
theorem Jm (N : Nat) (p0 : List Int) (p1 : Int → Option Bool) (r : Bool) (h : C5 N p0 p1 = some r) : Ar zA 93 [pD (.sl (p0.map Aq)), oD (.clo (JV (PC false Aq) tB p1))] [] (bD r) := by
 unfold C5 at h
 refine cw (n := 9) (rs := [.tmp 4]) Tryz.func93 fun w0 S0 => ?_
 refine wq rfl (qa rfl (Ad (wq rfl (qw 2 rfl ?_))))
 refine B1 h fun v1 a1 h => AA [] (Ka N p0 p1 v1 a1) eL rfl (F9 rfl (qe rfl ?_))
 obtain rfl := sj h
 refine Ag (sm [] [(4, bD ((decide (0 ≤ v1))))] [] rfl rfl) (Au ?_)
 exact ⟨⟨[_], tm, rfl⟩, tv⟩
theorem SD (N : Nat) (p0 : Int) (r : Bool) (h : HT N p0 = some r) : Ar zA 94 [iD p0] [] (bD r) := by
 unfold HT at h
 refine cw (n := 5) (rs := [.tmp 2]) Tryz.func94 fun w0 S0 => ?_
 refine wq rfl (qa rfl (Ad (wq rfl (qm rfl (F9 rfl (qe rfl ?_))))))
 obtain rfl := sj h
 refine Ag (sm [] [(2, bD ((decide (0 ≤ p0))))] [] rfl rfl) (Au ?_)
 exact ⟨⟨[_], tm, rfl⟩, tv⟩
theorem VB (N : Nat) (p0 : Ab) (p1 : Ae) (r : Bool) (h : Ji N p0 p1 = some r) : Ar zA 67 [.e (.agg (Ai p0)), .e (.agg (AL p1))] [] (bD r) := by
 unfold Ji at h
 refine cw (n := 22) (rs := [.tmp 4]) Tryz.func67 fun w0 S0 => ?_
 refine wq rfl (qb rfl (qb rfl (qe rfl ?_)))
 refine AT h (fun v1 => mk [(4, bD v1)] []) (fun j1 h => ?_) (fun v1 h => ?_)
 ·refine Ak Ax rfl (qL CD BT rfl (qL B7 A2 rfl ?_))
  refine B1 h fun v2 a2 h => AA [] (KE N p0 p1 v2 a2) ao rfl (B5 rfl (qm rfl ?_))
  refine EU 9 h rfl (fun h => ?_) fun h => ?_
  ·refine qf Dp rfl (ql Bb rfl (qf IM rfl (ql Bb rfl ?_)))
   refine B1 h fun v4 a4 h => AA [] (Lj N p1.gb p0.gj v4 a4) eU rfl (qp rfl (qm rfl ?_))
   refine EU 16 h rfl (fun h => ?_) fun h => ?_
   ·refine qf BO rfl (ql Bb rfl ?_)
    refine B1 h fun v6 a6 h => AA [] (Ar.weak (ds' := [pD (.sl (p1.f7.map Aq)), oD (.fnc 94)]) (Jm N p1.f7 ((fun (x : Int) => HT N x)) v6 a6) ⟨(fun _ _ _ hh => hh), (fun _ _ _ hh => WI fm (fun ar t ht => by obtain ⟨x, r, rfl, hq, rfl⟩ := JQ ht; exact SD N x r hq) hh), tv⟩) fF rfl ?_
    refine CQ rfl (qp rfl (qe rfl ?_))
    exact sn [] h
   ·refine qw 4 rfl (qp rfl (qe rfl ?_))
    exact sn [] h
  ·refine qw 5 rfl (qp rfl (qw 5 rfl (qp rfl (qe rfl ?_))))
   exact sn [] h
 ·obtain rfl := sj h
  refine Ag (sm [] [(4, bD v1)] [] rfl rfl) (Au ?_)
  exact ⟨⟨[_], tm, rfl⟩, tv⟩
theorem Rv (N : Nat) (p0 : AG) (p1 : List Int) (p2 : List Int) (p3 : List Int) (p4 : List Ao) (r : Bool) (h : FE N p0 p1 p2 p3 p4 = some r) : Ar zA 66 [.e (.agg (Xn p0)), oD (.rop [.sl (p1.map Aq), .sl (p2.map Aq), .sl (p3.map Aq), .sl (p4.map AJ)])] [] (bD r) := by
 unfold FE at h
 refine cw (n := 8) (rs := [.tmp 3]) Tryz.func66 fun w0 S0 => ?_
 refine wq rfl (qb rfl (qa rfl (Ad (wq rfl (qK CD BT rfl (qf P8 rfl (qL B7 A2 rfl ?_)))))))
 refine B1 h fun v1 a1 h => AA [] (VB N ((Ab.mk p1 p2 p3 p4)) ((Ae.mk p0.gq.gb p0.gq.f7 p0.gq.gc)) v1 a1) fL rfl (qe rfl ?_)
 obtain rfl := sj h
 refine Ag (sm [] [(3, bD v1)] [] rfl rfl) (Au ?_)
 exact ⟨⟨[_], tm, rfl⟩, tv⟩
theorem HE (N : Nat) (p0 : List AG) (p1 : AG → Option Bool) (r : Int) (h : CA N p0 p1 = some r) : Ar zA 65 [pD (.sl (p0.map Bk)), oD (.clo (JV (PC true Bk) tB p1))] [] (iD r) := by
 unfold CA at h
 refine cw (n := 19) (rs := [.tmp 4]) Tryz.func65 fun w0 S0 => ?_
 refine wq rfl (qa rfl (Ad (wp rfl (qm rfl (AM Jv rfl (qm rfl (Ad ?_)))))))
 refine AE (L := AX N p0 p1) h (fun v1 => mk [(0, pD (.sl (p0.map Bk))), (1, oD (.clo (JV (PC true Bk) tB p1))), (7, iD ((p0.length : Int))), (8, iD v1)] []) (fun v2 => mk [] []) (fun _ _ => rfl) (sm [] _ _ rfl rfl) (fun j1 n1 v1 h => ?_) (fun v2 s h hs => ?_)
 ·unfold AX at h
  refine wq rfl (AW rfl (Ad (AP ?_)))
  refine Bd h (fun h => ?_) fun h => ?_
  ·refine Am (AP (AK (wq rfl (qm rfl (qa rfl (Ad (wq rfl (qw 3 rfl ?_))))))))
   refine BB h fun v4 a4 b4 h => qi Jv LC a4 (Ah b4) rfl (qK dg LC rfl ?_)
   refine B1 h fun v5 a5 h => NU (ds0 := [_]) (ar := (PC true Bk) ((AG.mk ((Ae.mk v4.gq.gb v4.gq.f7 v4.gq.gc)) v4.ge ((Af.mk v4.gw.gd v4.gw.gg v4.gw.gp)) v4.f7))) (.p rfl) rfl rfl ⟨rfl, tv⟩ rfl rfl rfl (MB (NI _ _ UI) a5) ?_
   refine Ad ?_
   refine Bd h (fun h => ?_) fun h => ?_
   ·refine wq rfl (qm rfl (qe rfl ?_))
    obtain rfl := sj h
    refine Ag (sm [] [(4, iD v1)] [] rfl rfl) (Au ?_)
    exact ⟨⟨[_], tm, rfl⟩, tv⟩
   ·refine Am (Ak Ax rfl (AZ rfl (qm rfl (Ad ?_))))
    exact sn [] h
  ·refine AS ?_
   exact sn [] h
 ·refine Ag hs (wq rfl (qe rfl ?_))
  obtain rfl := sj h
  refine Ag (sm [] [(4, iD ((-1)))] [] rfl rfl) (Au ?_)
  exact ⟨⟨[_], tm, rfl⟩, tv⟩
theorem Ib (N : Nat) (p0 : List Af) (r : (List Af)) (h : BC N p0 = some r) : DV zA 95 [oD (.own 90000)] [(.vec 3 (p0.map AD), .vec 3 (r.map AD))] [] (.tup []) := by
 unfold BC at h
 refine FF (n := 28) (rs := []) Tryz.func95 rfl rfl rfl (Hy rfl) (Hy rfl) rfl rfl (Hy rfl) rfl (Hy rfl) fun w0 S0 GL => eE ?_
 refine Ag (sm [] [(0, oD (.own 90000))] [(90000, .vec 3 (p0.map AD))] rfl rfl) (wq rfl (qm rfl (C3 Fr rfl (LN rfl (qa rfl (qe rfl ?_))))))
 refine AE (L := Bn N) h (fun v1 => mk [(0, oD (.own 90000)), (2, iD v1.2.1), (3, iD v1.2.2)] [(90000, .vec 3 (v1.1.map AD))]) (fun v2 => mk [] [(90000, .vec 3 (v2.map AD))]) (fun _ _ => rfl) (sm [] _ _ rfl rfl) (fun j1 n1 v1 h => ?_) (fun v2 s h hs => ?_)
 ·unfold Bn at h
  refine wp rfl (qw 2 rfl (AW rfl (Ad ?_)))
  refine Bd h (fun h => ?_) fun h => ?_
  ·refine Am (AP (AK (Ak Ax rfl (qw 6 rfl ?_))))
   refine BB h fun v4 a4 b4 h => qI Fr Dg a4 (Ah b4) rfl (qJ Hu Dg (Ah b4) rfl (qw 2 rfl ?_))
   refine BB h fun v5 a5 b5 h => qI Fr Dg a5 (Ah b5) rfl (qJ Hu Dg (Ah b5) rfl ?_)
   refine BB h fun v6 a6 b6 h => qI Fr Dg a6 (Ah b6) rfl ?_
   refine Eg rfl rfl rfl rfl (Ah b6) rfl Dg rfl (Hy rfl) (Dh AD v1.1 _ v4) ?_
   refine BB h fun v7 a7 b7 h => qI Fr Dg a7 (Ah b7) rfl ?_
   refine Eg rfl rfl rfl rfl (Ah b7) rfl Dg rfl (Hy rfl) (Dh AD (v1.1.set ((v1.2.1).toNat) v4) _ v5) ?_
   refine AQ (by kernel_rfl) (Ak Ax rfl (qm rfl (AZ rfl (qm rfl (LN rfl (qa rfl (qe rfl ?_)))))))
   exact sn [] h
  ·refine AS ?_
   exact sn [] h
 ·obtain rfl := sj h
  refine ⟨_, hs.trans (sm [] [] [(90000, .vec 3 (v2.map AD))] rfl rfl), ?_⟩
  exact ⟨⟨[], tv, rfl⟩, ⟨rfl, tv⟩, tv⟩
theorem V1 (N : Nat) (p0 : List AG) (p1 : Int) (r : (List Af)) (h : Kz N p0 p1 = some r) : Ar zA 68 [pD (.sl (p0.map Bk)), iD p1] [(3, r.map AD)] (oD (.own 0)) := by
 unfold Kz at h
 refine cw (n := 28) (rs := [.tmp 4]) Tryz.func68 fun w0 S0 => ?_
 refine wq rfl (qa rfl (Ad (wq rfl (qa rfl (Ad (AP ?_))))))
 refine AE (L := GQ N p0) h (fun v1 => mk [(0, pD (.sl (p0.map Bk))), (1, iD v1.1), (5, oD (.own 2001))] [(2001, .vec 3 (v1.2.map AD))]) (fun v2 => mk [(5, oD (.own 2002))] [(2002, .vec 3 (v2.map AD))]) (fun _ _ => rfl) ((AU 5 2003 3 rfl rfl rfl).trans (sm [(2001, 2003)] _ _ rfl rfl)) (fun j1 n1 v1 h => ?_) (fun v2 s h hs => ?_)
 ·unfold GQ at h
  refine wp rfl (qw 2 rfl ?_)
  refine BB h fun v3 a3 b3 h => qi Jv LC a3 (Ah b3) rfl (qg UA rfl (qk Cr rfl (F9 rfl (Ad ?_))))
  refine Bd h (fun h => ?_) fun h => ?_
  ·refine Am (AP (AK (Ak Ax rfl (qw 3 rfl ?_))))
   refine BB h fun v5 a5 b5 h => qi Jv LC a5 (Ah b5) rfl (qg YH rfl (qK Hu Dg rfl (Eb Fr Dg In rfl ?_)))
   refine F2 h fun c6 h => DE (f := AD) Fr Fr Dg OW In c6 rfl (qa rfl (Ad (Ak Ax rfl (qw 2 rfl ?_))))
   refine BB h fun v7 a7 b7 h => qi Jv LC a7 (Ah b7) rfl (qg UA rfl (qk Cr rfl (qe rfl ?_)))
   exact sn [(2001, 24)] h
  ·refine AS ?_
   exact sn [(2002, 2001)] h
 ·refine Ag hs (wq rfl (qm rfl ?_))
  refine B1 h fun v8 a8 h => IJ (ds0 := [_]) [2002] [] [true] (Ib N v2 v8 a8) (.p rfl) eX rfl ⟨rfl, tv⟩ rfl rfl (by decide) ⟨rfl, tv⟩ rfl (EA rfl) tv ⟨(fun h => by cases h), tv⟩ rfl rfl rfl ?_
  refine Ad (wq rfl (qm rfl (qe rfl ?_)))
  obtain rfl := sj h
  refine Ag (sm [(1000, 2002)] [(4, oD (.own 1000))] [(1000, .vec 3 (v8.map AD))] rfl rfl) (Au ?_)
  exact ⟨⟨[_], tm, rfl⟩, ⟨rfl, tv⟩⟩
theorem UW (N : Nat) (p0 : Ab) (p1 : Ae) (r : (List Af) × Int) (h : Gn N p0 p1 = some r) : Ar zA 36 [.e (.agg (Ai p0)), .e (.agg (AL p1))] [(3, r.1.map AD)] (.tup [.one (.own 0), .one (iC r.2)]) := by
 unfold Gn at h
 refine cw (n := 38) (rs := [.tmp 4, .tmp 5]) Tryz.func36 fun w0 S0 => ?_
 refine wq rfl (qb rfl (qb rfl (qa rfl (qa rfl (Ad (wq rfl (qL CD BT rfl (qL B7 A2 rfl ?_))))))))
 refine B1 h fun v1 a1 h => AA [] (Oe N p0 p1 v1 a1) eI rfl (qm rfl (qx rfl (qx rfl (qa rfl (qa rfl (Ad (wp rfl (qm rfl (BF rfl (Ad ?_))))))))))
 refine Bd h (fun h => ?_) fun h => ?_
 ·refine wq rfl (qm rfl (qa rfl (qe rfl ?_)))
  obtain rfl := sj h
  refine Ag ((AU 4 2001 3 rfl rfl rfl).trans (sm [(1000, 2001)] [(4, oD (.own 1000)), (5, iD v1.2)] [(1000, .vec 3 ((([] : List Af)).map AD))] rfl rfl)) (Au ?_)
  exact ⟨⟨[_, _], ⟨.tmp _ _ rfl, tm⟩, rfl⟩, ⟨rfl, tv⟩⟩
 ·refine Am (wp rfl (qm rfl (CQ rfl (Ad ?_))))
  refine Bd h (fun h => ?_) fun h => ?_
  ·refine wq rfl (qa rfl (qe rfl ?_))
   obtain rfl := sj h
   refine Ag ((AU 4 2002 3 rfl rfl rfl).trans (sm [(1000, 2002)] [(4, oD (.own 1000)), (5, iD 13)] [(1000, .vec 3 ((([] : List Af)).map AD))] rfl rfl)) (Au ?_)
   exact ⟨⟨[_, _], ⟨.tmp _ _ rfl, tm⟩, rfl⟩, ⟨rfl, tv⟩⟩
  ·refine Am (wq rfl (qL CD BT rfl (qL B7 A2 rfl ?_)))
   refine B1 h fun v4 a4 h => AA [] (Q7 N p0 p1 v4 a4) eT rfl (qm rfl (qx rfl (qx rfl (qa rfl (qa rfl (Ad (wp rfl (qm rfl (BF rfl (Ad ?_))))))))))
   refine Bd h (fun h => ?_) fun h => ?_
   ·refine wq rfl (qm rfl (qa rfl (qe rfl ?_)))
    obtain rfl := sj h
    refine Ag ((AU 4 2003 3 rfl rfl rfl).trans (sm [(1000, 2003)] [(4, oD (.own 1000)), (5, iD v4.2)] [(1000, .vec 3 ((([] : List Af)).map AD))] rfl rfl)) (Au ?_)
    exact ⟨⟨[_, _], ⟨.tmp _ _ rfl, tm⟩, rfl⟩, ⟨rfl, tv⟩⟩
   ·refine Am (wq rfl (qm rfl (Et (NG 2 [.sl (p0.f9.map Aq), .sl (p0.gf.map Aq), .sl (p0.gj.map Aq), .sl (p0.ga.map AJ)] rfl rfl) ?_)))
    refine Ni (capD := [_]) (JV (PC true Bk) tB ((fun (x : AG) => FE N x p0.f9 p0.gf p0.gj p0.ga))) (.p rfl) fi rfl ⟨rfl, tv⟩ rfl (fun ar t ht => by obtain ⟨x, r, rfl, hq, rfl⟩ := JQ ht; exact Rv N x p0.f9 p0.gf p0.gj p0.ga r hq) ?_
    refine B1 h fun v6 a6 h => AA [] (HE N v4.1 ((fun (x : AG) => FE N x p0.f9 p0.gf p0.gj p0.ga)) v6 a6) fD rfl (qa rfl (Ad (wp rfl (qm rfl (AW rfl (Ad ?_))))))
    refine Bd h (fun h => ?_) fun h => ?_
    ·refine wq rfl (qa rfl (qe rfl ?_))
     obtain rfl := sj h
     refine Ag ((AU 4 2004 3 rfl rfl rfl).trans (sm [(1000, 2004)] [(4, oD (.own 1000)), (5, iD 14)] [(1000, .vec 3 ((([] : List Af)).map AD))] rfl rfl)) (Au ?_)
     exact ⟨⟨[_, _], ⟨.tmp _ _ rfl, tm⟩, rfl⟩, ⟨rfl, tv⟩⟩
    ·refine Am (wq rfl (qw 2 rfl ?_))
     refine B1 h fun v8 a8 h => AA [2005] (V1 N v4.1 v6 v8 a8) fx rfl (qa rfl (qe rfl ?_))
     obtain rfl := sj h
     refine Ag (sm [(1000, 2005)] [(4, oD (.own 1000)), (5, iD 0)] [(1000, .vec 3 (v8.map AD))] rfl rfl) (Au ?_)
     exact ⟨⟨[_, _], ⟨.tmp _ _ rfl, tm⟩, rfl⟩, ⟨rfl, tv⟩⟩
theorem UC (N : Nat) (p0 : Ab) (r : (List Af) × Int) (h : G1 N p0 = some r) : Ar zA 13 [.e (.agg (Ai p0))] [(3, r.1.map AD)] (.tup [.one (.own 0), .one (iC r.2)]) := by
 unfold G1 at h
 refine cw (n := 19) (rs := [.tmp 2, .tmp 3]) Tryz.func13 fun w0 S0 => ?_
 refine wq rfl (qb rfl (qa rfl (qa rfl (Ad (wq rfl (qL CD BT rfl ?_))))))
 refine B1 h fun v1 a1 h => AA [2001, 2002, 2003] (Uo N p0 v1 a1) eV rfl (qm rfl (qx rfl (qx rfl (qz Fm rfl (qs A2 rfl (qa rfl (Ad (wp rfl (qm rfl (BF rfl (Ad ?_)))))))))))
 refine Bd h (fun h => ?_) fun h => ?_
 ·refine wq rfl (qm rfl (qa rfl (qe rfl ?_)))
  obtain rfl := sj h
  refine Ag ((AU 2 2004 3 rfl rfl rfl).trans (sm [(1000, 2004)] [(2, oD (.own 1000)), (3, iD v1.2)] [(1000, .vec 3 ((([] : List Af)).map AD))] rfl rfl)) (Au ?_)
  exact ⟨⟨[_, _], ⟨.tmp _ _ rfl, tm⟩, rfl⟩, ⟨rfl, tv⟩⟩
 ·refine Am (wq rfl (qL CD BT rfl (qL B7 A2 rfl ?_)))
  refine B1 h fun v3 a3 h => DU [2005] [2001, 2002, 2003] (UW N p0 v1.1 v3 a3) fk (G4 (fun _ => rfl) B9) rfl (qx rfl (qx rfl (qa rfl (qe rfl ?_))))
  obtain rfl := sj h
  refine Ag (sm [(1000, 2005)] [(2, oD (.own 1000)), (3, iD v3.2)] [(1000, .vec 3 (v3.1.map AD))] rfl rfl) (Au ?_)
  exact ⟨⟨[_, _], ⟨.tmp _ _ rfl, tm⟩, rfl⟩, ⟨rfl, tv⟩⟩
theorem IL (N : Nat) (p0 : Ab) (p1 : List Aa) (r : Bool × Int) (h : Ei N p0 p1 = some r) : Ar zA 42 [.e (.agg (Ai p0)), pD (.sl (p1.map Ac))] [] (.tup [.one (.pure (.val (.bool r.1))), .one (iC r.2)]) := by
 unfold Ei at h
 refine cw (n := 20) (rs := [.tmp 4, .tmp 5]) Tryz.func42 fun w0 S0 => ?_
 refine wq rfl (qb rfl (qa rfl (qa rfl (Ad (wq rfl (qL CD BT rfl (qm rfl ?_)))))))
 refine B1 h fun v1 a1 h => AA [2001, 2002, 2003] (Qt N p0 p1 v1 a1) fp rfl ?_
 refine B1 h fun v2 a2 h => DU [2004] [2001, 2002, 2003] (UC N v1 v2 a2) fu (G4 (fun _ => rfl) B9) rfl (qm rfl (qx rfl (qx rfl (qa rfl (qa rfl (Ad (wp rfl (qm rfl (B5 rfl (Ad ?_))))))))))
 refine Bd h (fun h => ?_) fun h => ?_
 ·refine wq rfl (qm rfl (qa rfl (qe rfl ?_)))
  obtain rfl := sj h
  refine Ag (sm [] [(4, bD false), (5, iD v2.2)] [] rfl rfl) (Au ?_)
  exact ⟨⟨[_, _], ⟨.tmp _ _ rfl, tm⟩, rfl⟩, tv⟩
 ·refine Am (wq rfl (qm rfl (B5 rfl (qa rfl (qe rfl ?_)))))
  obtain rfl := sj h
  refine Ag (sm [] [(4, bD ((v2.2 == 0))), (5, iD 0)] [] rfl rfl) (Au ?_)
  exact ⟨⟨[_, _], ⟨.tmp _ _ rfl, tm⟩, rfl⟩, tv⟩
theorem I4 (N : Nat) (p0 : Ab) (r : (List (List Aa)) × Int) (h : FH N p0 = some r) : Ar zA 24 [.e (.agg (Ai p0))] [(1, r.1.map (DG Ac))] (.tup [.one (.own 0), .one (iC r.2)]) := by
 unfold FH at h
 refine cw (n := 54) (rs := [.tmp 2, .tmp 3]) Tryz.func24 fun w0 S0 => ?_
 refine wq rfl (qb rfl (qa rfl (qa rfl (Ad (wq rfl (qL CD BT rfl ?_))))))
 refine B1 h fun v1 a1 h => AA [2001] (KB N p0 v1 a1) cZ rfl (qm rfl (qx rfl (qx rfl (qa rfl (qa rfl (Ad (wp rfl (qm rfl (BF rfl (Ad ?_))))))))))
 refine Bd h (fun h => ?_) fun h => ?_
 ·refine wq rfl (qm rfl (qa rfl (qe rfl ?_)))
  obtain rfl := sj h
  refine Ag ((AU 2 2002 1 rfl rfl rfl).trans (sm [(1000, 2002)] [(2, oD (.own 1000)), (3, iD v1.2)] [(1000, .vec 1 ((([] : List (List Aa))).map (DG Ac)))] rfl rfl)) (Au ?_)
  exact ⟨⟨[_, _], ⟨.tmp _ _ rfl, tm⟩, rfl⟩, ⟨rfl, tv⟩⟩
 ·refine Am (wp rfl (qm rfl (C3 A3 rfl (GE rfl (Ad ?_)))))
  refine Bd h (fun h => ?_) fun h => ?_
  ·refine wq rfl (qa rfl (qe rfl ?_))
   obtain rfl := sj h
   refine Ag ((AU 2 2003 1 rfl rfl rfl).trans (sm [(1000, 2003)] [(2, oD (.own 1000)), (3, iD 3)] [(1000, .vec 1 ((([] : List (List Aa))).map (DG Ac)))] rfl rfl)) (Au ?_)
   exact ⟨⟨[_, _], ⟨.tmp _ _ rfl, tm⟩, rfl⟩, ⟨rfl, tv⟩⟩
  ·refine Am (wp rfl (qe rfl ?_))
   refine AE (L := ER N p0) h (fun v4 => mk [(1, oD (.ptr 1 0)), (4, pD (.sl (v4.1.map Ac))), (6, iD v4.2)] [(1, .box (Ai p0))]) (fun v5 => mk [] []) (fun _ _ => rfl) ((BJ 2001 _ _ rfl rfl).trans (sm [] _ _ rfl rfl)) (fun j4 n4 v4 h => ?_) (fun v5 s h hs => ?_)
   ·unfold ER at h
    refine wp rfl (qm rfl (RZ rfl (Ad ?_)))
    refine Bd h (fun h => ?_) fun h => ?_
    ·refine Am (AP (AK (wq rfl (qa rfl (Ad (wp rfl (qw 2 rfl ?_)))))))
     refine B1 h fun v7 a7 h => AA [2004] (Qp N v4.1 v4.2 v7 a7) eJ rfl (C3 EL rfl (qm rfl (Ad ?_)))
     refine AE (L := D7 N p0 v7) h (fun v8 => mk [(1, oD (.ptr 1 0)), (4, pD (.sl (v4.1.map Ac))), (6, iD v4.2), (7, oD (.own 2005)), (29, oD (.own 2006)), (30, iD ((v7.length : Int))), (31, iD v8.2)] [(1, .box (Ai p0)), (2005, .vec 1 (v8.1.map (DG Ac))), (2006, .vec 1 (v7.map (DG Ac)))]) (fun v9 => mk [(1, oD (.ptr 1 0)), (4, pD (.sl (v4.1.map Ac))), (6, iD v4.2), (7, oD (.own 2007))] [(1, .box (Ai p0)), (2007, .vec 1 (v9.map (DG Ac)))]) (fun _ _ => rfl) ((AU 7 2011 1 rfl rfl rfl).trans (sm [(2005, 2011), (2006, 2004)] _ _ rfl rfl)) (fun j8 n8 v8 h => ?_) (fun v9 s h hs => ?_)
     ·unfold D7 at h
      refine wq rfl (AW rfl (Ad (AP ?_)))
      refine Bd h (fun h => ?_) fun h => ?_
      ·refine Am ?_
       refine AT h (fun v11 => mk [(1, oD (.ptr 1 0)), (4, pD (.sl (v4.1.map Ac))), (6, iD v4.2), (7, oD (.own 2008)), (29, oD (.own 2009)), (30, iD ((v7.length : Int))), (31, iD v8.2)] [(1, .box (Ai p0)), (2008, .vec 1 (v11.map (DG Ac))), (2009, .vec 1 (v7.map (DG Ac)))]) (fun j11 h => ?_) (fun v11 h => ?_)
       ·refine AK (wq rfl ?_)
        refine BB h fun v12 a12 b12 h => qI EL Ki a12 (Ah b12) rfl (qj Pw (Ah b12) rfl (qa rfl (Ad (wq rfl (qL CD BT rfl (qm rfl ?_))))))
        refine B1 h fun v13 a13 h => AA [] (IL N p0 v12 v13 a13) cz rfl (qm rfl (qx rfl (qx rfl (qa rfl (qa rfl (Ad (wp rfl (qm rfl (BF rfl (Ad ?_))))))))))
        refine Bd h (fun h => ?_) fun h => ?_
        ·refine wq rfl (qm rfl (qa rfl (qe rfl ?_)))
         obtain rfl := sj h
         refine Ag ((AU 2 2010 1 rfl rfl rfl).trans (sm [(1000, 2010)] [(2, oD (.own 1000)), (3, iD v13.2)] [(1000, .vec 1 ((([] : List (List Aa))).map (DG Ac)))] rfl rfl)) (Au ?_)
         exact ⟨⟨[_, _], ⟨.tmp _ _ rfl, tm⟩, rfl⟩, ⟨rfl, tv⟩⟩
        ·refine Am (wq rfl (qm rfl (Ad ?_)))
         refine Bd h (fun h => ?_) fun h => ?_
         ·refine Ak Ax rfl (qw 2 rfl (Eb EL Ki Re rfl ?_))
          refine F2 h fun c16 h => DE (f := (DG Ac)) EL EL Ki WV Re c16 rfl (qe rfl ?_)
          exact sn [(2008, 48), (2009, 2006)] h
         ·refine Am ?_
          exact sn [(2008, 2005), (2009, 2006)] h
       ·refine Ak Ax rfl (AZ rfl (qm rfl (Ad ?_)))
        exact sn [(2005, 2008), (2006, 2009)] h
      ·refine AS ?_
       exact sn [(2007, 2005)] h
     ·refine Ag hs (wq rfl (qm rfl (C3 EL rfl (GE rfl (Ad ?_)))))
      refine Bd h (fun h => ?_) fun h => ?_
      ·refine wq rfl (qm rfl (qa rfl (qe rfl ?_)))
       obtain rfl := sj h
       refine Ag (sm [(1000, 2007)] [(2, oD (.own 1000)), (3, iD 0)] [(1000, .vec 1 (v9.map (DG Ac)))] rfl rfl) (Au ?_)
       exact ⟨⟨[_, _], ⟨.tmp _ _ rfl, tm⟩, rfl⟩, ⟨rfl, tv⟩⟩
      ·refine Am (Ak Ax rfl (qm rfl (AZ rfl (qe rfl ?_))))
       exact sn [] h
    ·refine AS ?_
     exact sn [] h
   ·refine Ag hs (wq rfl (qa rfl (qe rfl ?_)))
    obtain rfl := sj h
    refine Ag ((AU 2 2012 1 rfl rfl rfl).trans (sm [(1000, 2012)] [(2, oD (.own 1000)), (3, iD 14)] [(1000, .vec 1 ((([] : List (List Aa))).map (DG Ac)))] rfl rfl)) (Au ?_)
    exact ⟨⟨[_, _], ⟨.tmp _ _ rfl, tm⟩, rfl⟩, ⟨rfl, tv⟩⟩
theorem Hi (N : Nat) (p0 : List Aa) (p1 : Aa) (r : Int) (h : Dr N p0 p1 = some r) : Ar zA 96 [pD (.sl (p0.map Ac)), .e (.agg (Fs p1))] [] (iD r) := by
 unfold Dr at h
 refine cw (n := 19) (rs := [.tmp 4]) Tryz.func96 fun w0 S0 => ?_
 refine wq rfl (qb rfl (qa rfl (Ad (wp rfl (qm rfl (AM A3 rfl (qm rfl (Ad ?_))))))))
 refine AE (L := BV N p0 p1) h (fun v1 => mk [(0, pD (.sl (p0.map Ac))), (3, oD (.ptr 3 0)), (7, iD ((p0.length : Int))), (8, iD v1)] [(3, .box (Fs p1))]) (fun v2 => mk [] []) (fun _ _ => rfl) (sm [] _ _ rfl rfl) (fun j1 n1 v1 h => ?_) (fun v2 s h hs => ?_)
 ·unfold BV at h
  refine wq rfl (AW rfl (Ad (AP ?_)))
  refine Bd h (fun h => ?_) fun h => ?_
  ·refine Am (AP (AK (wq rfl (qm rfl (qa rfl (Ad (wq rfl (qL It Cz rfl (qw 2 rfl ?_)))))))))
   refine BB h fun v4 a4 b4 h => qi A3 Cz a4 (Ah b4) rfl (qK It Cz rfl ?_)
   refine Us [.int .i64 p1.gt, .int .i64 p1.gr, .int .i64 p1.gu] [.int .i64 v4.gt, .int .i64 v4.gr, .int .i64 v4.gu] (.p rfl) rfl rfl QR rfl ?_
   refine AQ (by kernel_rfl) ?_
   refine Bd h (fun h => ?_) fun h => ?_
   ·refine wq rfl (qm rfl (qe rfl ?_))
    obtain rfl := sj h
    refine Ag (sm [] [(4, iD v1)] [] rfl rfl) (Au ?_)
    exact ⟨⟨[_], tm, rfl⟩, tv⟩
   ·refine Am (Ak Ax rfl (AZ rfl (qm rfl (Ad ?_))))
    exact sn [] h
  ·refine AS ?_
   exact sn [] h
 ·refine Ag hs (wq rfl (qe rfl ?_))
  obtain rfl := sj h
  refine Ag (sm [] [(4, iD ((-1)))] [] rfl rfl) (Au ?_)
  exact ⟨⟨[_], tm, rfl⟩, tv⟩
theorem GU (N : Nat) (p0 : List Aa) (p1 : Aa) (r : Bool) (h : C4 N p0 p1 = some r) : Ar zA 69 [pD (.sl (p0.map Ac)), .e (.agg (Fs p1))] [] (bD r) := by
 unfold C4 at h
 refine cw (n := 9) (rs := [.tmp 4]) Tryz.func69 fun w0 S0 => ?_
 refine wq rfl (qb rfl (qa rfl (Ad (wq rfl (qm rfl (qL It Cz rfl ?_))))))
 refine B1 h fun v1 a1 h => AA [] (Hi N p0 p1 v1 a1) fT rfl (F9 rfl (qe rfl ?_))
 obtain rfl := sj h
 refine Ag (sm [] [(4, bD ((decide (0 ≤ v1))))] [] rfl rfl) (Au ?_)
 exact ⟨⟨[_], tm, rfl⟩, tv⟩
theorem PA (N : Nat) (p0 : Ab) (p1 : List Aa) (r : Int) (h : I3 N p0 p1 = some r) : Ar zA 37 [.e (.agg (Ai p0)), pD (.sl (p1.map Ac))] [] (iD r) := by
 unfold I3 at h
 refine cw (n := 27) (rs := [.tmp 4]) Tryz.func37 fun w0 S0 => ?_
 refine wq rfl (qb rfl (qa rfl (Ad (wp rfl (qL CD BT rfl ?_)))))
 refine B1 h fun v1 a1 h => AA [] (Er N p0 v1 a1) Xi rfl (qa rfl (Ad (wq rfl (qm rfl (BF rfl (Ad ?_))))))
 refine Bd h (fun h => ?_) fun h => ?_
 ·refine wq rfl (qm rfl (qe rfl ?_))
  obtain rfl := sj h
  refine Ag (sm [] [(4, iD v1)] [] rfl rfl) (Au ?_)
  exact ⟨⟨[_], tm, rfl⟩, tv⟩
 ·refine Am (wq rfl (qL CD BT rfl ?_))
  refine B1 h fun v3 a3 h => AA [2001] (Iz N p0 v3 a3) cr rfl (qa rfl (Ad (wp rfl (qm rfl (AM A3 rfl (qm rfl (Ad ?_)))))))
  refine AE (L := GI N p1 v3) h (fun v4 => mk [(6, oD (.own 2002)), (16, pD (.sl (p1.map Ac))), (17, iD ((p1.length : Int))), (18, iD v4)] [(2002, .vec 3 (v3.map Ac))]) (fun v5 => mk [] []) (fun _ _ => rfl) (sm [(2002, 2001)] _ _ rfl rfl) (fun j4 n4 v4 h => ?_) (fun v5 s h hs => ?_)
  ·unfold GI at h
   refine wq rfl (AW rfl (Ad (AP ?_)))
   refine Bd h (fun h => ?_) fun h => ?_
   ·refine Am (AP (AK (wq rfl ?_)))
    refine BB h fun v7 a7 b7 h => qi A3 Cz a7 (Ah b7) rfl (qK It Cz rfl (qz GV rfl (qs Cz rfl (Ad (wq rfl (qm rfl (qL It Cz rfl ?_)))))))
    refine B1 h fun v8 a8 h => DU [] [2002] (GU N v3 v7 v8 a8) fU B9 rfl (CQ rfl (Ad ?_))
    refine Bd h (fun h => ?_) fun h => ?_
    ·refine wq rfl (qe rfl ?_)
     obtain rfl := sj h
     refine Ag (sm [] [(4, iD 4)] [] rfl rfl) (Au ?_)
     exact ⟨⟨[_], tm, rfl⟩, tv⟩
    ·refine Am (Ak Ax rfl (AZ rfl (qm rfl (Ad ?_))))
     exact sn [] h
   ·refine AS ?_
    exact sn [] h
  ·refine Ag hs (wq rfl (qe rfl ?_))
   obtain rfl := sj h
   refine Ag (sm [] [(4, iD 0)] [] rfl rfl) (Au ?_)
   exact ⟨⟨[_], tm, rfl⟩, tv⟩
theorem Fe (N : Nat) (p0 : List Aa) (r : (List Aa)) (h : Cl N p0 = some r) : Ar zA 15 [pD (.sl (p0.map Ac))] [(3, r.map Ac)] (oD (.own 0)) := by
 unfold Cl at h
 refine cw (n := 8) (rs := [.tmp 2]) Tryz.func15 fun w0 S0 => ?_
 refine wq rfl (qa rfl (Ad (wp rfl (qm rfl ?_))))
 refine Of (.p rfl) rfl A3 ?_
 refine Ad ?_
 refine N1 rfl (fun c2 => ?_) ?_
 ·have c2 := uY.1 c2
  rw [c2] at h
  have h : (some (([] : List Aa))) = some r := h
  refine wq rfl (qe rfl ?_)
  obtain rfl := sj h
  refine Ag ((AU 2 2001 3 rfl rfl rfl).trans (sm [(1000, 2001)] [(2, oD (.own 1000))] [(1000, .vec 3 ((([] : List Aa)).map Ac))] rfl rfl)) (Au ?_)
  exact ⟨⟨[_], tm, rfl⟩, ⟨rfl, tv⟩⟩
 ·refine Am (wq rfl (Eb A3 Cz GV rfl (qm rfl ?_)))
  refine F2 h fun c1 h => Hj (f := Ac) A3 A3 Cz LE GV (fun _ => rfl) c1 rfl (qe rfl ?_)
  obtain rfl := sj h
  refine Ag (sm [(1000, 7)] [(2, oD (.own 1000))] [(1000, .vec 3 (((([] : List Aa)) ++ p0).map Ac))] rfl rfl) (Au ?_)
  exact ⟨⟨[_], tm, rfl⟩, ⟨rfl, tv⟩⟩
def cC : Go.Shelf.Ren := ⟨fun | 6 => 38 | 14 => 70 | 15 => 71 | 20 => 97 | 21 => 98 | 22 => 99 | 23 => 100 | 24 => 101 | 25 => 102 | 26 => 103 | 27 => 104 | 28 => 105 | 29 => 106 | 46 => 132 | 47 => 133 | 48 => 134 | 49 => 135 | 50 => 136 | 57 => 153 | n => n, fun | 0 => 0 | 3 => 3 | 4 => 4 | 5 => 5 | 9 => 9 | 22 => 33 | 24 => 45 | 25 => 70 | 39 => 109 | 45 => 133 | 46 => 134 | 50 => 126 | 53 => 140 | 55 => 142 | 66 => 165 | 70 => 169 | 76 => 185 | 77 => 186 | n => n, fun n => n⟩
theorem cI : SlLaysF0.n6 zA cC := { mixed := Ax, f6 := ⟨Tryz.f38.name, by decide, Tryz.func38.trans (congrArg some (by kernel_rfl))⟩, f14 := ⟨Tryz.f70.name, by decide, Tryz.func70.trans (congrArg some (by kernel_rfl))⟩, f15 := Tryz.func71.trans (congrArg some (by kernel_rfl)), f20 := ⟨Tryz.f97.name, by decide, Tryz.func97.trans (congrArg some (by kernel_rfl))⟩, f21 := ⟨Tryz.f98.name, by decide, Tryz.func98.trans (congrArg some (by kernel_rfl))⟩, f22 := ⟨Tryz.f99.name, by decide, Tryz.func99.trans (congrArg some (by kernel_rfl))⟩, f23 := ⟨Tryz.f100.name, by decide, Tryz.func100.trans (congrArg some (by kernel_rfl))⟩, f24 := ⟨Tryz.f101.name, by decide, Tryz.func101.trans (congrArg some (by kernel_rfl))⟩, f25 := ⟨Tryz.f102.name, by decide, Tryz.func102.trans (congrArg some (by kernel_rfl))⟩, f26 := ⟨Tryz.f103.name, by decide, Tryz.func103.trans (congrArg some (by kernel_rfl))⟩, f27 := ⟨Tryz.f104.name, by decide, Tryz.func104.trans (congrArg some (by kernel_rfl))⟩, f28 := Tryz.func105.trans (congrArg some (by kernel_rfl)), f29 := Tryz.func106.trans (congrArg some (by kernel_rfl)), f46 := ⟨Tryz.f132.name, by decide, Tryz.func132.trans (congrArg some (by kernel_rfl))⟩, f47 := Tryz.func133.trans (congrArg some (by kernel_rfl)), f48 := Tryz.func134.trans (congrArg some (by kernel_rfl)), f49 := ⟨Tryz.f135.name, by decide, Tryz.func135.trans (congrArg some (by kernel_rfl))⟩, f50 := ⟨Tryz.f136.name, by decide, Tryz.func136.trans (congrArg some (by kernel_rfl))⟩, f57 := ⟨Tryz.f153.name, by decide, Tryz.func153.trans (congrArg some (by kernel_rfl))⟩, t0 := Tryz.underlying0, a0 := Tryz.isAgg0, z0 := Tryz.sizeOf0, v0 := Tryz.zeroValue0, t3 := Tryz.underlying3, a3 := Tryz.isAgg3, z3 := Tryz.sizeOf3, v3 := Tryz.zeroValue3, t4 := Tryz.underlying4, a4 := Tryz.isAgg4, z4 := Tryz.sizeOf4, v4 := Tryz.zeroValue4, t5 := Tryz.underlying5, a5 := Tryz.isAgg5, z5 := Tryz.sizeOf5, v5 := Tryz.zeroValue5, t9 := Tryz.underlying9, a9 := Tryz.isAgg9, z9 := Tryz.sizeOf9, v9 := Tryz.zeroValue9, t22 := Tryz.underlying33, a22 := Tryz.isAgg33, z22 := Tryz.sizeOf33, v22 := Tryz.zeroValue33, t25 := Tryz.underlying70, a25 := Tryz.isAgg70, z25 := Tryz.sizeOf70, v25 := Tryz.zeroValue70, t39 := Tryz.underlying109, a39 := Tryz.isAgg109, z39 := Tryz.sizeOf109, v39 := Tryz.zeroValue109, t45 := Tryz.underlying133, a45 := Tryz.isAgg133, z45 := Tryz.sizeOf133, v45 := Tryz.zeroValue133, t46 := Tryz.underlying134, a46 := Tryz.isAgg134, z46 := Tryz.sizeOf134, v46 := Tryz.zeroValue134, t50 := Tryz.underlying126, a50 := Tryz.isAgg126, z50 := Tryz.sizeOf126, v50 := Tryz.zeroValue126, t53 := Tryz.underlying140, a53 := Tryz.isAgg140, z53 := Tryz.sizeOf140, v53 := Tryz.zeroValue140, t55 := Tryz.underlying142, a55 := Tryz.isAgg142, z55 := Tryz.sizeOf142, v55 := Tryz.zeroValue142, t66 := Tryz.underlying165, a66 := Tryz.isAgg165, z66 := Tryz.sizeOf165, v66 := Tryz.zeroValue165, t70 := Tryz.underlying169, a70 := Tryz.isAgg169, z70 := Tryz.sizeOf169, v70 := Tryz.zeroValue169, t76 := Tryz.underlying185, a76 := Tryz.isAgg185, z76 := Tryz.sizeOf185, v76 := Tryz.zeroValue185, t77 := Tryz.underlying186, a77 := Tryz.isAgg186, z77 := Tryz.sizeOf186, v77 := Tryz.zeroValue186 }
theorem EH (N : Nat) (p0 : List Aa) (p1 : (Aa × Aa) → Option Int) (r : (List Aa)) (h : BX N p0 p1 = some r) : DV zA 38 [oD (.own 90000), oD (.clo (JV (cS true Ac true Ac) QU p1))] [(.vec 3 (p0.map Ac), .vec 3 (r.map Ac))] [] (.tup []) := Zp cI 3 (IU It) (DI Cz) QE (@O3) h
theorem Ly (N : Nat) (p0 : Int) (r : Bool) (h : GO N p0 = some r) : Ar zA 107 [iD p0] [] (bD r) := by
 unfold GO at h
 refine cw (n := 6) (rs := [.tmp 2]) Tryz.func107 fun w0 S0 => ?_
 refine wq rfl (qa rfl (Ad (wq rfl (qw 2 rfl (BF rfl (qe rfl ?_))))))
 obtain rfl := sj h
 refine Ag (sm [] [(2, bD ((p0 != p0)))] [] rfl rfl) (Au ?_)
 exact ⟨⟨[_], tm, rfl⟩, tv⟩
theorem IG (N : Nat) (p0 : Int) (p1 : Int) (r : Int) (h : En N p0 p1 = some r) : Ar zA 73 [iD p0, iD p1] [] (iD r) := by
 unfold En at h
 refine cw (n := 20) (rs := [.tmp 4]) Tryz.func73 fun w0 S0 => ?_
 refine wq rfl (qa rfl (Ad (wq rfl (qm rfl ?_))))
 refine B1 h fun v1 a1 h => AA [] (Ly N p0 v1 a1) aI rfl (qa rfl (Ad (wq rfl (qm rfl ?_))))
 refine B1 h fun v2 a2 h => AA [] (Ly N p1 v2 a2) aI rfl (qa rfl (Ad (wp rfl (qm rfl (Ad ?_)))))
 refine Bd h (fun h => ?_) fun h => ?_
 ·refine wp rfl (qm rfl (Ad ?_))
  refine Bd h (fun h => ?_) fun h => ?_
  ·refine wq rfl (qe rfl ?_)
   obtain rfl := sj h
   refine Ag (sm [] [(4, iD 0)] [] rfl rfl) (Au ?_)
   exact ⟨⟨[_], tm, rfl⟩, tv⟩
  ·refine Am (wq rfl (qe rfl ?_))
   obtain rfl := sj h
   refine Ag (sm [] [(4, iD ((-1)))] [] rfl rfl) (Au ?_)
   exact ⟨⟨[_], tm, rfl⟩, tv⟩
 ·refine Am (wp rfl (qm rfl (Ad ?_)))
  refine Bd h (fun h => ?_) fun h => ?_
  ·refine wq rfl (qe rfl ?_)
   obtain rfl := sj h
   refine Ag (sm [] [(4, iD 1)] [] rfl rfl) (Au ?_)
   exact ⟨⟨[_], tm, rfl⟩, tv⟩
  ·refine Am (wp rfl (qw 2 rfl (AW rfl (Ad ?_))))
   refine Bd h (fun h => ?_) fun h => ?_
   ·refine wq rfl (qe rfl ?_)
    obtain rfl := sj h
    refine Ag (sm [] [(4, iD ((-1)))] [] rfl rfl) (Au ?_)
    exact ⟨⟨[_], tm, rfl⟩, tv⟩
   ·refine Am (wp rfl (qw 2 rfl (GE rfl (Ad ?_))))
    refine Bd h (fun h => ?_) fun h => ?_
    ·refine wq rfl (qe rfl ?_)
     obtain rfl := sj h
     refine Ag (sm [] [(4, iD 1)] [] rfl rfl) (Au ?_)
     exact ⟨⟨[_], tm, rfl⟩, tv⟩
    ·refine Am (wq rfl (qe rfl ?_))
     obtain rfl := sj h
     refine Ag (sm [] [(4, iD 0)] [] rfl rfl) (Au ?_)
     exact ⟨⟨[_], tm, rfl⟩, tv⟩
theorem SH (N : Nat) (p0 : List Int) (r : Int) (h : HW N p0 = some r) : Ar zA 72 [pD (.sl (p0.map Aq))] [] (iD r) := by
 unfold HW at h
 refine cw (n := 18) (rs := [.tmp 2]) Tryz.func72 fun w0 S0 => ?_
 refine wq rfl (qa rfl (Ad (wq rfl (qa rfl (Ad (wp rfl (qm rfl (AM AC rfl (qm rfl (Ad ?_))))))))))
 refine AE (L := FZ N p0) h (fun v1 => mk [(3, iD 0), (6, pD (.sl (p0.map Aq))), (7, iD ((p0.length : Int))), (8, iD v1)] []) (fun v2 => mk [(3, iD 0)] []) (fun _ _ => rfl) (sm [] _ _ rfl rfl) (fun j1 n1 v1 h => ?_) (fun v2 s h hs => ?_)
 ·unfold FZ at h
  refine wq rfl (AW rfl (Ad (AP ?_)))
  refine Bd h (fun h => ?_) fun h => ?_
  ·refine Am (AP (AK (wq rfl ?_)))
   refine BB h fun v4 a4 b4 h => qi AC DR a4 (Ah b4) rfl (qk Cr rfl (qa rfl (Ad (wq rfl (qw 2 rfl (BF rfl (Ad ?_)))))))
   refine Bd h (fun h => ?_) fun h => ?_
   ·refine wq rfl (qm rfl (qe rfl ?_))
    obtain rfl := sj h
    refine Ag (sm [] [(2, iD v4)] [] rfl rfl) (Au ?_)
    exact ⟨⟨[_], tm, rfl⟩, tv⟩
   ·refine Am (Ak Ax rfl (AZ rfl (qm rfl (Ad ?_))))
    exact sn [] h
  ·refine AS ?_
   exact sn [] h
 ·refine Ag hs (wq rfl (qm rfl (qe rfl ?_)))
  obtain rfl := sj h
  refine Ag (sm [] [(2, iD 0)] [] rfl rfl) (Au ?_)
  exact ⟨⟨[_], tm, rfl⟩, tv⟩
theorem Kx (N : Nat) (p0 : Aa) (p1 : Aa) (r : Int) (h : CU N p0 p1 = some r) : Ar zA 39 [.e (.agg (Fs p0)), .e (.agg (Fs p1))] [] (iD r) := by
 unfold CU at h
 refine cw (n := 22) (rs := [.tmp 4]) Tryz.func39 fun w0 S0 => ?_
 refine wq rfl (qb rfl (qb rfl (qa rfl (Ad (wq rfl (qf S7 rfl (ql Cr rfl (qf S7 rfl (ql Cr rfl ?_)))))))))
 refine B1 h fun v1 a1 h => AA [] (IG N p0.gt p1.gt v1 a1) cA rfl (qf SS rfl (ql Cr rfl (qf SS rfl (ql Cr rfl ?_))))
 refine B1 h fun v2 a2 h => AA [] (IG N p0.gr p1.gr v2 a2) cA rfl (qf SW rfl (ql Cr rfl (qf SW rfl (ql Cr rfl ?_))))
 refine B1 h fun v3 a3 h => AA [] (IG N p0.gu p1.gu v3 a3) cA rfl (Eb AC DR Lf rfl ?_)
 refine B1 h fun v4 a4 h => DU [] [20] (SH N (([v1, v2, v3] : List Int)) v4 a4) fJ B9 rfl (qa rfl (AQ (by kernel_rfl) ?_))
 obtain rfl := sj h
 refine Ag (sm [] [(4, iD v4)] [] rfl rfl) (Au ?_)
 exact ⟨⟨[_], tm, rfl⟩, tv⟩
theorem EM (N : Nat) (p0 : List Aa) (r : Nat × (List Aa)) (h : Bt N p0 = some r) : DV zA 40 [oD (.own 90000)] [(.vec 3 (p0.map Ac), .vec 3 (r.2.map Ac))] [] (oD (.view 90000 3 0 r.1)) := by
 unfold Bt at h
 refine FF (n := 61) (rs := [.tmp 2]) Tryz.func40 rfl rfl rfl (Hy rfl) (Hy rfl) rfl rfl (Hy rfl) rfl (Hy rfl) fun w0 S0 GL => ?_
 refine Ag (sm [] [(0, oD (.own 90000))] [(90000, .vec 3 (p0.map Ac))] rfl rfl) (wq rfl (qa rfl (Ad (wp rfl (qm rfl (C3 A3 rfl (AW rfl (Ad ?_))))))))
 refine Bd h (fun h => ?_) fun h => ?_
 ·refine wq rfl (qm rfl (qe rfl ?_))
  obtain rfl := sj h
  refine Ag ((PM Ac p0 2 90000 3 rfl rfl).trans (sm [] [(2, oD (.view 90000 3 0 p0.length))] [(90000, .vec 3 (p0.map Ac))] rfl rfl)) (Au ?_)
  exact ⟨⟨[_], tm, rfl⟩, ⟨rfl, tv⟩, tv⟩
 ·refine Am (wp rfl (qe rfl ?_))
  refine AE (L := BQ N p0) h (fun v2 => mk [(0, oD (.own 90000)), (3, iD v2)] [(90000, .vec 3 (p0.map Ac))]) (fun v3 => mk [(0, oD (.own 90000))] [(90000, .vec 3 (p0.map Ac))]) (fun _ _ => rfl) (sm [] _ _ rfl rfl) (fun j2 n2 v2 h => ?_) (fun v3 s h hs => ?_)
  ·unfold BQ at h
   refine wp rfl (qw 2 rfl (C3 A3 rfl (AW rfl (Ad ?_))))
   refine Bd h (fun h => ?_) fun h => ?_
   ·refine Am (AP (AK (wq rfl (qw 2 rfl ?_))))
    refine BB h fun v5 a5 b5 h => qI A3 Cz a5 (Ah b5) rfl (qJ It Cz (Ah b5) rfl (qw 2 rfl (LN rfl ?_)))
    refine BB h fun v6 a6 b6 h => qI A3 Cz a6 (Ah b6) rfl (qJ It Cz (Ah b6) rfl ?_)
    refine Us [.int .i64 v5.gt, .int .i64 v5.gr, .int .i64 v5.gu] [.int .i64 v6.gt, .int .i64 v6.gr, .int .i64 v6.gu] (.p rfl) rfl rfl QR rfl ?_
    refine AQ (by kernel_rfl) ?_
    refine Bd h (fun h => ?_) fun h => ?_
    ·refine wq rfl (qw 2 rfl ?_)
     obtain ⟨c8, h⟩ := Fg h
     have w9 : ((v2).toNat) + ((p0.length - (v2).toNat)) ≤ p0.length := by have := c8.2.1; have := c8.2.2; omega
     refine HF Ac p0 (.p rfl) rfl (Hz Ac _ _ p0) rfl A3 Cz (.some _ _ _ _ c8.1) (.none _) ⟨rfl, tv⟩ tv c8.2.1 (by rw [zC]; exact c8.2.2) (zC _) rfl ?_
     refine qa rfl (Ad (wp rfl (qe rfl ?_)))
     refine AE (L := BL N p0 v2) h (fun v10 => mk [(0, oD (.own 90000)), (3, iD v10.2.1), (4, oD (.view 90000 3 ((v2).toNat) ((p0.length - (v2).toNat)))), (5, iD v10.2.2)] [(90000, .vec 3 (v10.1.map Ac))]) (fun v11 => mk [(0, oD (.own 90000)), (3, iD v11.2)] [(90000, .vec 3 (v11.1.map Ac))]) (fun _ _ => rfl) (sm [] _ _ rfl rfl) (fun j10 n10 v10 h => ?_) (fun v11 s h hs => ?_)
     ·unfold BL at h
      refine wp rfl (qw 2 rfl ?_)
      refine WK (.p rfl) rfl A3 ?_
      refine AW rfl (Ad ?_)
      refine Bd h (fun h => ?_) fun h => ?_
      ·refine Am ?_
       refine AT h (fun v13 => mk [(0, oD (.own 90000)), (3, iD v13.2), (4, oD (.view 90000 3 ((v2).toNat) ((p0.length - (v2).toNat)))), (5, iD v10.2.2)] [(90000, .vec 3 (v13.1.map Ac))]) (fun j13 h => ?_) (fun v13 h => ?_)
       ·refine AK (wq rfl (qw 2 rfl ?_))
        refine F2 h fun c15 h => BB h fun v14 a14 b14 h => OD Ac v10.1 (.p rfl) rfl c15 rfl rfl A3 Cz a14 (KW b14).1 rfl ?_
        refine N2 (.p rfl) rfl It Cz rfl (Ah (KW b14).2) ?_
        refine qw 2 rfl (LN rfl ?_)
        refine BB h fun v16 a16 b16 h => OD Ac v10.1 (.p rfl) rfl c15 rfl rfl A3 Cz a16 (KW b16).1 rfl ?_
        refine N2 (.p rfl) rfl It Cz rfl (Ah (KW b16).2) ?_
        refine aP [.int .i64 v14.gt, .int .i64 v14.gr, .int .i64 v14.gu] [.int .i64 v16.gt, .int .i64 v16.gr, .int .i64 v16.gu] (.p rfl) rfl rfl QR rfl ?_
        refine AQ (by kernel_rfl) ?_
        refine Bd h (fun h => ?_) fun h => ?_
        ·refine wq rfl (qw 4 rfl ?_)
         refine BB h fun v18 a18 b18 h => OD Ac v10.1 (.p rfl) rfl c15 rfl rfl A3 Cz a18 (KW b18).1 rfl ?_
         refine N2 (.p rfl) rfl It Cz rfl (Ah (KW b18).2) ?_
         refine BB h fun v19 a19 b19 h => qI A3 Cz a19 (Ah b19) rfl ?_
         refine Eg rfl rfl rfl rfl (Ah b19) rfl Cz rfl (Hy rfl) (Dh Ac v10.1 _ v18) ?_
         refine Ad (Ak Ax rfl (qm rfl (AZ rfl (qe rfl ?_))))
         exact sn [] h
        ·refine Am ?_
         exact sn [] h
       ·refine Ak Ax rfl (qm rfl (AZ rfl (qe rfl ?_)))
        exact sn [] h
      ·refine AS ?_
       exact sn [] h
     ·refine Ag hs (wq rfl (qw 2 rfl ?_))
      obtain ⟨c20, h⟩ := Fg h
      have w21 : ((v11.2).toNat) + ((v11.1.length - (v11.2).toNat)) ≤ v11.1.length := by have := c20.2.1; have := c20.2.2; omega
      refine HF Ac v11.1 (.p rfl) rfl (Hz Ac _ _ v11.1) rfl A3 Cz (.some _ _ _ _ c20.1) (.none _) ⟨rfl, tv⟩ tv c20.2.1 (by rw [zC]; exact c20.2.2) (zC _) rfl ?_
      have w22 : (GZ v11.1 ((v11.2).toNat) (zD ((v11.1.length - (v11.2).toNat)) ((Aa.mk 0 0 0)))).length = v11.1.length := H7 (by rw [List.length_replicate]; exact w21)
      refine Qm Ac v11.1 ((Aa.mk 0 0 0)) rfl rfl (JO Ac _ _ ((v11.2).toNat) ((v11.1.length - (v11.2).toNat)) v11.1 w21) rfl A3 GV rfl rfl rfl rfl ?_
      refine Ad (wq rfl (qw 2 rfl ?_))
      obtain ⟨c23, h⟩ := Fg h
      have w24 : 0 + ((v11.2).toNat) ≤ (GZ v11.1 ((v11.2).toNat) (zD ((v11.1.length - (v11.2).toNat)) ((Aa.mk 0 0 0)))).length := by have := c23.2.1; have := c23.2.2; omega
      refine HF Ac (GZ v11.1 ((v11.2).toNat) (zD ((v11.1.length - (v11.2).toNat)) ((Aa.mk 0 0 0)))) (.p rfl) rfl (Hz Ac _ _ (GZ v11.1 ((v11.2).toNat) (zD ((v11.1.length - (v11.2).toNat)) ((Aa.mk 0 0 0))))) rfl A3 Cz (.none _) (.some _ _ _ _ c23.1) tv ⟨rfl, tv⟩ c23.2.1 (by rw [zC]; exact c23.2.2) (zC _) rfl ?_
      refine qa rfl (Ad ?_)
      obtain rfl := sj h
      refine Ag (sm [] [(2, oD (.view 90000 3 0 ((v11.2).toNat)))] [(90000, .vec 3 ((GZ v11.1 ((v11.2).toNat) (zD ((v11.1.length - (v11.2).toNat)) ((Aa.mk 0 0 0)))).map Ac))] rfl rfl) (Au ?_)
      exact ⟨⟨[_], tm, rfl⟩, ⟨rfl, tv⟩, tv⟩
    ·refine Am (Ak Ax rfl (qm rfl (AZ rfl (qe rfl ?_))))
     exact sn [] h
   ·refine AS ?_
    exact sn [] h
  ·refine Ag hs (wq rfl (qm rfl (qe rfl ?_)))
   obtain rfl := sj h
   refine Ag ((PM Ac p0 2 90000 3 rfl rfl).trans (sm [] [(2, oD (.view 90000 3 0 p0.length))] [(90000, .vec 3 (p0.map Ac))] rfl rfl)) (Au ?_)
   exact ⟨⟨[_], tm, rfl⟩, ⟨rfl, tv⟩, tv⟩
theorem Hc (N : Nat) (p0 : List Aa) (p1 : Int) (p2 : Int) (r : Nat × (List Aa)) (h : Dn N p0 p1 p2 = some r) : DV zA 25 [oD (.own 90000), iD p1, iD p2] [(.vec 3 (p0.map Ac), .vec 3 (r.2.map Ac))] [] (oD (.view 90000 3 0 r.1)) := by
 unfold Dn at h
 refine FF (n := 33) (rs := [.tmp 6]) Tryz.func25 rfl rfl rfl (Hy rfl) (Hy rfl) rfl rfl (Hy rfl) rfl (Hy rfl) fun w0 S0 GL => ?_
 refine Ag (sm [] [(0, oD (.own 90000)), (1, iD p1), (2, iD p2)] [(90000, .vec 3 (p0.map Ac))] rfl rfl) (wq rfl (qa rfl (Ad (wq rfl (qw 4 rfl (C3 A3 rfl ?_))))))
 refine F2 h fun c1 h => YX (.p rfl) rfl rfl A3 Cz rfl rfl rfl c1.1 c1.2.1 c1.2.2.1 c1.2.2.2.1 c1.2.2.2.2.1 (by rw [zI]; exact c1.2.2.2.2.2) ?_
 refine Ad (wp rfl (qw 2 rfl (B5 rfl (Ad ?_))))
 refine Bd h (fun h => ?_) fun h => ?_
 ·refine wq rfl (qm rfl (qe rfl ?_))
  obtain rfl := sj h
  refine Ag ((PM Ac p0 6 90000 3 rfl rfl).trans (sm [] [(6, oD (.view 90000 3 0 p0.length))] [(90000, .vec 3 (p0.map Ac))] rfl rfl)) (Au ?_)
  exact ⟨⟨[_], tm, rfl⟩, ⟨rfl, tv⟩, tv⟩
 ·refine Am (wq rfl (qm rfl (C3 A3 rfl (qa rfl (Ad (wq rfl (qw 2 rfl ?_)))))))
  obtain ⟨c3, h⟩ := Fg h
  have w4 : 0 + ((p1).toNat) ≤ p0.length := by have := c3.2.1; have := c3.2.2; omega
  refine HF Ac p0 (.p rfl) rfl (Hz Ac _ _ p0) rfl A3 Cz (.none _) (.some _ _ _ _ c3.1) tv ⟨rfl, tv⟩ c3.2.1 (by rw [zC]; exact c3.2.2) (zC _) rfl ?_
  refine qw 2 rfl ?_
  obtain ⟨c5, h⟩ := Fg h
  have w6 : ((p2).toNat) + ((p0.length - (p2).toNat)) ≤ p0.length := by have := c5.2.1; have := c5.2.2; omega
  refine HF Ac p0 (.p rfl) rfl (Hz Ac _ _ p0) rfl A3 Cz (.some _ _ _ _ c5.1) (.none _) ⟨rfl, tv⟩ tv c5.2.1 (by rw [zC]; exact c5.2.2) (zC _) rfl ?_
  obtain ⟨c7, h⟩ := Fg h
  have w9f : 0 + ((p1).toNat) + (((p0.drop ((p2).toNat)).take ((p0.length - (p2).toNat)))).length ≤ p0.length := by have := c7; omega
  have w8 : (GZ p0 (0 + ((p1).toNat)) (((p0.drop ((p2).toNat)).take ((p0.length - (p2).toNat))))).length = p0.length := H7 w9f
  have w9 : 0 + ((p1).toNat + (((p0.drop ((p2).toNat)).take ((p0.length - (p2).toNat)))).length) ≤ (GZ p0 (0 + ((p1).toNat)) (((p0.drop ((p2).toNat)).take ((p0.length - (p2).toNat))))).length := by rw [w8]; have := c7; omega
  refine VU Ac p0 (((p0.drop ((p2).toNat)).take ((p0.length - (p2).toNat)))) (.p rfl) rfl (JO Ac _ _ 0 ((p1).toNat) p0 w4) rfl rfl (RW Ac _ _ ((p2).toNat) ((p0.length - (p2).toNat)) p0 w6) ⟨rfl, tv⟩ A3 A3 Cz w9f rfl ?_
  refine qa rfl (AQ (by kernel_rfl) (wq rfl (qw 2 rfl ?_)))
  refine WK (.p rfl) rfl A3 ?_
  refine qm rfl ?_
  obtain ⟨c10, h⟩ := Fg h
  have w11 : (((((((p1).toNat + (((p0.drop ((p2).toNat)).take ((p0.length - (p2).toNat)))).length)) : Nat) : Int)).toNat) + ((((p0.length : Int)).toNat - ((((((p1).toNat + (((p0.drop ((p2).toNat)).take ((p0.length - (p2).toNat)))).length)) : Nat) : Int)).toNat)) ≤ (GZ p0 (0 + ((p1).toNat)) (((p0.drop ((p2).toNat)).take ((p0.length - (p2).toNat))))).length := by have := c10.2.2.1; have := c10.2.2.2; omega
  refine HF Ac (GZ p0 (0 + ((p1).toNat)) (((p0.drop ((p2).toNat)).take ((p0.length - (p2).toNat))))) (.p rfl) rfl (JO Ac _ _ 0 (((p1).toNat + (((p0.drop ((p2).toNat)).take ((p0.length - (p2).toNat)))).length)) (GZ p0 (0 + ((p1).toNat)) (((p0.drop ((p2).toNat)).take ((p0.length - (p2).toNat))))) w9) rfl A3 Cz (.some _ _ _ _ c10.1) (.some _ _ _ _ c10.2.1) ⟨rfl, tv⟩ ⟨rfl, tv⟩ c10.2.2.1 (by rw [zC]; exact c10.2.2.2) (zC _) rfl ?_
  have w12 : (GZ (GZ p0 (0 + ((p1).toNat)) (((p0.drop ((p2).toNat)).take ((p0.length - (p2).toNat))))) (((((((p1).toNat + (((p0.drop ((p2).toNat)).take ((p0.length - (p2).toNat)))).length)) : Nat) : Int)).toNat) (zD ((((p0.length : Int)).toNat - ((((((p1).toNat + (((p0.drop ((p2).toNat)).take ((p0.length - (p2).toNat)))).length)) : Nat) : Int)).toNat)) ((Aa.mk 0 0 0)))).length = (GZ p0 (0 + ((p1).toNat)) (((p0.drop ((p2).toNat)).take ((p0.length - (p2).toNat))))).length := H7 (by rw [List.length_replicate]; exact w11)
  refine Qm Ac (GZ p0 (0 + ((p1).toNat)) (((p0.drop ((p2).toNat)).take ((p0.length - (p2).toNat))))) ((Aa.mk 0 0 0)) rfl rfl (JO Ac _ _ (((((((p1).toNat + (((p0.drop ((p2).toNat)).take ((p0.length - (p2).toNat)))).length)) : Nat) : Int)).toNat) ((((p0.length : Int)).toNat - ((((((p1).toNat + (((p0.drop ((p2).toNat)).take ((p0.length - (p2).toNat)))).length)) : Nat) : Int)).toNat)) (GZ p0 (0 + ((p1).toNat)) (((p0.drop ((p2).toNat)).take ((p0.length - (p2).toNat))))) w11) rfl A3 GV rfl rfl rfl rfl ?_
  refine Ad (wq rfl (qm rfl (qe rfl ?_)))
  obtain rfl := sj h
  refine Ag (sm [] [(6, oD (.view 90000 3 0 (((p1).toNat + (((p0.drop ((p2).toNat)).take ((p0.length - (p2).toNat)))).length))))] [(90000, .vec 3 ((GZ (GZ p0 (0 + ((p1).toNat)) (((p0.drop ((p2).toNat)).take ((p0.length - (p2).toNat))))) (((((((p1).toNat + (((p0.drop ((p2).toNat)).take ((p0.length - (p2).toNat)))).length)) : Nat) : Int)).toNat) (zD ((((p0.length : Int)).toNat - ((((((p1).toNat + (((p0.drop ((p2).toNat)).take ((p0.length - (p2).toNat)))).length)) : Nat) : Int)).toNat)) ((Aa.mk 0 0 0)))).map Ac))] rfl rfl) (Au ?_)
  exact ⟨⟨[_], tm, rfl⟩, ⟨rfl, tv⟩, tv⟩
theorem NP (N : Nat) (p0 : Ab) (p1 : List Aa) (r : Bool × Int) (h : Ia N p0 p1 = some r) : Ar zA 14 [.e (.agg (Ai p0)), pD (.sl (p1.map Ac))] [] (.tup [.one (.pure (.val (.bool r.1))), .one (iC r.2)]) := by
 unfold Ia at h
 refine cw (n := 69) (rs := [.tmp 4, .tmp 5]) Tryz.func14 fun w0 S0 => ?_
 refine wq rfl (qb rfl (qa rfl (qa rfl (Ad (wp rfl (qL CD BT rfl (qm rfl ?_)))))))
 refine B1 h fun v1 a1 h => AA [] (PA N p0 p1 v1 a1) ft rfl (qa rfl (Ad (wq rfl (qm rfl (BF rfl (Ad ?_))))))
 refine Bd h (fun h => ?_) fun h => ?_
 ·refine wq rfl (qm rfl (qa rfl (qe rfl ?_)))
  obtain rfl := sj h
  refine Ag (sm [] [(4, bD false), (5, iD v1)] [] rfl rfl) (Au ?_)
  exact ⟨⟨[_, _], ⟨.tmp _ _ rfl, tm⟩, rfl⟩, tv⟩
 ·refine Am (wq rfl (qm rfl ?_))
  refine B1 h fun v3 a3 h => AA [2001] (Fe N p1 v3 a3) cX rfl (qa rfl (Ad (wq rfl (qm rfl ?_))))
  refine B1 h fun v4 a4 h => IJ (ds0 := [_, _]) [2001] [] [true] (DV.weak (ds' := [_, oD (.fnc 39)]) (EH N v3 ((fun (x : Aa × Aa) => CU N x.1 x.2)) v4 a4) ⟨(fun _ _ _ hh => hh), (fun _ _ _ hh => UD de (fun ar t ht => by obtain ⟨x, r, rfl, hq, rfl⟩ := JQ ht; exact Kx N x.1 x.2 r hq) hh), tv⟩) (.p rfl) d9 rfl ⟨rfl, rfl, tv⟩ rfl rfl (by decide) ⟨rfl, tv⟩ rfl (EA rfl) tv ⟨(fun h => by cases h), tv⟩ rfl rfl rfl ?_
  refine Ad (wq rfl (qm rfl ?_))
  obtain ⟨v5, a5, h⟩ := bind_some h
  obtain ⟨c6, h⟩ := Fg h
  have w7 : 0 + v5.1 ≤ v5.2.length := by rw [zC]; exact c6
  refine IJ (ds0 := [_]) [2001] [] [true] (EM N v4 v5 a5) (.p rfl) ej rfl ⟨rfl, tv⟩ rfl rfl (by decide) ⟨rfl, tv⟩ rfl (EA rfl) tv ⟨(fun h => by cases h), tv⟩ rfl rfl rfl ?_
  refine Et (VH Ac v5.2 24 2001 2002 3 v5.1 rfl rfl rfl rfl rfl c6) (qa rfl (Ad (AP ?_)))
  refine AT h (fun v8 => mk [(2, oD (.ptr 2 0)), (7, oD (.own 2003)), (33, bD v8)] [(2, .box (Ai p0)), (2003, .vec 3 ((v5.2.take v5.1).map Ac))]) (fun j8 h => ?_) (fun v8 h => ?_)
  ·refine Ak Ax rfl (qL CD BT rfl ?_)
   refine B1 h fun v9 a9 h => AA [2004] (Iz N p0 v9 a9) cr rfl (C3 A3 rfl (GE rfl (qm rfl ?_)))
   refine EU 29 h rfl (fun h => ?_) fun h => ?_
   ·refine qw 3 rfl (qp rfl (Ad ?_))
    exact sn [(2003, 2002)] h
   ·refine qm rfl (C3 A3 rfl (GE rfl (qp rfl (Ad ?_))))
    exact sn [(2003, 2002)] h
  ·refine Bd h (fun h => ?_) fun h => ?_
   ·refine wq rfl (qa rfl (qe rfl ?_))
    obtain rfl := sj h
    refine Ag (sm [] [(4, bD false), (5, iD 3)] [] rfl rfl) (Au ?_)
    exact ⟨⟨[_, _], ⟨.tmp _ _ rfl, tm⟩, rfl⟩, tv⟩
   ·refine Am (wq rfl (qL CD BT rfl (qm rfl ?_)))
    refine B1 h fun v12 a12 h => DU [] [2003] (IL N p0 (v5.2.take v5.1) v12 a12) cz B9 rfl (qm rfl (qx rfl (qx rfl (qa rfl (qa rfl (Ad (wp rfl (qm rfl (BF rfl (Ad ?_))))))))))
    refine Bd h (fun h => ?_) fun h => ?_
    ·refine wq rfl (qm rfl (qa rfl (qe rfl ?_)))
     obtain rfl := sj h
     refine Ag (sm [] [(4, bD false), (5, iD v12.2)] [] rfl rfl) (Au ?_)
     exact ⟨⟨[_, _], ⟨.tmp _ _ rfl, tm⟩, rfl⟩, tv⟩
    ·refine Am (wp rfl (qm rfl (C3 A3 rfl (qm rfl (Ad ?_)))))
     refine AE (L := FX N p0 v5) h (fun v14 => mk [(2, oD (.ptr 2 0)), (7, oD (.own 2005)), (8, bD v14.1), (44, iD (((v5.2.take v5.1).length : Int))), (45, iD v14.2)] [(2, .box (Ai p0)), (2005, .vec 3 ((v5.2.take v5.1).map Ac))]) (fun v15 => mk [(8, bD v15)] []) (fun _ _ => rfl) (sm [(2005, 2003)] _ _ rfl rfl) (fun j14 n14 v14 h => ?_) (fun v15 s h hs => ?_)
     ·unfold FX at h
      refine wq rfl (AW rfl (Ad (AP ?_)))
      refine Bd h (fun h => ?_) fun h => ?_
      ·refine Am ?_
       refine AT h (fun v17 => mk [(2, oD (.ptr 2 0)), (7, oD (.own 2006)), (8, bD v17), (44, iD (((v5.2.take v5.1).length : Int))), (45, iD v14.2)] [(2, .box (Ai p0)), (2006, .vec 3 ((v5.2.take v5.1).map Ac))]) (fun j17 h => ?_) (fun v17 h => ?_)
       ·refine AK (wq rfl (qm rfl (qa rfl (Ad (wq rfl (qL CD BT rfl (qm rfl ?_)))))))
        refine B1 h fun v18 a18 h => DU [2007] [2005] (Fe N (v5.2.take v5.1) v18 a18) cX (G4 (fun _ => rfl) B9) rfl (qw 2 rfl (AZ rfl ?_))
        obtain ⟨v19, a19, h⟩ := bind_some h
        obtain ⟨c20, h⟩ := Fg h
        have w21 : 0 + v19.1 ≤ v19.2.length := by rw [zC]; exact c20
        refine IJ (ds0 := [_, _, _]) [2007] [] [true] (Hc N v18 v14.2 ((wI .i64 (v14.2 + 1))) v19 a19) (.p rfl) fr rfl ⟨rfl, rfl, rfl, tv⟩ rfl rfl (by decide) ⟨rfl, tv⟩ rfl (EA rfl) tv ⟨(fun h => by cases h), tv⟩ rfl rfl rfl ?_
        refine B1 h fun v22 a22 h => Wp (ds0 := [_, _]) [] [(2007, _)] (IL N p0 (((v19.2.drop 0).take v19.1)) v22 a22) (.p rfl) cz rfl ⟨rfl, rfl, tv⟩ ⟨rfl, tv⟩ (ap (aa w21 rfl rfl)) rfl rfl (EA rfl) tv rfl B9 rfl ?_
        refine qm rfl (qx rfl (qx rfl (qa rfl (qa rfl (AQ (by kernel_rfl) (wp rfl (qm rfl (BF rfl (Ad ?_)))))))))
        refine Bd h (fun h => ?_) fun h => ?_
        ·refine wq rfl (qm rfl (qa rfl (qe rfl ?_)))
         obtain rfl := sj h
         refine Ag (sm [] [(4, bD false), (5, iD v22.2)] [] rfl rfl) (Au ?_)
         exact ⟨⟨[_, _], ⟨.tmp _ _ rfl, tm⟩, rfl⟩, tv⟩
        ·refine Am (Ak Ax rfl (qw 2 rfl ?_))
         refine EU 63 h rfl (fun h => ?_) fun h => ?_
         ·refine qm rfl (CQ rfl (qp rfl (qe rfl ?_)))
          exact sn [(2006, 2005)] h
         ·refine qw 2 rfl (qp rfl (qe rfl ?_))
          exact sn [(2006, 2005)] h
       ·refine Ak Ax rfl (AZ rfl (qm rfl (Ad ?_)))
        exact sn [(2005, 2006)] h
      ·refine AS ?_
       exact sn [] h
     ·refine Ag hs (wq rfl (qm rfl (qa rfl (qe rfl ?_))))
      obtain rfl := sj h
      refine Ag (sm [] [(4, bD v15), (5, iD 0)] [] rfl rfl) (Au ?_)
      exact ⟨⟨[_, _], ⟨.tmp _ _ rfl, tm⟩, rfl⟩, tv⟩
theorem LF (N : Nat) (p0 : Ab) (r : (List Aa) × Int) (h : F1 N p0 = some r) : Ar zA 12 [.e (.agg (Ai p0))] [] (.tup [.one (sC (r.1.map Ac)), .one (iC r.2)]) := by
 unfold F1 at h
 refine cw (n := 17) (rs := [.tmp 2, .tmp 3]) Tryz.func12 fun w0 S0 => ?_
 refine wq rfl (qb rfl (qa rfl (qa rfl (Ad (wq rfl (qL CD BT rfl ?_))))))
 refine B1 h fun v1 a1 h => AA [2001] (I4 N p0 v1 a1) Zr rfl (qm rfl (qx rfl (qx rfl (qa rfl (qa rfl (Ad (wp rfl (qm rfl (BF rfl (Ad ?_))))))))))
 refine Bd h (fun h => ?_) fun h => ?_
 ·refine wq rfl (qm rfl (qa rfl (qe rfl ?_)))
  obtain rfl := sj h
  refine Ag ((N3 2 _ rfl).trans (sm [] [(2, pD (.sl ((([] : List Aa)).map Ac))), (3, iD v1.2)] [] rfl rfl)) (Au ?_)
  exact ⟨⟨[_, _], ⟨.tmp _ _ rfl, tm⟩, rfl⟩, tv⟩
 ·refine Am (wq rfl (qm rfl ?_))
  refine BB h fun v3 a3 b3 h => qI EL Ki a3 (Ah b3) rfl (qj Pw (Ah b3) rfl (qa rfl (qe rfl ?_)))
  obtain rfl := sj h
  refine Ag (sm [] [(2, pD (.sl (v3.map Ac))), (3, iD 0)] [] rfl rfl) (Au ?_)
  exact ⟨⟨[_, _], ⟨.tmp _ _ rfl, tm⟩, rfl⟩, tv⟩
theorem Jw (N : Nat) (r : Bool) (h : Ex N = some r) : Ar zA 11 [] [] (bD r) := by
 unfold Ex at h
 refine cw (n := 79) (rs := [.tmp 0]) Tryz.func11 fun w0 S0 => ?_
 refine wq rfl (qa rfl (Ad (wq rfl ?_)))
 refine B1 h fun v1 a1 h => AA [2001, 2002, 2003, 2004] (Ge N v1 a1) Zw rfl (Et (BJ 2001 _ _ rfl rfl) (Et (BJ 2002 _ _ rfl rfl) (Et (BJ 2003 _ _ rfl rfl) (Et (BJ 2004 _ _ rfl rfl) ?_))))
 refine B1 h fun v2 a2 h => AA [2005] (I4 N v1 v2 a2) Zr rfl (qm rfl (qx rfl (qx rfl (qa rfl (qa rfl (Ad (wq rfl ?_)))))))
 refine B1 h fun v3 a3 h => AA [2006, 2007, 2008, 2009] (Ge N v3 a3) Zw rfl ?_
 refine B1 h fun v4 a4 h => DU [2010] [2006, 2007, 2008, 2009] (KB N v3 v4 a4) cZ (G4 (fun _ => rfl) B9) rfl (qm rfl (qx rfl (qx rfl (qa rfl (qa rfl (Ad (wq rfl ?_)))))))
 refine B1 h fun v5 a5 h => AA [2011, 2012, 2013, 2014] (Ge N v5 a5) Zw rfl (qm rfl ?_)
 refine B1 h fun v6 a6 h => DU [] [2011, 2012, 2013, 2014, 2010] (NP N v5 v4.1 v6 a6) fv B9 rfl (qm rfl (qx rfl (qx rfl (qa rfl (qa rfl (Ad (wq rfl ?_)))))))
 refine B1 h fun v7 a7 h => AA [2015, 2016, 2017, 2018] (Ge N v7 a7) Zw rfl (Et (BJ 2015 _ _ rfl rfl) (Et (BJ 2016 _ _ rfl rfl) (Et (BJ 2017 _ _ rfl rfl) (Et (BJ 2018 _ _ rfl rfl) ?_))))
 refine B1 h fun v8 a8 h => AA [] (LF N v7 v8 a8) eH rfl (qm rfl (qx rfl (qx rfl (qa rfl (qa rfl (Ad (wq rfl (Bm GV Ro rfl (qz GV rfl (qs Cz rfl (Ad ?_)))))))))))
 refine AT h (fun v9 => mk [(0, bD v9)] []) (fun j9 h => ?_) (fun v9 h => ?_)
 ·refine Ak Ax rfl (qm rfl (B5 rfl (qm rfl ?_)))
  refine EU 34 h rfl (fun h => ?_) fun h => ?_
  ·refine qm rfl (B5 rfl (qp rfl (qm rfl ?_)))
   refine EU 38 h rfl (fun h => ?_) fun h => ?_
   ·refine qm rfl (B5 rfl (qp rfl (qm rfl ?_)))
    refine EU 42 h rfl (fun h => ?_) fun h => ?_
    ·refine qm rfl (B5 rfl (qp rfl (qm rfl ?_)))
     refine EU 46 h rfl (fun h => ?_) fun h => ?_
     ·refine qm rfl (C3 EL rfl (B5 rfl (qp rfl (qm rfl ?_))))
      refine EU 51 h rfl (fun h => ?_) fun h => ?_
      ·refine qm rfl (C3 A3 rfl (B5 rfl (qp rfl (qm rfl ?_))))
       refine EU 56 h rfl (fun h => ?_) fun h => ?_
       ·refine qm rfl ?_
        refine BB h fun v16 a16 b16 h => qI A3 Cz a16 (Ah b16) rfl (qJ It Cz (Ah b16) rfl (qL It Cz rfl ?_))
        refine Us [.int .i64 v16.gt, .int .i64 v16.gr, .int .i64 v16.gu] [.int .i64 0, .int .i64 0, .int .i64 1] (.g rfl rfl) rfl rfl QR rfl ?_
        refine qp rfl (qm rfl ?_)
        refine EU 63 h rfl (fun h => ?_) fun h => ?_
        ·refine qm rfl (CQ rfl (qp rfl (qm rfl ?_)))
         refine EU 67 h rfl (fun h => ?_) fun h => ?_
         ·refine qm rfl (AM A3 rfl (B5 rfl (qp rfl (qm rfl ?_))))
          refine EU 72 h rfl (fun h => ?_) fun h => ?_
          ·refine qm rfl ?_
           refine BB h fun v20 a20 b20 h => qi A3 Cz a20 (Ah b20) rfl (qK It Cz rfl (qL It Cz rfl ?_))
           refine Us [.int .i64 v20.gt, .int .i64 v20.gr, .int .i64 v20.gu] [.int .i64 0, .int .i64 0, .int .i64 1] (.g rfl rfl) rfl rfl QR rfl ?_
           refine qp rfl (qa rfl (AQ (by kernel_rfl) ?_))
           exact sn [] h
          ·refine qw 5 rfl (qp rfl (qa rfl (AQ (by kernel_rfl) ?_)))
           exact sn [] h
         ·refine qw 3 rfl (qp rfl (qw 6 rfl (qp rfl (qa rfl (AQ (by kernel_rfl) ?_)))))
          exact sn [] h
        ·refine qw 2 rfl (qp rfl (qw 4 rfl (qp rfl (qw 6 rfl (qp rfl (qa rfl (AQ (by kernel_rfl) ?_)))))))
         exact sn [] h
       ·refine qw 5 rfl (qp rfl (qw 3 rfl (qp rfl (qw 4 rfl (qp rfl (qw 6 rfl (qp rfl (qa rfl (AQ (by kernel_rfl) ?_)))))))))
        exact sn [] h
      ·refine qw 3 rfl (qp rfl (qw 6 rfl (qp rfl (qw 3 rfl (qp rfl (qw 4 rfl (qp rfl (qw 6 rfl (qp rfl (qa rfl (AQ (by kernel_rfl) ?_)))))))))))
       exact sn [] h
     ·refine qw 3 rfl (qp rfl (qw 4 rfl (qp rfl (qw 6 rfl (qp rfl (qw 3 rfl (qp rfl (qw 4 rfl (qp rfl (qw 6 rfl (qp rfl (qa rfl (AQ (by kernel_rfl) ?_)))))))))))))
      exact sn [] h
    ·refine qw 2 rfl (qp rfl (qw 4 rfl (qp rfl (qw 4 rfl (qp rfl (qw 6 rfl (qp rfl (qw 3 rfl (qp rfl (qw 4 rfl (qp rfl (qw 6 rfl (qp rfl (qa rfl (AQ (by kernel_rfl) ?_)))))))))))))))
     exact sn [] h
   ·refine qw 2 rfl (qp rfl (qw 3 rfl (qp rfl (qw 4 rfl (qp rfl (qw 4 rfl (qp rfl (qw 6 rfl (qp rfl (qw 3 rfl (qp rfl (qw 4 rfl (qp rfl (qw 6 rfl (qp rfl ?_)))))))))))))))
    refine qa rfl (AQ (by kernel_rfl) ?_)
    exact sn [] h
  ·refine qw 2 rfl (qp rfl (qw 3 rfl (qp rfl (qw 3 rfl (qp rfl (qw 4 rfl (qp rfl (qw 4 rfl (qp rfl (qw 6 rfl (qp rfl (qw 3 rfl (qp rfl (qw 4 rfl (qp rfl (qw 3 rfl ?_))))))))))))))))
   refine qw 3 rfl (qp rfl (qa rfl (AQ (by kernel_rfl) ?_)))
   exact sn [] h
 ·obtain rfl := sj h
  refine Ag (sm [] [(0, bD v9)] [] rfl rfl) (Au ?_)
  exact ⟨⟨[_], tm, rfl⟩, tv⟩
theorem Lp (N : Nat) (rc : (List Aa) → Int → Option ((List (List Aa)))) (hrc : ∀ (p0 : List Aa) (p1 : Int) (r : (List (List Aa))), rc p0 p1 = some r → Ar zA 53 [pD (.sl (p0.map Ac)), iD p1] [(1, r.map (DG Ac))] (oD (.own 0))) (p0 : List Aa) (p1 : Int) (r : (List (List Aa))) (h : FI N rc p0 p1 = some r) : Ar zA 53 [pD (.sl (p0.map Ac)), iD p1] [(1, r.map (DG Ac))] (oD (.own 0)) := by
 unfold FI at h
 refine cw (n := 45) (rs := [.tmp 4]) Tryz.func53 fun w0 S0 => ?_
 refine wq rfl (qa rfl (Ad (wp rfl (qm rfl (B5 rfl (Ad ?_))))))
 refine Bd h (fun h => ?_) fun h => ?_
 ·refine wq rfl (Eb EL Ki Re rfl (qe rfl ?_))
  obtain rfl := sj h
  refine Ag (sm [(1000, 11)] [(4, oD (.own 1000))] [(1000, .vec 1 ((([([] : List Aa)] : List (List Aa))).map (DG Ac)))] rfl rfl) (Au ?_)
  exact ⟨⟨[_], tm, rfl⟩, ⟨rfl, tv⟩⟩
 ·refine Am (wq rfl (qa rfl (Ad (wp rfl (qe rfl ?_)))))
  refine AE (L := Ci N p0 p1 rc) h (fun v2 => mk [(0, pD (.sl (p0.map Ac))), (1, iD p1), (5, oD (.own 2001)), (6, iD v2.2)] [(2001, .vec 1 (v2.1.map (DG Ac)))]) (fun v3 => mk [(5, oD (.own 2002))] [(2002, .vec 1 (v3.map (DG Ac)))]) (fun _ _ => rfl) ((AU 5 2007 1 rfl rfl rfl).trans (sm [(2001, 2007)] _ _ rfl rfl)) (fun j2 n2 v2 h => ?_) (fun v3 s h hs => ?_)
  ·unfold Ci at h
   refine wp rfl (qw 2 rfl (AM A3 rfl (AW rfl (Ad ?_))))
   refine Bd h (fun h => ?_) fun h => ?_
   ·refine Am (AP (AK (wq rfl (qw 2 rfl (AZ rfl ?_)))))
    refine F2 h fun c5 h => Wt (.p rfl) rfl A3 Cz (L5 (f := Ac) (n := 3) (fun _ => rfl) _) (.some _ _ _ _ c5.1) (.none _) ⟨rfl, tv⟩ tv (by have := c5.2.1; (try simp only [zI]); omega) (by have := c5.2.2; (try simp only [zI]); omega) (TN Ac p0 _ _ (p0.length - ((wI .i64 (v2.2 + 1))).toNat) (by rw [zI])) ?_
    refine qm rfl (LN rfl ?_)
    refine B1 h fun v6 a6 h => AA [2003] (hrc (((p0.drop ((wI .i64 (v2.2 + 1))).toNat).take (p0.length - ((wI .i64 (v2.2 + 1))).toNat))) ((wI .i64 (p1 - 1))) v6 a6) dn rfl (qa rfl (Ad (wq rfl (qe rfl ?_))))
    refine AE (L := CT N p0 v2 v6) h (fun v7 => mk [(0, pD (.sl (p0.map Ac))), (1, iD p1), (5, oD (.own 2004)), (6, iD v2.2), (7, oD (.own 2005)), (8, iD v7.2)] [(2004, .vec 1 (v7.1.map (DG Ac))), (2005, .vec 1 (v6.map (DG Ac)))]) (fun v8 => mk [(0, pD (.sl (p0.map Ac))), (1, iD p1), (5, oD (.own 2006)), (6, iD v2.2)] [(2006, .vec 1 (v8.map (DG Ac)))]) (fun _ _ => rfl) (sm [(2004, 2001), (2005, 2003)] _ _ rfl rfl) (fun j7 n7 v7 h => ?_) (fun v8 s h hs => ?_)
    ·unfold CT at h
     refine wp rfl (qw 2 rfl (C3 EL rfl (AW rfl (Ad ?_))))
     refine Bd h (fun h => ?_) fun h => ?_
     ·refine Am (AP (AK (Ak Ax rfl (qw 3 rfl ?_))))
      refine BB h fun v10 a10 b10 h => qi A3 Cz a10 (Ah b10) rfl (qK It Cz rfl (Eb A3 Cz GV rfl (qw 2 rfl ?_)))
      refine BB h fun v11 a11 b11 h => qI EL Ki a11 (Ah b11) rfl (qj Pw (Ah b11) rfl ?_)
      refine F2 h fun c12 h => WX (.p rfl) rfl (.own _ _ _) ⟨rfl, tv⟩ rfl (.sl _ _ (L5 (f := Ac) (n := 3) (fun _ => rfl) _)) tv rfl A3 A3 Cz LE (Hy rfl) GV rfl (Mo (f := Ac) (g := Ac) (xs := (([v10] : List Aa))) (ys := v11) c12) (Mw Ac (([v10] : List Aa)) v11) rfl ?_
      refine Eb EL Ki Re rfl ?_
      refine F2 h fun c13 h => DE (f := (DG Ac)) EL EL Ki WV Re c13 rfl (qa rfl (AQ (by kernel_rfl) (Ak Ax rfl (qm rfl (AZ rfl (qe rfl ?_))))))
      exact sn [(2004, 43)] h
     ·refine AS ?_
      exact sn [(2006, 2004)] h
    ·refine Ag hs (Ak Ax rfl (qm rfl (AZ rfl (qe rfl ?_))))
     exact sn [(2001, 2006)] h
   ·refine AS ?_
    exact sn [(2002, 2001)] h
  ·refine Ag hs (wq rfl (qm rfl (qe rfl ?_)))
   obtain rfl := sj h
   refine Ag (sm [(1000, 2002)] [(4, oD (.own 1000))] [(1000, .vec 1 (v3.map (DG Ac)))] rfl rfl) (Au ?_)
   exact ⟨⟨[_], tm, rfl⟩, ⟨rfl, tv⟩⟩
theorem IA (N : Nat) : ∀ (k : Nat) (p0 : List Aa) (p1 : Int) (r : (List (List Aa))), Cx N k p0 p1 = some r → Ar zA 53 [pD (.sl (p0.map Ac)), iD p1] [(1, r.map (DG Ac))] (oD (.own 0))
 | 0, _, _, _, h => by cases h
 | k + 1, p0, p1, r, h => Lp N (Cx N k) (IA N k) p0 p1 r h
theorem L0 (N : Nat) (p0 : List Aa) (p1 : Int) (r : (List (List Aa))) (h : Hh N p0 p1 = some r) : Ar zA 53 [pD (.sl (p0.map Ac)), iD p1] [(1, r.map (DG Ac))] (oD (.own 0)) := IA N N p0 p1 r h
theorem M7 (N : Nat) (p0 : Ab) (p1 : Ae) (r : Bool) (h : FR N p0 p1 = some r) : Ar zA 81 [.e (.agg (Ai p0)), .e (.agg (AL p1))] [] (bD r) := by
 unfold FR at h
 refine cw (n := 36) (rs := [.tmp 4]) Tryz.func81 fun w0 S0 => ?_
 refine wq rfl (qb rfl (qb rfl (qa rfl (Ad (wp rfl (qL CD BT rfl (qL B7 A2 rfl ?_)))))))
 refine B1 h fun v1 a1 h => AA [] (HO N p0 p1 v1 a1) Zd rfl (BF rfl (Ad ?_))
 refine Bd h (fun h => ?_) fun h => ?_
 ·refine wq rfl (qe rfl ?_)
  obtain rfl := sj h
  refine Ag (sm [] [(4, bD false)] [] rfl rfl) (Au ?_)
  exact ⟨⟨[_], tm, rfl⟩, tv⟩
 ·refine Am (wp rfl (qe rfl ?_))
  refine AE (L := Dl N p0 p1) h (fun v3 => mk [(2, oD (.ptr 2 0)), (3, oD (.ptr 3 0)), (5, iD v3)] [(2, .box (Ai p0)), (3, .box (AL p1))]) (fun v4 => mk [] []) (fun _ _ => rfl) (sm [] _ _ rfl rfl) (fun j3 n3 v3 h => ?_) (fun v4 s h hs => ?_)
  ·unfold Dl at h
   refine wp rfl (qm rfl (qf Dp rfl (ql Bb rfl (AM AC rfl (AW rfl (Ad ?_))))))
   refine Bd h (fun h => ?_) fun h => ?_
   ·refine Am (AP (AK ?_))
    refine AT h (fun v6 => mk [(2, oD (.ptr 2 0)), (3, oD (.ptr 3 0)), (5, iD v3), (35, bD v6)] [(2, .box (Ai p0)), (3, .box (AL p1))]) (fun j6 h => ?_) (fun v6 h => ?_)
    ·refine Ak Ax rfl (qf BO rfl (ql Bb rfl (qm rfl ?_)))
     refine BB h fun v7 a7 b7 h => qi AC DR a7 (Ah b7) rfl (qk Cr rfl (F9 rfl (qm rfl ?_)))
     refine EU 23 h rfl (fun h => ?_) fun h => ?_
     ·refine qw 11 rfl (qp rfl (AQ (by kernel_rfl) ?_))
      exact sn [] h
     ·refine qf Dp rfl (ql Bb rfl (qm rfl ?_))
      refine BB h fun v9 a9 b9 h => qi AC DR a9 (Ah b9) rfl (qk Cr rfl (qf IM rfl (ql Bb rfl (qm rfl ?_))))
      refine BB h fun v10 a10 b10 h => qi AC DR a10 (Ah b10) rfl (qk Cr rfl (BF rfl (qp rfl (AQ (by kernel_rfl) ?_))))
      exact sn [] h
    ·refine Bd h (fun h => ?_) fun h => ?_
     ·refine wq rfl (qe rfl ?_)
      obtain rfl := sj h
      refine Ag (sm [] [(4, bD false)] [] rfl rfl) (Au ?_)
      exact ⟨⟨[_], tm, rfl⟩, tv⟩
     ·refine Am (Ak Ax rfl (qm rfl (AZ rfl (qe rfl ?_))))
      exact sn [] h
   ·refine AS ?_
    exact sn [] h
  ·refine Ag hs (wq rfl (qe rfl ?_))
   obtain rfl := sj h
   refine Ag (sm [] [(4, bD true)] [] rfl rfl) (Au ?_)
   exact ⟨⟨[_], tm, rfl⟩, tv⟩
theorem NK (N : Nat) (p0 : List AF) (p1 : Int) (r : (List Af)) (h : GY N p0 p1 = some r) : Ar zA 137 [pD (.sl (p0.map BM)), iD p1] [(3, r.map AD)] (oD (.own 0)) := by
 unfold GY at h
 refine cw (n := 26) (rs := [.tmp 4]) Tryz.func137 fun w0 S0 => ?_
 refine wq rfl (qa rfl (Ad (wq rfl (qa rfl (Ad (AP ?_))))))
 refine AE (L := Ec N p0) h (fun v1 => mk [(0, pD (.sl (p0.map BM))), (1, iD v1.1), (5, oD (.own 2001))] [(2001, .vec 3 (v1.2.map AD))]) (fun v2 => mk [(5, oD (.own 2002))] [(2002, .vec 3 (v2.map AD))]) (fun _ _ => rfl) ((AU 5 2003 3 rfl rfl rfl).trans (sm [(2001, 2003)] _ _ rfl rfl)) (fun j1 n1 v1 h => ?_) (fun v2 s h hs => ?_)
 ·unfold Ec at h
  refine wp rfl (qw 2 rfl ?_)
  refine BB h fun v3 a3 b3 h => qi H8 M1 a3 (Ah b3) rfl (qg U2 rfl (qk Cr rfl (F9 rfl (Ad ?_))))
  refine Bd h (fun h => ?_) fun h => ?_
  ·refine Am (AK (wq rfl (qw 2 rfl ?_)))
   refine BB h fun v5 a5 b5 h => qi H8 M1 a5 (Ah b5) rfl (qg Yt rfl (qK Hu Dg rfl (Eb Fr Dg In rfl (qm rfl ?_))))
   refine F2 h fun c6 h => DE (f := AD) Fr Fr Dg OW In c6 rfl (qa rfl (Ad (Ak Ax rfl (qw 2 rfl ?_))))
   refine BB h fun v7 a7 b7 h => qi H8 M1 a7 (Ah b7) rfl (qg U2 rfl (qk Cr rfl (qe rfl ?_)))
   exact sn [(2001, 19)] h
  ·refine AS ?_
   exact sn [(2002, 2001)] h
 ·refine Ag hs (wq rfl (qm rfl (qe rfl ?_)))
  obtain rfl := sj h
  refine Ag (sm [(1000, 2002)] [(4, oD (.own 1000))] [(1000, .vec 3 (v2.map AD))] rfl rfl) (Au ?_)
  exact ⟨⟨[_], tm, rfl⟩, ⟨rfl, tv⟩⟩
theorem Nk (N : Nat) (p0 : Ab) (p1 : Ae) (r : (List Af) × Int) (h : ET N p0 p1 = some r) : Ar zA 108 [.e (.agg (Ai p0)), .e (.agg (AL p1))] [(3, r.1.map AD)] (.tup [.one (.own 0), .one (iC r.2)]) := by
 unfold ET at h
 refine cw (n := 44) (rs := [.tmp 4, .tmp 5]) Tryz.func108 fun w0 S0 => ?_
 refine wq rfl (qb rfl (qb rfl (qa rfl (qa rfl (Ad (wp rfl (qL CD BT rfl (qL B7 A2 rfl ?_))))))))
 refine B1 h fun v1 a1 h => AA [] (HO N p0 p1 v1 a1) Zd rfl (qa rfl (Ad (wq rfl (qm rfl (BF rfl (Ad ?_))))))
 refine Bd h (fun h => ?_) fun h => ?_
 ·refine wq rfl (qm rfl (qa rfl (qe rfl ?_)))
  obtain rfl := sj h
  refine Ag ((AU 4 2001 3 rfl rfl rfl).trans (sm [(1000, 2001)] [(4, oD (.own 1000)), (5, iD v1)] [(1000, .vec 3 ((([] : List Af)).map AD))] rfl rfl)) (Au ?_)
  exact ⟨⟨[_, _], ⟨.tmp _ _ rfl, tm⟩, rfl⟩, ⟨rfl, tv⟩⟩
 ·refine Am (wp rfl (qL CD BT rfl (qL B7 A2 rfl ?_)))
  refine B1 h fun v3 a3 h => AA [] (G6 N p0 p1 v3 a3) bW rfl (CQ rfl (Ad ?_))
  refine Bd h (fun h => ?_) fun h => ?_
  ·refine wq rfl (qa rfl (qe rfl ?_))
   obtain rfl := sj h
   refine Ag ((AU 4 2002 3 rfl rfl rfl).trans (sm [(1000, 2002)] [(4, oD (.own 1000)), (5, iD 13)] [(1000, .vec 3 ((([] : List Af)).map AD))] rfl rfl)) (Au ?_)
   exact ⟨⟨[_, _], ⟨.tmp _ _ rfl, tm⟩, rfl⟩, ⟨rfl, tv⟩⟩
  ·refine Am (wq rfl (qL CD BT rfl (qL B7 A2 rfl ?_)))
   refine B1 h fun v5 a5 h => AA [2003] (Jy N p0 p1 20000 v5 a5) eM rfl (qm rfl (qx rfl (qx rfl (qa rfl (qa rfl (Ad (wp rfl (qm rfl (CQ rfl (Ad ?_))))))))))
   refine Bd h (fun h => ?_) fun h => ?_
   ·refine wq rfl (qa rfl (qe rfl ?_))
    obtain rfl := sj h
    refine Ag ((AU 4 2004 3 rfl rfl rfl).trans (sm [(1000, 2004)] [(4, oD (.own 1000)), (5, iD 3)] [(1000, .vec 3 ((([] : List Af)).map AD))] rfl rfl)) (Au ?_)
    exact ⟨⟨[_, _], ⟨.tmp _ _ rfl, tm⟩, rfl⟩, ⟨rfl, tv⟩⟩
   ·refine Am (wp rfl (qe rfl ?_))
    refine AE (L := CJ N p0 v5) h (fun v7 => mk [(2, oD (.ptr 2 0)), (7, oD (.own 2005)), (9, iD v7)] [(2, .box (Ai p0)), (2005, .vec 7 (v5.1.map BM))]) (fun v8 => mk [] []) (fun _ _ => rfl) (sm [(2005, 2003)] _ _ rfl rfl) (fun j7 n7 v7 h => ?_) (fun v8 s h hs => ?_)
    ·unfold CJ at h
     refine wp rfl (qw 2 rfl (C3 H8 rfl (AW rfl (Ad ?_))))
     refine Bd h (fun h => ?_) fun h => ?_
     ·refine Am (AP (AK (wq rfl (qL CD BT rfl (qw 2 rfl ?_)))))
      refine BB h fun v10 a10 b10 h => qI H8 M1 a10 (Ah b10) rfl (qh NZ rfl ?_)
      refine Qz (.p rfl) rfl B7 A2 rfl (Ah b10) rfl rfl (by decide) ?_
      refine B1 h fun v11 a11 h => AA [] (M7 N p0 ((Ae.mk v10.gx.gb v10.gx.f7 v10.gx.gc)) v11 a11) eY rfl (AQ (by kernel_rfl) ?_)
      refine Bd h (fun h => ?_) fun h => ?_
      ·refine wq rfl (qw 2 rfl ?_)
       refine B1 h fun v13 a13 h => DU [2006] [2005] (NK N v5.1 v7 v13 a13) dT (G4 (fun _ => rfl) B9) rfl (qa rfl (qe rfl ?_))
       obtain rfl := sj h
       refine Ag (sm [(1000, 2006)] [(4, oD (.own 1000)), (5, iD 0)] [(1000, .vec 3 (v13.map AD))] rfl rfl) (Au ?_)
       exact ⟨⟨[_, _], ⟨.tmp _ _ rfl, tm⟩, rfl⟩, ⟨rfl, tv⟩⟩
      ·refine Am (Ak Ax rfl (qm rfl (AZ rfl (qe rfl ?_))))
       exact sn [] h
     ·refine AS ?_
      exact sn [] h
    ·refine Ag hs (wq rfl (qa rfl (qe rfl ?_)))
     obtain rfl := sj h
     refine Ag ((AU 4 2007 3 rfl rfl rfl).trans (sm [(1000, 2007)] [(4, oD (.own 1000)), (5, iD 14)] [(1000, .vec 3 ((([] : List Af)).map AD))] rfl rfl)) (Au ?_)
     exact ⟨⟨[_, _], ⟨.tmp _ _ rfl, tm⟩, rfl⟩, ⟨rfl, tv⟩⟩
theorem Nu (N : Nat) (p0 : Ab) (r : (List Af) × Int) (h : zFS N p0 = some r) : Ar zA 74 [.e (.agg (Ai p0))] [(3, r.1.map AD)] (.tup [.one (.own 0), .one (iC r.2)]) := by
 unfold zFS at h
 refine cw (n := 19) (rs := [.tmp 2, .tmp 3]) Tryz.func74 fun w0 S0 => ?_
 refine wq rfl (qb rfl (qa rfl (qa rfl (Ad (wq rfl (qL CD BT rfl ?_))))))
 refine B1 h fun v1 a1 h => AA [2001, 2002, 2003] (Ju N p0 v1 a1) cV rfl (qm rfl (qx rfl (qx rfl (qz Fm rfl (qs A2 rfl (qa rfl (Ad (wp rfl (qm rfl (BF rfl (Ad ?_)))))))))))
 refine Bd h (fun h => ?_) fun h => ?_
 ·refine wq rfl (qm rfl (qa rfl (qe rfl ?_)))
  obtain rfl := sj h
  refine Ag ((AU 2 2004 3 rfl rfl rfl).trans (sm [(1000, 2004)] [(2, oD (.own 1000)), (3, iD v1.2)] [(1000, .vec 3 ((([] : List Af)).map AD))] rfl rfl)) (Au ?_)
  exact ⟨⟨[_, _], ⟨.tmp _ _ rfl, tm⟩, rfl⟩, ⟨rfl, tv⟩⟩
 ·refine Am (wq rfl (qL CD BT rfl (qL B7 A2 rfl ?_)))
  refine B1 h fun v3 a3 h => DU [2005] [2001, 2002, 2003] (Nk N p0 v1.1 v3 a3) dF (G4 (fun _ => rfl) B9) rfl (qx rfl (qx rfl (qa rfl (qe rfl ?_))))
  obtain rfl := sj h
  refine Ag (sm [(1000, 2005)] [(2, oD (.own 1000)), (3, iD v3.2)] [(1000, .vec 3 (v3.1.map AD))] rfl rfl) (Au ?_)
  exact ⟨⟨[_, _], ⟨.tmp _ _ rfl, tm⟩, rfl⟩, ⟨rfl, tv⟩⟩
theorem LI (N : Nat) (p0 : Ab) (p1 : List Aa) (r : Bool × Int) (h : EK N p0 p1 = some r) : Ar zA 45 [.e (.agg (Ai p0)), pD (.sl (p1.map Ac))] [] (.tup [.one (.pure (.val (.bool r.1))), .one (iC r.2)]) := by
 unfold EK at h
 refine cw (n := 20) (rs := [.tmp 4, .tmp 5]) Tryz.func45 fun w0 S0 => ?_
 refine wq rfl (qb rfl (qa rfl (qa rfl (Ad (wq rfl (qL CD BT rfl (qm rfl ?_)))))))
 refine B1 h fun v1 a1 h => AA [2001, 2002, 2003] (JR N p0 p1 v1 a1) dy rfl ?_
 refine B1 h fun v2 a2 h => DU [2004] [2001, 2002, 2003] (Nu N v1 v2 a2) fG (G4 (fun _ => rfl) B9) rfl (qm rfl (qx rfl (qx rfl (qa rfl (qa rfl (Ad (wp rfl (qm rfl (B5 rfl (Ad ?_))))))))))
 refine Bd h (fun h => ?_) fun h => ?_
 ·refine wq rfl (qm rfl (qa rfl (qe rfl ?_)))
  obtain rfl := sj h
  refine Ag (sm [] [(4, bD false), (5, iD v2.2)] [] rfl rfl) (Au ?_)
  exact ⟨⟨[_, _], ⟨.tmp _ _ rfl, tm⟩, rfl⟩, tv⟩
 ·refine Am (wq rfl (qm rfl (B5 rfl (qa rfl (qe rfl ?_)))))
  obtain rfl := sj h
  refine Ag (sm [] [(4, bD ((v2.2 == 0))), (5, iD 0)] [] rfl rfl) (Au ?_)
  exact ⟨⟨[_, _], ⟨.tmp _ _ rfl, tm⟩, rfl⟩, tv⟩
theorem Ks (N : Nat) (p0 : Ab) (r : (List (List Aa)) × Int) (h : Fo N p0 = some r) : Ar zA 27 [.e (.agg (Ai p0))] [(1, r.1.map (DG Ac))] (.tup [.one (.own 0), .one (iC r.2)]) := by
 unfold Fo at h
 refine cw (n := 59) (rs := [.tmp 2, .tmp 3]) Tryz.func27 fun w0 S0 => ?_
 refine wq rfl (qb rfl (qa rfl (qa rfl (Ad (wp rfl (qL CD BT rfl ?_))))))
 refine B1 h fun v1 a1 h => AA [] (F7 N p0 v1 a1) bZ rfl (qa rfl (Ad (wq rfl (qm rfl (BF rfl (Ad ?_))))))
 refine Bd h (fun h => ?_) fun h => ?_
 ·refine wq rfl (qm rfl (qa rfl (qe rfl ?_)))
  obtain rfl := sj h
  refine Ag ((AU 2 2001 1 rfl rfl rfl).trans (sm [(1000, 2001)] [(2, oD (.own 1000)), (3, iD v1)] [(1000, .vec 1 ((([] : List (List Aa))).map (DG Ac)))] rfl rfl)) (Au ?_)
  exact ⟨⟨[_, _], ⟨.tmp _ _ rfl, tm⟩, rfl⟩, ⟨rfl, tv⟩⟩
 ·refine Am (wq rfl (qL CD BT rfl ?_))
  refine B1 h fun v3 a3 h => AA [2002] (Hg N p0 v3 a3) bE rfl (qa rfl (Ad (wp rfl (qm rfl (C3 A3 rfl (GE rfl (Ad ?_)))))))
  refine Bd h (fun h => ?_) fun h => ?_
  ·refine wq rfl (qa rfl (qe rfl ?_))
   obtain rfl := sj h
   refine Ag ((AU 2 2003 1 rfl rfl rfl).trans (sm [(1000, 2003)] [(2, oD (.own 1000)), (3, iD 3)] [(1000, .vec 1 ((([] : List (List Aa))).map (DG Ac)))] rfl rfl)) (Au ?_)
   exact ⟨⟨[_, _], ⟨.tmp _ _ rfl, tm⟩, rfl⟩, ⟨rfl, tv⟩⟩
  ·refine Am (wp rfl (qe rfl ?_))
   refine AE (L := Dy N p0) h (fun v5 => mk [(1, oD (.ptr 1 0)), (5, pD (.sl (v5.1.map Ac))), (6, iD v5.2)] [(1, .box (Ai p0))]) (fun v6 => mk [] []) (fun _ _ => rfl) ((BJ 2002 _ _ rfl rfl).trans (sm [] _ _ rfl rfl)) (fun j5 n5 v5 h => ?_) (fun v6 s h hs => ?_)
   ·unfold Dy at h
    refine wp rfl (qm rfl (RZ rfl (Ad ?_)))
    refine Bd h (fun h => ?_) fun h => ?_
    ·refine Am (AP (AK (wq rfl (qa rfl (Ad (wq rfl (qw 2 rfl ?_)))))))
     refine B1 h fun v8 a8 h => AA [2004] (L0 N v5.1 v5.2 v8 a8) dn rfl (qa rfl (Ad (wp rfl (qe rfl ?_))))
     refine AE (L := CY N p0 v8) h (fun v9 => mk [(1, oD (.ptr 1 0)), (5, pD (.sl (v5.1.map Ac))), (6, iD v5.2), (7, oD (.own 2005)), (8, oD (.own 2006)), (9, iD v9.2)] [(1, .box (Ai p0)), (2005, .vec 1 (v9.1.map (DG Ac))), (2006, .vec 1 (v8.map (DG Ac)))]) (fun v10 => mk [(1, oD (.ptr 1 0)), (5, pD (.sl (v5.1.map Ac))), (6, iD v5.2), (7, oD (.own 2007))] [(1, .box (Ai p0)), (2007, .vec 1 (v10.map (DG Ac)))]) (fun _ _ => rfl) ((AU 7 2011 1 rfl rfl rfl).trans (sm [(2005, 2011), (2006, 2004)] _ _ rfl rfl)) (fun j9 n9 v9 h => ?_) (fun v10 s h hs => ?_)
     ·unfold CY at h
      refine wp rfl (qw 2 rfl (C3 EL rfl (AW rfl (Ad ?_))))
      refine Bd h (fun h => ?_) fun h => ?_
      ·refine Am ?_
       refine AT h (fun v12 => mk [(1, oD (.ptr 1 0)), (5, pD (.sl (v5.1.map Ac))), (6, iD v5.2), (7, oD (.own 2008)), (8, oD (.own 2009)), (9, iD v9.2)] [(1, .box (Ai p0)), (2008, .vec 1 (v12.map (DG Ac))), (2009, .vec 1 (v8.map (DG Ac)))]) (fun j12 h => ?_) (fun v12 h => ?_)
       ·refine AK (wq rfl (qL CD BT rfl (qw 2 rfl ?_)))
        refine BB h fun v13 a13 b13 h => qI EL Ki a13 (Ah b13) rfl (qj Pw (Ah b13) rfl ?_)
        refine B1 h fun v14 a14 h => AA [] (LI N p0 v13 v14 a14) fg rfl (qm rfl (qx rfl (qx rfl (qa rfl (qa rfl (AQ (by kernel_rfl) (wp rfl (qm rfl (BF rfl (Ad ?_))))))))))
        refine Bd h (fun h => ?_) fun h => ?_
        ·refine wq rfl (qm rfl (qa rfl (qe rfl ?_)))
         obtain rfl := sj h
         refine Ag ((AU 2 2010 1 rfl rfl rfl).trans (sm [(1000, 2010)] [(2, oD (.own 1000)), (3, iD v14.2)] [(1000, .vec 1 ((([] : List (List Aa))).map (DG Ac)))] rfl rfl)) (Au ?_)
         exact ⟨⟨[_, _], ⟨.tmp _ _ rfl, tm⟩, rfl⟩, ⟨rfl, tv⟩⟩
        ·refine Am (wq rfl (qm rfl (Ad ?_)))
         refine Bd h (fun h => ?_) fun h => ?_
         ·refine Ak Ax rfl (qw 3 rfl ?_)
          refine BB h fun v17 a17 b17 h => qI EL Ki a17 (Ah b17) rfl (qj Pw (Ah b17) rfl (Eb EL Ki Re rfl ?_))
          refine F2 h fun c18 h => DE (f := (DG Ac)) EL EL Ki WV Re c18 rfl (qe rfl ?_)
          exact sn [(2008, 54), (2009, 2006)] h
         ·refine Am ?_
          exact sn [(2008, 2005), (2009, 2006)] h
       ·refine Ak Ax rfl (qm rfl (AZ rfl (qe rfl ?_)))
        exact sn [(2005, 2008), (2006, 2009)] h
      ·refine AS ?_
       exact sn [(2007, 2005)] h
     ·refine Ag hs (wq rfl (qm rfl (C3 EL rfl (GE rfl (Ad ?_)))))
      refine Bd h (fun h => ?_) fun h => ?_
      ·refine wq rfl (qm rfl (qa rfl (qe rfl ?_)))
       obtain rfl := sj h
       refine Ag (sm [(1000, 2007)] [(2, oD (.own 1000)), (3, iD 0)] [(1000, .vec 1 (v10.map (DG Ac)))] rfl rfl) (Au ?_)
       exact ⟨⟨[_, _], ⟨.tmp _ _ rfl, tm⟩, rfl⟩, ⟨rfl, tv⟩⟩
      ·refine Am (Ak Ax rfl (qm rfl (AZ rfl (qe rfl ?_))))
       exact sn [] h
    ·refine AS ?_
     exact sn [] h
   ·refine Ag hs (wq rfl (qa rfl (qe rfl ?_)))
    obtain rfl := sj h
    refine Ag ((AU 2 2012 1 rfl rfl rfl).trans (sm [(1000, 2012)] [(2, oD (.own 1000)), (3, iD 14)] [(1000, .vec 1 ((([] : List (List Aa))).map (DG Ac)))] rfl rfl)) (Au ?_)
    exact ⟨⟨[_, _], ⟨.tmp _ _ rfl, tm⟩, rfl⟩, ⟨rfl, tv⟩⟩
theorem G8 (N : Nat) (p0 : Int) (r : (List Aa)) (h : A0 N p0 = some r) : Ar zA 82 [pD (.nil0), iD p0] [(3, r.map Ac)] (oD (.own 0)) := by
 unfold A0 at h
 refine cw (n := 27) (rs := [.tmp 4]) Tryz.func82 fun w0 S0 => ?_
 refine wq rfl (qe rfl ?_)
 refine AT h (fun v1 => mk [(0, pD (.nil0)), (1, iD p0)] []) (fun j1 h => ?_) (fun v1 h => ?_)
 ·refine wq rfl (qm rfl (AW rfl (Ad ?_)))
  refine Bd h (fun h => ?_) fun h => ?_
  ·refine Ak Ax rfl ?_
   cases h
  ·refine Am ?_
   exact sn [] h
 ·refine AT h (fun v3 => mk [(0, oD (.own 2001))] [(2001, .vec 3 (v3.map Ac))]) (fun j3 h => ?_) (fun v3 h => ?_)
  ·refine wq rfl (qw 2 rfl ?_)
   refine YZ (.p rfl) rfl A3 ?_
   refine qm rfl ?_
   refine WN (.p rfl) rfl .nil tv rfl A3 ?_
   refine LN rfl (LN rfl (qa rfl (Ad (wq rfl (qm rfl (GE rfl (Ad ?_)))))))
   refine Bd h (fun h => ?_) fun h => ?_
   ·refine Ak Ax rfl (qw 2 rfl ?_)
    refine YZ (.p rfl) rfl A3 ?_
    refine Zf (.p rfl) rfl rfl A3 Cz ?_
    refine qm rfl ?_
    refine F2 h fun c5 h => Xh (.p rfl) rfl rfl rfl A3 fb Cz LE (Hy rfl) GV rfl rfl rfl c5.1 c5.2 (by decide) (PH Ac _ ((Aa.mk 0 0 0))) ?_
    refine qm rfl ?_
    refine WN (.p rfl) rfl .nil tv rfl A3 ?_
    obtain ⟨c6, h⟩ := Fg h
    have w7 : 0 + ((((0 : Nat) : Int)).toNat) ≤ (zD ((wI .i64 (p0 - (wI .i64 (0 - ((0 : Nat) : Int)))))).toNat ((Aa.mk 0 0 0))).length := by have := c6.2.1; have := c6.2.2; omega
    refine HF Ac (zD ((wI .i64 (p0 - (wI .i64 (0 - ((0 : Nat) : Int)))))).toNat ((Aa.mk 0 0 0))) (.p rfl) rfl (Hz Ac _ _ (zD ((wI .i64 (p0 - (wI .i64 (0 - ((0 : Nat) : Int)))))).toNat ((Aa.mk 0 0 0)))) rfl A3 Cz (.none _) (.some _ _ _ _ c6.1) tv ⟨rfl, tv⟩ c6.2.1 (by rw [zC]; exact c6.2.2) (zC _) rfl ?_
    refine qa rfl (Ad ?_)
    exact UO _ h ((TJ Ac (zD ((wI .i64 (p0 - (wI .i64 (0 - ((0 : Nat) : Int)))))).toNat ((Aa.mk 0 0 0))) 0 22 2002 3 ((((0 : Nat) : Int)).toNat) rfl rfl rfl w7 rfl rfl).trans (sm [(2001, 2002)] _ _ rfl rfl))
   ·refine Am ?_
    exact UO _ h ((AU 0 2003 3 rfl rfl rfl).trans (sm [(2001, 2003)] _ _ rfl rfl))
  ·refine wq rfl (qm rfl (qe rfl ?_))
   obtain rfl := sj h
   refine Ag (sm [(1000, 2001)] [(4, oD (.own 1000))] [(1000, .vec 3 (v3.map Ac))] rfl rfl) (Au ?_)
   exact ⟨⟨[_], tm, rfl⟩, ⟨rfl, tv⟩⟩
theorem G7 (N : Nat) (p0 : List (List Aa)) (r : (List Aa)) (h : Bw N p0 = some r) : Ar zA 54 [pD (.sl (p0.map (DG Ac)))] [(3, r.map Ac)] (oD (.own 0)) := by
 unfold Bw at h
 refine cw (n := 36) (rs := [.tmp 2]) Tryz.func54 fun w0 S0 => ?_
 refine wq rfl (qa rfl (Ad (wq rfl (qa rfl (Ad (wp rfl (qm rfl (AM EL rfl (qm rfl (Ad ?_))))))))))
 refine AE (L := A9 N p0) h (fun v1 => mk [(0, pD (.sl (p0.map (DG Ac)))), (3, iD v1.1), (9, pD (.sl (p0.map (DG Ac)))), (10, iD ((p0.length : Int))), (11, iD v1.2)] []) (fun v2 => mk [(0, pD (.sl (p0.map (DG Ac)))), (3, iD v2)] []) (fun _ _ => rfl) (sm [] _ _ rfl rfl) (fun j1 n1 v1 h => ?_) (fun v2 s h hs => ?_)
 ·unfold A9 at h
  refine wq rfl (AW rfl (Ad (AP ?_)))
  refine Bd h (fun h => ?_) fun h => ?_
  ·refine Am ?_
   refine AT h (fun v4 => mk [(0, pD (.sl (p0.map (DG Ac)))), (3, iD v4), (9, pD (.sl (p0.map (DG Ac)))), (10, iD ((p0.length : Int))), (11, iD v1.2)] []) (fun j4 h => ?_) (fun v4 h => ?_)
   ·refine AK (wq rfl ?_)
    refine BB h fun v5 a5 b5 h => qi EL Ki a5 (Ah b5) rfl (qk Pw rfl (qa rfl (Ad (wq rfl (qw 2 rfl (AM A3 rfl (AZ rfl (qa rfl (Ad (wq rfl (qm rfl (AW rfl (Ad ?_)))))))))))))
    refine Bd h (fun h => ?_) fun h => ?_
    ·refine Ak Ax rfl ?_
     cases h
    ·refine Am ?_
     exact sn [] h
   ·refine Ak Ax rfl (AZ rfl (qm rfl (Ad ?_)))
    exact sn [] h
  ·refine AS ?_
   exact sn [] h
 ·refine Ag hs (wq rfl (qm rfl ?_))
  refine B1 h fun v7 a7 h => ZL (ds0 := [_, _]) [2001] (G8 N v2 v7 a7) (.p rfl) fc rfl ⟨rfl, rfl, tv⟩ rfl rfl rfl (EA rfl) ⟨rfl, tv⟩ rfl ?_
  refine qa rfl (Ad (wp rfl (qm rfl (AM EL rfl (qm rfl (Ad ?_))))))
  refine AE (L := AV N p0) h (fun v8 => mk [(6, oD (.own 2002)), (25, pD (.sl (p0.map (DG Ac)))), (26, iD ((p0.length : Int))), (27, iD v8.2)] [(2002, .vec 3 (v8.1.map Ac))]) (fun v9 => mk [(6, oD (.own 2003))] [(2003, .vec 3 (v9.map Ac))]) (fun _ _ => rfl) (sm [(2002, 2001)] _ _ rfl rfl) (fun j8 n8 v8 h => ?_) (fun v9 s h hs => ?_)
  ·unfold AV at h
   refine wq rfl (AW rfl (Ad (AP ?_)))
   refine Bd h (fun h => ?_) fun h => ?_
   ·refine Am (AP (AK (wq rfl ?_)))
    refine BB h fun v11 a11 b11 h => qi EL Ki a11 (Ah b11) rfl (qk Pw rfl (qa rfl (Ad (Ak Ax rfl (qw 2 rfl ?_)))))
    refine F2 h fun c12 h => Hj (f := Ac) A3 A3 Cz LE GV (fun _ => rfl) c12 rfl (qa rfl (Ad (Ak Ax rfl (AZ rfl (qm rfl (Ad ?_))))))
    exact sn [(2002, 33)] h
   ·refine AS ?_
    exact sn [(2003, 2002)] h
  ·refine Ag hs (wq rfl (qm rfl (qe rfl ?_)))
   obtain rfl := sj h
   refine Ag (sm [(1000, 2003)] [(2, oD (.own 1000))] [(1000, .vec 3 (v9.map Ac))] rfl rfl) (Au ?_)
   exact ⟨⟨[_], tm, rfl⟩, ⟨rfl, tv⟩⟩
theorem OR (N : Nat) (p0 : Ab) (r : (List Aa) × Int) (h : Gq N p0 = some r) : Ar zA 28 [.e (.agg (Ai p0))] [(3, r.1.map Ac)] (.tup [.one (.own 0), .one (iC r.2)]) := by
 unfold Gq at h
 refine cw (n := 21) (rs := [.tmp 2, .tmp 3]) Tryz.func28 fun w0 S0 => ?_
 refine wq rfl (qb rfl (qa rfl (qa rfl (Ad (wq rfl (qL CD BT rfl ?_))))))
 refine B1 h fun v1 a1 h => AA [2001] (I4 N p0 v1 a1) Zr rfl (qm rfl (qx rfl (qx rfl (qa rfl (qa rfl (Ad (wp rfl (qm rfl (BF rfl (Ad ?_))))))))))
 refine Bd h (fun h => ?_) fun h => ?_
 ·refine wq rfl (qm rfl (qa rfl (qe rfl ?_)))
  obtain rfl := sj h
  refine Ag ((AU 2 2002 3 rfl rfl rfl).trans (sm [(1000, 2002)] [(2, oD (.own 1000)), (3, iD v1.2)] [(1000, .vec 3 ((([] : List Aa)).map Ac))] rfl rfl)) (Au ?_)
  exact ⟨⟨[_, _], ⟨.tmp _ _ rfl, tm⟩, rfl⟩, ⟨rfl, tv⟩⟩
 ·refine Am (wq rfl (qm rfl ?_))
  refine B1 h fun v3 a3 h => DU [2003] [2001] (G7 N v1.1 v3 a3) eR (G4 (fun _ => rfl) B9) rfl (qa rfl (Ad (wq rfl (qm rfl ?_))))
  refine B1 h fun v4 a4 h => IJ (ds0 := [_, _]) [2003] [] [true] (DV.weak (ds' := [_, oD (.fnc 39)]) (EH N v3 ((fun (x : Aa × Aa) => CU N x.1 x.2)) v4 a4) ⟨(fun _ _ _ hh => hh), (fun _ _ _ hh => UD de (fun ar t ht => by obtain ⟨x, r, rfl, hq, rfl⟩ := JQ ht; exact Kx N x.1 x.2 r hq) hh), tv⟩) (.p rfl) d9 rfl ⟨rfl, rfl, tv⟩ rfl rfl (by decide) ⟨rfl, tv⟩ rfl (EA rfl) tv ⟨(fun h => by cases h), tv⟩ rfl rfl rfl ?_
  refine Ad (wq rfl (qm rfl ?_))
  obtain ⟨v5, a5, h⟩ := bind_some h
  obtain ⟨c6, h⟩ := Fg h
  have w7 : 0 + v5.1 ≤ v5.2.length := by rw [zC]; exact c6
  refine IJ (ds0 := [_]) [2003] [] [true] (EM N v4 v5 a5) (.p rfl) ej rfl ⟨rfl, tv⟩ rfl rfl (by decide) ⟨rfl, tv⟩ rfl (EA rfl) tv ⟨(fun h => by cases h), tv⟩ rfl rfl rfl ?_
  refine Et (VH Ac v5.2 20 2003 2004 3 v5.1 rfl rfl rfl rfl rfl c6) (qa rfl (qe rfl ?_))
  obtain rfl := sj h
  refine Ag (sm [(1000, 2004)] [(2, oD (.own 1000)), (3, iD 0)] [(1000, .vec 3 ((v5.2.take v5.1).map Ac))] rfl rfl) (Au ?_)
  exact ⟨⟨[_, _], ⟨.tmp _ _ rfl, tm⟩, rfl⟩, ⟨rfl, tv⟩⟩
theorem LM (N : Nat) (p0 : Ab) (r : (List Aa) × Int) (h : Fd N p0 = some r) : Ar zA 29 [.e (.agg (Ai p0))] [(3, r.1.map Ac)] (.tup [.one (.own 0), .one (iC r.2)]) := by
 unfold Fd at h
 refine cw (n := 58) (rs := [.tmp 2, .tmp 3]) Tryz.func29 fun w0 S0 => ?_
 refine wq rfl (qb rfl (qa rfl (qa rfl (Ad (wq rfl (qL CD BT rfl ?_))))))
 refine B1 h fun v1 a1 h => AA [2001] (Ks N p0 v1 a1) dA rfl (qm rfl (qx rfl (qx rfl (qa rfl (qa rfl (Ad (wp rfl (qm rfl (BF rfl (Ad ?_))))))))))
 refine Bd h (fun h => ?_) fun h => ?_
 ·refine wq rfl (qm rfl (qa rfl (qe rfl ?_)))
  obtain rfl := sj h
  refine Ag ((AU 2 2002 3 rfl rfl rfl).trans (sm [(1000, 2002)] [(2, oD (.own 1000)), (3, iD v1.2)] [(1000, .vec 3 ((([] : List Aa)).map Ac))] rfl rfl)) (Au ?_)
  exact ⟨⟨[_, _], ⟨.tmp _ _ rfl, tm⟩, rfl⟩, ⟨rfl, tv⟩⟩
 ·refine Am (wq rfl (qL CD BT rfl ?_))
  refine B1 h fun v3 a3 h => AA [2003] (Hg N p0 v3 a3) bE rfl (qa rfl (Ad (wq rfl (qa rfl (Ad (wp rfl (qe rfl ?_)))))))
  refine AE (L := Dv N v1 v3) h (fun v4 => mk [(4, oD (.own 2004)), (6, oD (.own 2005)), (7, oD (.own 2006)), (8, iD v4.2)] [(2004, .vec 1 (v1.1.map (DG Ac))), (2005, .vec 3 (v3.map Ac)), (2006, .vec 3 (v4.1.map Ac))]) (fun v5 => mk [(7, oD (.own 2007))] [(2007, .vec 3 (v5.map Ac))]) (fun _ _ => rfl) ((AU 7 2020 3 rfl rfl rfl).trans (sm [(2004, 2001), (2005, 2003), (2006, 2020)] _ _ rfl rfl)) (fun j4 n4 v4 h => ?_) (fun v5 s h hs => ?_)
  ·unfold Dv at h
   refine wp rfl (qw 2 rfl (C3 A3 rfl (AW rfl (Ad ?_))))
   refine Bd h (fun h => ?_) fun h => ?_
   ·refine Am (AP (AK (wq rfl (qe rfl ?_))))
    refine AE (L := Du N v1 v3 v4) h (fun v7 => mk [(4, oD (.own 2008)), (6, oD (.own 2009)), (7, oD (.own 2010)), (8, iD v4.2), (9, iD v7.2)] [(2008, .vec 1 (v1.1.map (DG Ac))), (2009, .vec 3 (v3.map Ac)), (2010, .vec 3 (v7.1.map Ac))]) (fun v8 => mk [(4, oD (.own 2011)), (6, oD (.own 2012)), (7, oD (.own 2013)), (8, iD v4.2)] [(2011, .vec 1 (v1.1.map (DG Ac))), (2012, .vec 3 (v3.map Ac)), (2013, .vec 3 (v8.map Ac))]) (fun _ _ => rfl) (sm [(2008, 2004), (2009, 2005), (2010, 2006)] _ _ rfl rfl) (fun j7 n7 v7 h => ?_) (fun v8 s h hs => ?_)
    ·unfold Du at h
     refine wp rfl (qw 2 rfl (C3 EL rfl (AW rfl (Ad ?_))))
     refine Bd h (fun h => ?_) fun h => ?_
     ·refine Am ?_
      refine AT h (fun v10 => mk [(4, oD (.own 2014)), (6, oD (.own 2015)), (7, oD (.own 2016)), (8, iD v4.2), (9, iD v7.2)] [(2014, .vec 1 (v1.1.map (DG Ac))), (2015, .vec 3 (v3.map Ac)), (2016, .vec 3 (v10.map Ac))]) (fun j10 h => ?_) (fun v10 h => ?_)
      ·refine AK ?_
       refine AT h (fun v11 => mk [(4, oD (.own 2017)), (6, oD (.own 2018)), (7, oD (.own 2019)), (8, iD v4.2), (9, iD v7.2), (49, bD v11)] [(2017, .vec 1 (v1.1.map (DG Ac))), (2018, .vec 3 (v3.map Ac)), (2019, .vec 3 (v7.1.map Ac))]) (fun j11 h => ?_) (fun v11 h => ?_)
       ·refine Ak Ax rfl (qw 2 rfl ?_)
        refine BB h fun v12 a12 b12 h => qI EL Ki a12 (Ah b12) rfl (qj Pw (Ah b12) rfl (qw 2 rfl ?_))
        refine BB h fun v13 a13 b13 h => qI A3 Cz a13 (Ah b13) rfl (qJ It Cz (Ah b13) rfl ?_)
        refine B1 h fun v14 a14 h => AA [] (I0 N v12 v13 v14 a14) cg rfl (qm rfl ?_)
        refine EU 41 h rfl (fun h => ?_) fun h => ?_
        ·refine qw 3 rfl ?_
         refine BB h fun v16 a16 b16 h => qI A3 Cz a16 (Ah b16) rfl (qJ It Cz (Ah b16) rfl ?_)
         refine B1 h fun v17 a17 h => DU [] [2010] (I0 N v7.1 v16 v17 a17) cg B9 rfl (CQ rfl (qp rfl (AQ (by kernel_rfl) ?_)))
         exact sn [(2017, 2008), (2018, 2009), (2019, 2010)] h
        ·refine qw 7 rfl (qp rfl (AQ (by kernel_rfl) ?_))
         exact sn [(2017, 2008), (2018, 2009), (2019, 2010)] h
       ·refine Bd h (fun h => ?_) fun h => ?_
        ·refine Ak Ax rfl (qw 3 rfl ?_)
         refine BB h fun v19 a19 b19 h => qI A3 Cz a19 (Ah b19) rfl (qJ It Cz (Ah b19) rfl (Eb A3 Cz GV rfl ?_))
         refine F2 h fun c20 h => DE (f := Ac) A3 A3 Cz LE GV c20 rfl (qe rfl ?_)
         exact sn [(2014, 2017), (2015, 2018), (2016, 56)] h
        ·refine Am ?_
         exact sn [(2014, 2017), (2015, 2018), (2016, 2019)] h
      ·refine Ak Ax rfl (qm rfl (AZ rfl (qe rfl ?_)))
       exact sn [(2008, 2014), (2009, 2015), (2010, 2016)] h
     ·refine AS ?_
      exact sn [(2011, 2008), (2012, 2009), (2013, 2010)] h
    ·refine Ag hs (Ak Ax rfl (qm rfl (AZ rfl (qe rfl ?_))))
     exact sn [(2004, 2011), (2005, 2012), (2006, 2013)] h
   ·refine AS ?_
    exact sn [(2007, 2006)] h
  ·refine Ag hs (wq rfl (qm rfl (qa rfl (qe rfl ?_))))
   obtain rfl := sj h
   refine Ag (sm [(1000, 2007)] [(2, oD (.own 1000)), (3, iD 0)] [(1000, .vec 3 (v5.map Ac))] rfl rfl) (Au ?_)
   exact ⟨⟨[_, _], ⟨.tmp _ _ rfl, tm⟩, rfl⟩, ⟨rfl, tv⟩⟩
theorem If (N : Nat) (p0 : List Aa) (p1 : List Aa) (r : Bool) (h : D3 N p0 p1 = some r) : Ar zA 23 [pD (.sl (p0.map Ac)), pD (.sl (p1.map Ac))] [] (bD r) := by
 unfold D3 at h
 refine cw (n := 26) (rs := [.tmp 4]) Tryz.func23 fun w0 S0 => ?_
 refine wq rfl (qa rfl (Ad (wp rfl (qm rfl (AM A3 rfl (qm rfl (AM A3 rfl (BF rfl (Ad ?_)))))))))
 refine Bd h (fun h => ?_) fun h => ?_
 ·refine wq rfl (qe rfl ?_)
  obtain rfl := sj h
  refine Ag (sm [] [(4, bD false)] [] rfl rfl) (Au ?_)
  exact ⟨⟨[_], tm, rfl⟩, tv⟩
 ·refine Am (wp rfl (qe rfl ?_))
  refine AE (L := D0 N p0 p1) h (fun v2 => mk [(0, pD (.sl (p0.map Ac))), (1, pD (.sl (p1.map Ac))), (5, iD v2)] []) (fun v3 => mk [] []) (fun _ _ => rfl) (sm [] _ _ rfl rfl) (fun j2 n2 v2 h => ?_) (fun v3 s h hs => ?_)
  ·unfold D0 at h
   refine wp rfl (qw 2 rfl (AM A3 rfl (AW rfl (Ad ?_))))
   refine Bd h (fun h => ?_) fun h => ?_
   ·refine Am (AP (AK (wq rfl (qw 2 rfl ?_))))
    refine BB h fun v5 a5 b5 h => qi A3 Cz a5 (Ah b5) rfl (qK It Cz rfl (qw 2 rfl ?_))
    refine BB h fun v6 a6 b6 h => qi A3 Cz a6 (Ah b6) rfl (qK It Cz rfl ?_)
    refine aP [.int .i64 v5.gt, .int .i64 v5.gr, .int .i64 v5.gu] [.int .i64 v6.gt, .int .i64 v6.gr, .int .i64 v6.gu] (.p rfl) rfl rfl QR rfl ?_
    refine AQ (by kernel_rfl) ?_
    refine Bd h (fun h => ?_) fun h => ?_
    ·refine wq rfl (qe rfl ?_)
     obtain rfl := sj h
     refine Ag (sm [] [(4, bD false)] [] rfl rfl) (Au ?_)
     exact ⟨⟨[_], tm, rfl⟩, tv⟩
    ·refine Am (Ak Ax rfl (qm rfl (AZ rfl (qe rfl ?_))))
     exact sn [] h
   ·refine AS ?_
    exact sn [] h
  ·refine Ag hs (wq rfl (qe rfl ?_))
   obtain rfl := sj h
   refine Ag (sm [] [(4, bD true)] [] rfl rfl) (Au ?_)
   exact ⟨⟨[_], tm, rfl⟩, tv⟩
theorem MF (N : Nat) (p0 : List (List Aa)) (p1 : List (List Aa)) (r : Bool) (h : Fz N p0 p1 = some r) : Ar zA 30 [pD (.sl (p0.map (DG Ac))), pD (.sl (p1.map (DG Ac)))] [] (bD r) := by
 unfold Fz at h
 refine cw (n := 27) (rs := [.tmp 4]) Tryz.func30 fun w0 S0 => ?_
 refine wq rfl (qa rfl (Ad (wp rfl (qm rfl (AM EL rfl (qm rfl (AM EL rfl (BF rfl (Ad ?_)))))))))
 refine Bd h (fun h => ?_) fun h => ?_
 ·refine wq rfl (qe rfl ?_)
  obtain rfl := sj h
  refine Ag (sm [] [(4, bD false)] [] rfl rfl) (Au ?_)
  exact ⟨⟨[_], tm, rfl⟩, tv⟩
 ·refine Am (wp rfl (qe rfl ?_))
  refine AE (L := C8 N p0 p1) h (fun v2 => mk [(0, pD (.sl (p0.map (DG Ac)))), (1, pD (.sl (p1.map (DG Ac)))), (5, iD v2)] []) (fun v3 => mk [] []) (fun _ _ => rfl) (sm [] _ _ rfl rfl) (fun j2 n2 v2 h => ?_) (fun v3 s h hs => ?_)
  ·unfold C8 at h
   refine wp rfl (qw 2 rfl (AM EL rfl (AW rfl (Ad ?_))))
   refine Bd h (fun h => ?_) fun h => ?_
   ·refine Am (AP (AK (wq rfl (qw 2 rfl ?_))))
    refine BB h fun v5 a5 b5 h => qi EL Ki a5 (Ah b5) rfl (qk Pw rfl (qw 2 rfl ?_))
    refine BB h fun v6 a6 b6 h => qi EL Ki a6 (Ah b6) rfl (qk Pw rfl ?_)
    refine B1 h fun v7 a7 h => AA [] (If N v5 v6 v7 a7) cd rfl (CQ rfl (AQ (by kernel_rfl) ?_))
    refine Bd h (fun h => ?_) fun h => ?_
    ·refine wq rfl (qe rfl ?_)
     obtain rfl := sj h
     refine Ag (sm [] [(4, bD false)] [] rfl rfl) (Au ?_)
     exact ⟨⟨[_], tm, rfl⟩, tv⟩
    ·refine Am (Ak Ax rfl (qm rfl (AZ rfl (qe rfl ?_))))
     exact sn [] h
   ·refine AS ?_
    exact sn [] h
  ·refine Ag hs (wq rfl (qe rfl ?_))
   obtain rfl := sj h
   refine Ag (sm [] [(4, bD true)] [] rfl rfl) (Au ?_)
   exact ⟨⟨[_], tm, rfl⟩, tv⟩
theorem KP (N : Nat) (p0 : Bz) (r : Bool) (h : Di N p0 = some r) : Ar zA 8 [.e (.agg (Dc p0))] [] (bD r) := by
 unfold Di at h
 refine cw (n := 95) (rs := [.tmp 2]) Tryz.func8 fun w0 S0 => ?_
 refine wq rfl (qb rfl (qa rfl (Ad (wq rfl (qL dh eo rfl ?_)))))
 refine B1 h fun v1 a1 h => AA [2001, 2002, 2003, 2004] (OM N p0 v1 a1) fQ rfl (qm rfl (qx rfl (qx rfl (qz LG rfl (qs BT rfl (qa rfl (Ad (AP ?_))))))))
 refine AT h (fun v2 => mk [(3, oD (.ptr 3 0)), (25, bD v2)] [(3, .box [.own 2005, .own 2006, .own 2007, .own 2008]), (2005, .vec 1 (v1.1.f9.map Aq)), (2006, .vec 1 (v1.1.gf.map Aq)), (2007, .vec 1 (v1.1.gj.map Aq)), (2008, .vec 6 (v1.1.ga.map AJ))]) (fun j2 h => ?_) (fun v2 h => ?_)
 ·refine Ak Ax rfl ?_
  refine B1 h fun v3 a3 h => AA [] (Jw N v3 a3) eF rfl (CQ rfl (qm rfl ?_))
  refine EU 22 h rfl (fun h => ?_) fun h => ?_
  ·refine qw 2 rfl (qp rfl (Ad ?_))
   exact sn [(2005, 2001), (2006, 2002), (2007, 2003), (2008, 2004)] h
  ·refine qm rfl (CQ rfl (qp rfl (Ad ?_)))
   exact sn [(2005, 2001), (2006, 2002), (2007, 2003), (2008, 2004)] h
 ·refine Bd h (fun h => ?_) fun h => ?_
  ·refine wq rfl ?_
   refine B1 h fun v6 a6 h => AA [] (Jw N v6 a6) eF rfl (qe rfl ?_)
   obtain rfl := sj h
   refine Ag (sm [] [(2, bD v6)] [] rfl rfl) (Au ?_)
   exact ⟨⟨[_], tm, rfl⟩, tv⟩
  ·refine Am (wq rfl (qL CD BT rfl (Et (BJ 2005 _ _ rfl rfl) (Et (BJ 2006 _ _ rfl rfl) (Et (BJ 2007 _ _ rfl rfl) (Et (BJ 2008 _ _ rfl rfl) ?_))))))
   refine B1 h fun v7 a7 h => AA [2009] (I4 N v1.1 v7 a7) Zr rfl (qm rfl (qx rfl (qx rfl (qa rfl (qa rfl (Ad (wq rfl (qL CD BT rfl ?_))))))))
   refine B1 h fun v8 a8 h => AA [2010] (Ks N v1.1 v8 a8) dA rfl (qm rfl (qx rfl (qx rfl (qa rfl (qa rfl (Ad (wq rfl (qL CD BT rfl ?_))))))))
   refine B1 h fun v9 a9 h => AA [] (LF N v1.1 v9 a9) eH rfl (qm rfl (qx rfl (qx rfl (qa rfl (qa rfl (Ad (wq rfl (qL CD BT rfl ?_))))))))
   refine B1 h fun v10 a10 h => AA [2011] (OR N v1.1 v10 a10) fP rfl (qm rfl (qx rfl (qx rfl (qa rfl (qa rfl (Ad (wq rfl (qL CD BT rfl ?_))))))))
   refine B1 h fun v11 a11 h => AA [2012] (LM N v1.1 v11 a11) fI rfl (qm rfl (qx rfl (qx rfl (qa rfl (qa rfl (Ad (AP ?_)))))))
   refine AT h (fun v12 => mk [(7, oD (.own 2013)), (8, iD v8.2), (9, pD (.sl (v9.1.map Ac))), (76, bD v12)] [(2013, .vec 1 (v8.1.map (DG Ac)))]) (fun j12 h => ?_) (fun v12 h => ?_)
   ·refine Ak Ax rfl (qw 2 rfl (BF rfl (qm rfl ?_)))
    refine EU 55 h rfl (fun h => ?_) fun h => ?_
    ·refine qw 3 rfl (qp rfl (qw 4 rfl (qp rfl (qw 5 rfl (qp rfl (qw 5 rfl (qp rfl (Ad ?_))))))))
     exact sn [(2013, 2010)] h
    ·refine qw 2 rfl (BF rfl (qp rfl (qm rfl ?_)))
     refine EU 60 h rfl (fun h => ?_) fun h => ?_
     ·refine qw 3 rfl (qp rfl (qw 5 rfl (qp rfl (qw 5 rfl (qp rfl (Ad ?_))))))
      exact sn [(2013, 2010)] h
     ·refine qw 2 rfl (BF rfl (qp rfl (qm rfl ?_)))
      refine EU 65 h rfl (fun h => ?_) fun h => ?_
      ·refine qw 4 rfl (qp rfl (qw 5 rfl (qp rfl (Ad ?_))))
       exact sn [(2013, 2010)] h
      ·refine qw 2 rfl ?_
       refine B1 h fun v16 a16 h => DU [] [2009, 2010] (MF N v7.1 v8.1 v16 a16) fq B9 rfl (CQ rfl (qp rfl (qm rfl ?_)))
       refine EU 71 h rfl (fun h => ?_) fun h => ?_
       ·refine qw 4 rfl (qp rfl (Ad ?_))
        exact sn [(2013, 2010)] h
       ·refine qw 2 rfl ?_
        refine B1 h fun v18 a18 h => DU [] [2011, 2012] (If N v10.1 v11.1 v18 a18) cd B9 rfl (CQ rfl (qp rfl (Ad ?_)))
        exact sn [(2013, 2010)] h
   ·refine Bd h (fun h => ?_) fun h => ?_
    ·refine wq rfl (qe rfl ?_)
     obtain rfl := sj h
     refine Ag (sm [] [(2, bD false)] [] rfl rfl) (Au ?_)
     exact ⟨⟨[_], tm, rfl⟩, tv⟩
    ·refine Am ?_
     refine AT h (fun v20 => mk [(2, bD v20)] []) (fun j20 h => ?_) (fun v20 h => ?_)
     ·refine Ak Ax rfl (qm rfl (B5 rfl (qm rfl ?_)))
      refine EU 79 h rfl (fun h => ?_) fun h => ?_
      ·refine qw 2 rfl ?_
       refine BB h fun v22 a22 b22 h => qI EL Ki a22 (Ah b22) rfl (qj Pw (Ah b22) rfl ?_)
       refine B1 h fun v23 a23 h => AA [] (If N v9.1 v22 v23 a23) cd rfl (qp rfl (qm rfl ?_))
       refine EU 86 h rfl (fun h => ?_) fun h => ?_
       ·refine qw 3 rfl (qu rfl (qu rfl (qu rfl (qn rfl (qp rfl (qe rfl ?_))))))
        exact sn [] h
       ·refine qm rfl (BF rfl (qm rfl ?_))
        refine EU 89 h rfl (fun h => ?_) fun h => ?_
        ·refine qm rfl (AM A3 rfl (B5 rfl (qp rfl (qp rfl (qe rfl ?_)))))
         exact sn [] h
        ·refine qw 3 rfl (qp rfl (qp rfl (qe rfl ?_)))
         exact sn [] h
      ·refine qw 5 rfl (qp rfl (qw 2 rfl (BF rfl (qm rfl ?_))))
       refine EU 89 h rfl (fun h => ?_) fun h => ?_
       ·refine qm rfl (AM A3 rfl (B5 rfl (qp rfl (qp rfl (qe rfl ?_)))))
        exact sn [] h
       ·refine qw 3 rfl (qp rfl (qp rfl (qe rfl ?_)))
        exact sn [] h
     ·obtain rfl := sj h
      refine Ag (sm [] [(2, bD v20)] [] rfl rfl) (Au ?_)
      exact ⟨⟨[_], tm, rfl⟩, tv⟩
end Go.Lift
