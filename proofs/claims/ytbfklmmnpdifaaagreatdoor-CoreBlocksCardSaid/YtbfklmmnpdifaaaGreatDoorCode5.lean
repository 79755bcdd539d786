/- Lemmas for CoreBlocksCardSaid, which YtbfklmmnpdifaaaGreatDoorFinC3 proves. -/
import Derived.Test.YtbfklmmnpdifaaaGreatDoorCode4
open List renaming map_eq_nil_iff → uQ, replicate → zG
open Nat renaming zero_add → zC
open Go.Proofs.Tryz renaming prog → zA
namespace Go.Lift
set_option maxRecDepth 10000
open Go.RowKit
open Go.Proofs
theorem PD (N : Nat) (p0 : Aa) (p1 : Ad) (r : (List Ae) × Int) (h : Hj N p0 p1 = some r) : An zA 87 [.e (.agg (Ah p0)), .e (.agg (AL p1))] [(3, r.1.map AC)] (.tup [.one (.own 0), .one (iC r.2)]) := by
 unfold Hj at h
 refine cw (n := 17) (rs := [.tmp 4, .tmp 5]) Tryz.func87 fun w0 S0 => ?_
 refine wq rfl (qb rfl (qb rfl (qa rfl (qa rfl (Ab (wp rfl (qL Dk Cg rfl (qL Ca A9 rfl ?_))))))))
 refine Bq h fun v1 a1 h => Ax [] (K2 N p0 p1 v1 a1) Vk rfl (qa rfl (Ab (wq rfl (qm rfl (BB rfl (Ab ?_))))))
 refine A7 h (fun h => ?_) fun h => ?_
 ·refine wq rfl (qm rfl (qa rfl (qe rfl ?_)))
  obtain rfl := sj h
  refine Af ((A2 4 2001 3 rfl rfl rfl).trans (sm [(1000, 2001)] [(4, oD (.own 1000)), (5, iD v1)] [(1000, .vec 3 ((([] : List Ae)).map AC))] rfl rfl)) (Aq ?_)
  exact ⟨⟨[_, _], ⟨.tmp _ _ rfl, tm⟩, rfl⟩, ⟨rfl, tv⟩⟩
 ·refine Ai (wq rfl (qL Dk Cg rfl ?_))
  refine Bq h fun v3 a3 h => Ax [2002] (UJ N p0 v3 a3) bn rfl (DG (I4 2 [.sl (p0.fb.map Ak), .sl (p0.fi.map Ak), .sl (p0.fm.map Ak), .sl (p0.fc.map AT)] rfl rfl) (DG (I4 3 [.sl (p1.fd.map Ak), .sl (p1.fa.map Ak), .sl (p1.fe.map Ex)] rfl rfl) ?_))
  refine Jo (capD := [_, _]) (BS (L7 true AC) tB ((fun (x : Ae) => Eg N x p0.fb p0.fi p0.fm p0.fc p1.fd p1.fa p1.fe))) (.p rfl) cQ rfl ⟨rfl, rfl, tv⟩ rfl (fun ar t ht => by obtain ⟨x, r, rfl, hq, rfl⟩ := IG ht; exact OM N x p0.fb p0.fi p0.fm p0.fc p1.fd p1.fa p1.fe r hq) ?_
  obtain ⟨v4, a4, h⟩ := bind_some h
  obtain ⟨c5, h⟩ := If h
  have w6 : 0 + v4.1 ≤ v4.2.length := by rw [zC]; exact c5
  refine D0 (ds0 := [_, _]) [2002] [] [true] (HU N v3 ((fun (x : Ae) => Eg N x p0.fb p0.fi p0.fm p0.fc p1.fd p1.fa p1.fe)) v4 a4) (.p rfl) cn rfl ⟨rfl, rfl, tv⟩ rfl rfl (by decide) ⟨rfl, tv⟩ rfl (Bi rfl) tv ⟨(fun h => by cases h), tv⟩ rfl rfl rfl ?_
  refine DG (Xb AC v4.2 16 2002 2003 3 v4.1 rfl rfl rfl rfl rfl c5) (qa rfl (qe rfl ?_))
  obtain rfl := sj h
  refine Af (sm [(1000, 2003)] [(4, oD (.own 1000)), (5, iD 0)] [(1000, .vec 3 ((v4.2.take v4.1).map AC))] rfl rfl) (Aq ?_)
  exact ⟨⟨[_, _], ⟨.tmp _ _ rfl, tm⟩, rfl⟩, ⟨rfl, tv⟩⟩
theorem Ss (N : Nat) (p0 : Ae) (r : Bool) (h : Ie N p0 = some r) : An zA 162 [.e (.agg (DX p0))] [] (bD r) := by
 unfold Ie at h
 refine cw (n := 27) (rs := [.tmp 2]) Tryz.func162 fun w0 S0 => ?_
 refine wq rfl (qb rfl (qa rfl (Ab (AK ?_))))
 refine AN h (fun v1 => mk [(1, oD (.ptr 1 0)), (18, bD v1)] [(1, .box (DX p0))]) (fun j1 h => ?_) (fun v1 h => ?_)
 ·refine Ag As rfl (qf F8 rfl (ql B4 rfl (qf Ij rfl (ql B4 rfl ?_))))
  refine cz (.p rfl) rfl rfl ?_
  refine AV rfl (qm rfl ?_)
  refine EM 9 h rfl (fun h => ?_) fun h => ?_
  ·refine qw 3 rfl (qp rfl (qw 4 rfl (qp rfl (Ab ?_))))
   exact sn [] h
  ·refine qf G7 rfl (ql B4 rfl (AV rfl (qp rfl (qm rfl ?_))))
   refine EM 14 h rfl (fun h => ?_) fun h => ?_
   ·refine qw 3 rfl (qp rfl (Ab ?_))
    exact sn [] h
   ·refine qf G7 rfl (ql B4 rfl (FW rfl (qp rfl (Ab ?_))))
    exact sn [] h
 ·refine A7 h (fun h => ?_) fun h => ?_
  ·refine wq rfl (qe rfl ?_)
   obtain rfl := sj h
   refine Af (sm [] [(2, bD false)] [] rfl rfl) (Aq ?_)
   exact ⟨⟨[_], tm, rfl⟩, tv⟩
  ·refine Ai ?_
   refine AN h (fun v5 => mk [(2, bD v5)] []) (fun j5 h => ?_) (fun v5 h => ?_)
   ·refine Ag As rfl (qf G7 rfl (ql B4 rfl (B9 rfl (qm rfl ?_))))
    refine EM 22 h rfl (fun h => ?_) fun h => ?_
    ·refine qw 3 rfl (qp rfl (qe rfl ?_))
     exact sn [] h
    ·refine qf Ij rfl (ql B4 rfl (B9 rfl (qp rfl (qe rfl ?_))))
     exact sn [] h
   ·obtain rfl := sj h
    refine Af (sm [] [(2, bD v5)] [] rfl rfl) (Aq ?_)
    exact ⟨⟨[_], tm, rfl⟩, tv⟩
theorem Q3 (N : Nat) (p0 : Aa) (p1 : Ae) (r : Bool) (h : HE N p0 p1 = some r) : An zA 163 [.e (.agg (Ah p0)), .e (.agg (DX p1))] [] (bD r) := by
 unfold HE at h
 refine cw (n := 36) (rs := [.tmp 4]) Tryz.func163 fun w0 S0 => ?_
 refine wq rfl (qb rfl (qb rfl (qa rfl (Ab (wp rfl (qf G7 rfl (ql B4 rfl (B9 rfl (Ab ?_)))))))))
 refine A7 h (fun h => ?_) fun h => ?_
 ·refine wq rfl (qf F8 rfl (ql B4 rfl (qf Cs rfl (ql HN rfl (AO DT rfl (AV rfl (qe rfl ?_)))))))
  obtain rfl := sj h
  refine Af (sm [] [(4, bD ((decide (p1.fh < (p0.fc.length : Int)))))] [] rfl rfl) (Aq ?_)
  exact ⟨⟨[_], tm, rfl⟩, tv⟩
 ·refine Ai ?_
  refine AN h (fun v2 => mk [(4, bD v2)] []) (fun j2 h => ?_) (fun v2 h => ?_)
  ·refine Ag As rfl (qf F8 rfl (ql B4 rfl (qf Bf rfl (ql A6 rfl (AO Au rfl (AV rfl (qm rfl ?_)))))))
   refine EM 20 h rfl (fun h => ?_) fun h => ?_
   ·refine qf G7 rfl (ql B4 rfl (BB rfl (qm rfl ?_)))
    refine EM 24 h rfl (fun h => ?_) fun h => ?_
    ·refine qw 9 rfl (qp rfl (qp rfl (qa rfl (AD (by kernel_rfl) ?_))))
     exact sn [] h
    ·refine qf Ij rfl (ql B4 rfl (qf Bf rfl (ql A6 rfl (qf F8 rfl (ql B4 rfl ?_)))))
     refine Bb h fun v5 a5 b5 h => qi Au CP a5 (Ac b5) rfl (qk B4 rfl (AV rfl (qp rfl (qp rfl (qa rfl (AD (by kernel_rfl) ?_))))))
     exact sn [] h
   ·refine qw 4 rfl (qu rfl (qu rfl (qu rfl (qu rfl (qu rfl (qu rfl (qu rfl (qu rfl (qu rfl (qn rfl (qp rfl (qa rfl (AD (by kernel_rfl) ?_)))))))))))))
    exact sn [] h
  ·obtain rfl := sj h
   refine Af (sm [] [(4, bD v2)] [] rfl rfl) (Aq ?_)
   exact ⟨⟨[_], tm, rfl⟩, tv⟩
theorem Su (N : Nat) (p0 : Aa) (p1 : Ad) (p2 : Ae) (r : Ad × Int) (h : H5 N p0 p1 p2 = some r) : An zA 128 [.e (.agg (Ah p0)), .e (.agg (AL p1)), .e (.agg (DX p2))] [(1, r.1.fd.map Ak), (1, r.1.fa.map Ak), (1, r.1.fe.map Ex)] (.tup [.agg [.own 0, .own 1, .own 2], .one (iC r.2)]) := by
 unfold H5 at h
 refine cw (n := 32) (rs := [.cell 6 49, .tmp 7]) Tryz.func128 fun w0 S0 => ?_
 refine wq rfl (qb rfl (qb rfl (qb rfl (qz Fc rfl (qa rfl (Ab (AK (AF (wq rfl (qL Kz Fq rfl ?_))))))))))
 refine Bq h fun v1 a1 h => Ax [] (Ss N p2 v1 a1) bF rfl (Cc rfl (qe rfl ?_))
 refine A7 h (fun h => ?_) fun h => ?_
 ·refine wq rfl (Bp Fc Ke rfl (qs A9 rfl (qe rfl ?_)))
  obtain rfl := sj h
  refine Af ((Ar 6 0 2001 1 _ rfl rfl rfl rfl).trans ((Ar 6 1 2002 1 _ rfl rfl rfl rfl).trans ((Ar 6 2 2003 1 _ rfl rfl rfl rfl).trans (sm [(1000, 2001), (1001, 2002), (1002, 2003)] [(6, oD (.ptr 6 0)), (7, iD 1)] [(6, .box [.own 1000, .own 1001, .own 1002]), (1000, .vec 1 ((([] : List Int)).map Ak)), (1001, .vec 1 ((([] : List Int)).map Ak)), (1002, .vec 1 ((([] : List Int)).map Ex))] rfl rfl)))) (Aq ?_)
  exact ⟨⟨[_, _], ⟨.cellN _ _ _ _ _ _ _ rfl rfl Ca A9 rfl rfl (Kn rfl), tm⟩, rfl⟩, ⟨rfl, rfl, rfl, tv⟩⟩
 ·refine wq rfl (qL Dk Cg rfl (qL Kz Fq rfl ?_))
  refine Bq h fun v3 a3 h => Ax [] (Q3 N p0 p2 v3 a3) co rfl (Cc rfl (qe rfl ?_))
  refine A7 h (fun h => ?_) fun h => ?_
  ·refine wq rfl (Bp Fc Ke rfl (qs A9 rfl (qe rfl ?_)))
   obtain rfl := sj h
   refine Af ((Ar 6 0 2004 1 _ rfl rfl rfl rfl).trans ((Ar 6 1 2005 1 _ rfl rfl rfl rfl).trans ((Ar 6 2 2006 1 _ rfl rfl rfl rfl).trans (sm [(1000, 2004), (1001, 2005), (1002, 2006)] [(6, oD (.ptr 6 0)), (7, iD 4)] [(6, .box [.own 1000, .own 1001, .own 1002]), (1000, .vec 1 ((([] : List Int)).map Ak)), (1001, .vec 1 ((([] : List Int)).map Ak)), (1002, .vec 1 ((([] : List Int)).map Ex))] rfl rfl)))) (Aq ?_)
   exact ⟨⟨[_, _], ⟨.cellN _ _ _ _ _ _ _ rfl rfl Ca A9 rfl rfl (Kn rfl), tm⟩, rfl⟩, ⟨rfl, rfl, rfl, tv⟩⟩
  ·refine Ai (wq rfl (qL Dk Cg rfl (qL Ca A9 rfl (qL Kz Fq rfl ?_))))
   refine Bq h fun v5 a5 h => Ax [2007, 2008, 2009] (Ob N p0 p1 p2 v5 a5) Zq rfl (qm rfl (qx rfl (qx rfl (qz Fc rfl (qs A9 rfl (qa rfl (Ab (wp rfl (qm rfl (Cc rfl (Ab ?_)))))))))))
   refine A7 h (fun h => ?_) fun h => ?_
   ·refine wq rfl (Bp Fc Ke rfl (qs A9 rfl (qe rfl ?_)))
    obtain rfl := sj h
    refine Af ((Ar 6 0 2010 1 _ rfl rfl rfl rfl).trans ((Ar 6 1 2011 1 _ rfl rfl rfl rfl).trans ((Ar 6 2 2012 1 _ rfl rfl rfl rfl).trans (sm [(1000, 2010), (1001, 2011), (1002, 2012)] [(6, oD (.ptr 6 0)), (7, iD 11)] [(6, .box [.own 1000, .own 1001, .own 1002]), (1000, .vec 1 ((([] : List Int)).map Ak)), (1001, .vec 1 ((([] : List Int)).map Ak)), (1002, .vec 1 ((([] : List Int)).map Ex))] rfl rfl)))) (Aq ?_)
    exact ⟨⟨[_, _], ⟨.cellN _ _ _ _ _ _ _ rfl rfl Ca A9 rfl rfl (Kn rfl), tm⟩, rfl⟩, ⟨rfl, rfl, rfl, tv⟩⟩
   ·refine Ai (wq rfl (qL Ca A9 rfl (qs A9 rfl (qe rfl ?_))))
    obtain rfl := sj h
    refine Af (sm [(1000, 2007), (1001, 2008), (1002, 2009)] [(6, oD (.ptr 6 0)), (7, iD 0)] [(6, .box [.own 1000, .own 1001, .own 1002]), (1000, .vec 1 (v5.1.fd.map Ak)), (1001, .vec 1 (v5.1.fa.map Ak)), (1002, .vec 1 (v5.1.fe.map Ex))] rfl rfl) (Aq ?_)
    exact ⟨⟨[_, _], ⟨.cellN _ _ _ _ _ _ _ rfl rfl Ca A9 rfl rfl (Kn rfl), tm⟩, rfl⟩, ⟨rfl, rfl, rfl, tv⟩⟩
theorem SO (N : Nat) (p0 : Aa) (p1 : Ad) (p2 : Ae) (r : Ad × Int) (h : Ia N p0 p1 p2 = some r) : An zA 88 [.e (.agg (Ah p0)), .e (.agg (AL p1)), .e (.agg (DX p2))] [(1, r.1.fd.map Ak), (1, r.1.fa.map Ak), (1, r.1.fe.map Ex)] (.tup [.agg [.own 0, .own 1, .own 2], .one (iC r.2)]) := by
 unfold Ia at h
 refine cw (n := 22) (rs := [.cell 6 49, .tmp 7]) Tryz.func88 fun w0 S0 => ?_
 refine wq rfl (qb rfl (qb rfl (qb rfl (qz Fc rfl (qa rfl (Ab (wp rfl (qL Dk Cg rfl (qL Ca A9 rfl ?_)))))))))
 refine Bq h fun v1 a1 h => Ax [] (K2 N p0 p1 v1 a1) Vk rfl (qa rfl (Ab (wq rfl (qm rfl (BB rfl (Ab ?_))))))
 refine A7 h (fun h => ?_) fun h => ?_
 ·refine wq rfl (Bp Fc Ke rfl (qm rfl (qs A9 rfl (qe rfl ?_))))
  obtain rfl := sj h
  refine Af ((Ar 6 0 2001 1 _ rfl rfl rfl rfl).trans ((Ar 6 1 2002 1 _ rfl rfl rfl rfl).trans ((Ar 6 2 2003 1 _ rfl rfl rfl rfl).trans (sm [(1000, 2001), (1001, 2002), (1002, 2003)] [(6, oD (.ptr 6 0)), (7, iD v1)] [(6, .box [.own 1000, .own 1001, .own 1002]), (1000, .vec 1 ((([] : List Int)).map Ak)), (1001, .vec 1 ((([] : List Int)).map Ak)), (1002, .vec 1 ((([] : List Int)).map Ex))] rfl rfl)))) (Aq ?_)
  exact ⟨⟨[_, _], ⟨.cellN _ _ _ _ _ _ _ rfl rfl Ca A9 rfl rfl (Kn rfl), tm⟩, rfl⟩, ⟨rfl, rfl, rfl, tv⟩⟩
 ·refine Ai (wq rfl (qL Dk Cg rfl (qL Ca A9 rfl (qL Kz Fq rfl ?_))))
  refine Bq h fun v3 a3 h => Ax [2004, 2005, 2006] (Su N p0 p1 p2 v3 a3) du rfl (qx rfl (qx rfl (qs A9 rfl (qe rfl ?_))))
  obtain rfl := sj h
  refine Af (sm [(1000, 2004), (1001, 2005), (1002, 2006)] [(6, oD (.ptr 6 0)), (7, iD v3.2)] [(6, .box [.own 1000, .own 1001, .own 1002]), (1000, .vec 1 (v3.1.fd.map Ak)), (1001, .vec 1 (v3.1.fa.map Ak)), (1002, .vec 1 (v3.1.fe.map Ex))] rfl rfl) (Aq ?_)
  exact ⟨⟨[_, _], ⟨.cellN _ _ _ _ _ _ _ rfl rfl Ca A9 rfl rfl (Kn rfl), tm⟩, rfl⟩, ⟨rfl, rfl, rfl, tv⟩⟩
theorem QL (N : Nat) (p0 : Aa) (p1 : Ad) (r : (List AG) × Int) (h : HA N p0 p1 = some r) : An zA 106 [.e (.agg (Ah p0)), .e (.agg (AL p1))] [] (.tup [.one (sC (r.1.map Bo)), .one (iC r.2)]) := by
 unfold HA at h
 refine cw (n := 119) (rs := [.tmp 4, .tmp 5]) Tryz.func106 fun w0 S0 => ?_
 refine wq rfl (qb rfl (qb rfl (qa rfl (qa rfl (Ab (wq rfl (qL Ca A9 rfl (Bp SW ZP rfl ?_))))))))
 refine Nb [(0, .tmp 21, _)] (.p rfl) rfl ⟨rfl, tv⟩ rfl H1 L0 SW rfl rfl (D8 rfl) rfl rfl ?_
 refine DG (Q8 22 8 [.s, .s, .s, .s, .s, .s, .s, .x 1 []] _ ((([(AG.mk p1 ((-1)) ((Ae.mk 0 0 0)) (([] : List Int)))] : List AG)).map Bo) rfl rfl) (qa rfl (Ab (wq rfl ?_)))
 refine Wa (.p rfl) rfl ?_
 refine qL Ca A9 rfl ?_
 refine Bq h fun v1 a1 h => Ax [] (P8 N p1 v1 a1) ZV rfl ?_
 refine PA (kv := Value.string) (vt := CT) (m := ([] : List (ByteArray × Int))) (k := v1) (v := 0) rfl (.inr rfl) rfl rfl rfl rfl (OF SH am) rfl ?_
 refine qm rfl (qa rfl (Ab (wp rfl (qe rfl ?_))))
 refine Ay (L := Ed N p0) h (fun v2 => mk [(2, oD (.ptr 2 0)), (6, oD (.own 2001)), (7, oD (.mref 2002)), (8, iD v2.2.2)] [(2, .box (Ah p0)), (2001, .dvec 8 [.s, .s, .s, .s, .s, .s, .s, .x 1 []] (v2.1.map Bo)), (2002, .mp (GI Value.string CT v2.2.1))]) (fun v3 => mk [(6, oD (.own 2003))] [(2003, .dvec 8 [.s, .s, .s, .s, .s, .s, .s, .x 1 []] (v3.map Bo))]) (fun _ _ => rfl) (sm [(2001, 22), (2002, 23)] _ _ rfl rfl) (fun j2 n2 v2 h => ?_) (fun v3 s h hs => ?_)
 ·unfold Ed at h
  refine wp rfl (qw 2 rfl ?_)
  refine Uo (.p rfl) rfl rfl (MI Bo v2.1 _ _) H1 ?_
  refine AV rfl (Ab ?_)
  refine A7 h (fun h => ?_) fun h => ?_
  ·refine Ai (AK (AF (wq rfl (qL Dk Cg rfl (qw 2 rfl ?_)))))
   refine Bb h fun v5 a5 b5 h => Ol (.p rfl) rfl rfl rfl (MI Bo v2.1 _ _) H1 L0 a5 (AJ b5) ?_
   refine qh Py rfl ?_
   refine ST (.p rfl) rfl Ca A9 rfl (Ac b5) rfl rfl (by decide) rfl ?_
   refine Bq h fun v6 a6 h => Ax [2004] (PD N p0 ((Ad.mk v5.fp.fd v5.fp.fa v5.fp.fe)) v6 a6) dV rfl (qm rfl (qx rfl (qx rfl (qa rfl (qa rfl (AD (by kernel_rfl) (wp rfl (qm rfl (BB rfl (Ab ?_))))))))))
   refine A7 h (fun h => ?_) fun h => ?_
   ·refine wq rfl (qm rfl (qa rfl (qe rfl ?_)))
    obtain rfl := sj h
    refine Af ((PY 4 _ rfl).trans (sm [] [(4, pD (.sl ((([] : List AG)).map Bo))), (5, iD v6.2)] [] rfl rfl)) (Aq ?_)
    exact ⟨⟨[_, _], ⟨.tmp _ _ rfl, tm⟩, rfl⟩, tv⟩
   ·refine Ai (wq rfl (qm rfl (FG Fg rfl (qm rfl (Ab ?_)))))
    refine Ay (L := CI N p0 v2 v6) h (fun v8 => mk [(2, oD (.ptr 2 0)), (6, oD (.own 2005)), (7, oD (.mref 2006)), (8, iD v2.2.2), (46, oD (.own 2007)), (47, iD ((v6.1.length : Int))), (48, iD v8.2.2)] [(2, .box (Ah p0)), (2005, .dvec 8 [.s, .s, .s, .s, .s, .s, .s, .x 1 []] (v8.1.map Bo)), (2006, .mp (GI Value.string CT v8.2.1)), (2007, .vec 3 (v6.1.map AC))]) (fun v9 => mk [(2, oD (.ptr 2 0)), (6, oD (.own 2008)), (7, oD (.mref 2009)), (8, iD v2.2.2)] [(2, .box (Ah p0)), (2008, .dvec 8 [.s, .s, .s, .s, .s, .s, .s, .x 1 []] (v9.1.map Bo)), (2009, .mp (GI Value.string CT v9.2))]) (fun _ _ => rfl) (sm [(2005, 2001), (2006, 2002), (2007, 2004)] _ _ rfl rfl) (fun j8 n8 v8 h => ?_) (fun v9 s h hs => ?_)
    ·unfold CI at h
     refine wq rfl (AV rfl (Ab (AK ?_)))
     refine A7 h (fun h => ?_) fun h => ?_
     ·refine Ai (AK (AF (wq rfl ?_)))
      refine Bb h fun v11 a11 b11 h => qI Fg Fq a11 (Ac b11) rfl (qJ Kz Fq (Ac b11) rfl (qz Ls rfl (qs Fq rfl (Ab (wq rfl (qL Dk Cg rfl (qw 2 rfl ?_)))))))
      refine Bb h fun v12 a12 b12 h => Ol (.p rfl) rfl rfl rfl (MI Bo v8.1 _ _) H1 L0 a12 (AJ b12) ?_
      refine qh Py rfl ?_
      refine ST (.p rfl) rfl Ca A9 rfl (Ac b12) rfl rfl (by decide) rfl ?_
      refine qL Kz Fq rfl ?_
      refine Bq h fun v13 a13 h => Ax [2010, 2011, 2012] (SO N p0 ((Ad.mk v12.fp.fd v12.fp.fa v12.fp.fe)) v11 v13 a13) eH rfl (qm rfl (qx rfl (qx rfl (qz Fc rfl (qs A9 rfl (qa rfl (AD (by kernel_rfl) (wp rfl (qm rfl (BB rfl (Ab ?_)))))))))))
      refine A7 h (fun h => ?_) fun h => ?_
      ·refine wq rfl (qm rfl (qa rfl (qe rfl ?_)))
       obtain rfl := sj h
       refine Af ((PY 4 _ rfl).trans (sm [] [(4, pD (.sl ((([] : List AG)).map Bo))), (5, iD v13.2)] [] rfl rfl)) (Aq ?_)
       exact ⟨⟨[_, _], ⟨.tmp _ _ rfl, tm⟩, rfl⟩, tv⟩
      ·refine Ai (wq rfl (qL Ca A9 rfl ?_))
       refine Bq h fun v15 a15 h => D4 [] [2010, 2011, 2012] (P8 N v13.1 v15 a15) ZV Cm rfl (qa rfl (Ab (wq rfl (qw 2 rfl ?_))))
       refine W2 (kv := Value.string) (vt := CT) (m := v8.2.1) (dv := 0) (.p rfl) rfl rfl rfl (OF SH am) (by rw [SH]; rfl) JH rfl rfl rfl ?_
       refine qm rfl (qx rfl (qx rfl (qa rfl (qe rfl ?_))))
       refine AN h (fun v16 => mk [(2, oD (.ptr 2 0)), (6, oD (.own 2013)), (7, oD (.mref 2014)), (8, iD v2.2.2), (16, iD v16.2.2), (46, oD (.own 2015)), (47, iD ((v6.1.length : Int))), (48, iD v8.2.2)] [(2, .box (Ah p0)), (2013, .dvec 8 [.s, .s, .s, .s, .s, .s, .s, .x 1 []] (v16.1.map Bo)), (2014, .mp (GI Value.string CT v16.2.1)), (2015, .vec 3 (v6.1.map AC))]) (fun j16 h => ?_) (fun v16 h => ?_)
       ·refine wq rfl (qm rfl (Cc rfl (Ab ?_)))
        refine A7 h (fun h => ?_) fun h => ?_
        ·refine AN h (fun v18 => mk [(2, oD (.ptr 2 0)), (6, oD (.own 2016)), (7, oD (.mref 2017)), (8, iD v2.2.2), (15, pD (.val (.string v15))), (16, iD v18.2), (46, oD (.own 2018)), (47, iD ((v6.1.length : Int))), (48, iD v8.2.2)] [(2, .box (Ah p0)), (2016, .dvec 8 [.s, .s, .s, .s, .s, .s, .s, .x 1 []] (v18.1.map Bo)), (2017, .mp (GI Value.string CT v8.2.1)), (2018, .vec 3 (v6.1.map AC))]) (fun j18 h => ?_) (fun v18 h => ?_)
         ·refine wq rfl (qL Dk Cg rfl (qL Ca A9 rfl ?_))
          refine Bq h fun v19 a19 h => D4 [] [2010, 2011, 2012] (Od N p0 v13.1 v19 a19) dj Cm rfl (qm rfl (qx rfl (qx rfl (qa rfl (qe rfl ?_)))))
          refine AN h (fun v20 => mk [(2, oD (.ptr 2 0)), (6, oD (.own 2022)), (7, oD (.mref 2023)), (8, iD v2.2.2), (12, oD (.ptr 12 0)), (13, oD (.ptr 13 0)), (15, pD (.val (.string v15))), (46, oD (.own 2024)), (47, iD ((v6.1.length : Int))), (48, iD v8.2.2), (87, bD v20)] [(2, .box (Ah p0)), (12, .box (DX v11)), (13, .box [.own 2019, .own 2020, .own 2021]), (2019, .vec 1 (v13.1.fd.map Ak)), (2020, .vec 1 (v13.1.fa.map Ak)), (2021, .vec 1 (v13.1.fe.map Ex)), (2022, .dvec 8 [.s, .s, .s, .s, .s, .s, .s, .x 1 []] (v8.1.map Bo)), (2023, .mp (GI Value.string CT v8.2.1)), (2024, .vec 3 (v6.1.map AC))]) (fun j20 h => ?_) (fun v20 h => ?_)
          ·refine Ag As rfl (qm rfl (BB rfl (qm rfl ?_)))
           refine EM 84 h rfl (fun h => ?_) fun h => ?_
           ·refine qw 2 rfl (qp rfl (Ab ?_))
            exact sn [(2019, 2010), (2020, 2011), (2021, 2012), (2022, 2005), (2023, 2006), (2024, 2007)] h
           ·refine qm rfl (Cc rfl (qp rfl (Ab ?_)))
            exact sn [(2019, 2010), (2020, 2011), (2021, 2012), (2022, 2005), (2023, 2006), (2024, 2007)] h
          ·refine A7 h (fun h => ?_) fun h => ?_
           ·refine Ag As rfl (qe rfl ?_)
            exact sn [(2016, 2022), (2017, 2023), (2018, 2024)] h
           ·refine wq rfl (qm rfl ?_)
            refine Uo (.p rfl) rfl rfl (MI Bo v8.1 _ _) H1 ?_
            refine qa rfl (Ab (Ag As rfl (qm rfl (qL Ca A9 rfl (qm rfl (qL Kz Fq rfl (Bp SW ZP rfl (DG (Bt 2019 _ _ rfl rfl) (DG (Bt 2020 _ _ rfl rfl) (DG (Bt 2021 _ _ rfl rfl) ?_))))))))))
            refine Nb [(0, .tmp 94, _)] (.p rfl) rfl ⟨rfl, tv⟩ rfl H1 L0 SW rfl rfl (D8 rfl) rfl rfl ?_
            refine DG (Q8 95 8 [.s, .s, .s, .s, .s, .s, .s, .x 1 []] _ ((([(AG.mk v13.1 v2.2.2 v11 (([] : List Int)))] : List AG)).map Bo) rfl rfl) ?_
            refine Gg h fun c23 h => VQ (.p rfl) rfl rfl rfl rfl rfl (by decide) H1 H1 L0 Z7 (D8 rfl) SW rfl (Yi (f := Bo) (g := Bo) (xs := v8.1) (ys := (([(AG.mk v13.1 v2.2.2 v11 (([] : List Int)))] : List AG))) c23) (YX Bo v8.1 (([(AG.mk v13.1 v2.2.2 v11 (([] : List Int)))] : List AG))) rfl rfl ?_
            refine qa rfl (Ab ?_)
            exact sn [(2016, 96), (2017, 2023), (2018, 2024)] h
         ·refine Ag As rfl (qw 3 rfl ?_)
          refine PA (kv := Value.string) (vt := CT) (m := v8.2.1) (k := v15) (v := v18.2) rfl (.inl rfl) rfl rfl rfl rfl (OF SH am) rfl ?_
          refine Ab ?_
          exact sn [(2013, 2016), (2014, 2017), (2015, 2018)] h
        ·refine Ai ?_
         exact sn [(2013, 2005), (2014, 2006), (2015, 2007)] h
       ·refine AN h (fun v24 => mk [(2, oD (.ptr 2 0)), (6, oD (.own 2025)), (7, oD (.mref 2026)), (8, iD v2.2.2), (46, oD (.own 2027)), (47, iD ((v6.1.length : Int))), (48, iD v8.2.2)] [(2, .box (Ah p0)), (2025, .dvec 8 [.s, .s, .s, .s, .s, .s, .s, .x 1 []] (v24.map Bo)), (2026, .mp (GI Value.string CT v16.2.1)), (2027, .vec 3 (v6.1.map AC))]) (fun j24 h => ?_) (fun v24 h => ?_)
        ·refine wq rfl (qm rfl (Df rfl (Ab ?_)))
         refine A7 h (fun h => ?_) fun h => ?_
         ·refine Ag As rfl (qw 4 rfl ?_)
          refine Bb h fun v26 a26 b26 h => Ol (.p rfl) rfl rfl rfl (MI Bo v16.1 _ _) H1 L0 a26 (AJ b26) ?_
          refine qh TT rfl ?_
          refine Z2 (.p rfl) rfl A6 rfl (Ac b26) rfl rfl rfl rfl ?_
          refine qm rfl (DQ Au CP JH rfl ?_)
          refine Gg h fun c27 h => CJ (f := Ak) Au Au CP KS JH c27 rfl ?_
          refine Bb h fun v28 a28 b28 h => Ol (.p rfl) rfl rfl rfl (aO Bo v16.1 _ _ _ _ _) H1 L0 a28 (AJ b28) ?_
          refine qh TT rfl ?_
          refine Wz rfl rfl rfl rfl (rows2 := (v26.fa ++ (([v16.2.2] : List Int))).map Ak) (cols2 := []) rfl rfl (Ac b28) (by decide) I6 rfl rfl (A5 Bo v16.1 _ ((AG.mk ((Ad.mk v28.fp.fd v28.fp.fa v28.fp.fe)) v28.fg ((Ae.mk v28.ft.ff v28.ft.fh v28.ft.fo)) (v26.fa ++ (([v16.2.2] : List Int)))))) ?_
          refine Ab ?_
          exact sn [(2025, 2013), (2026, 2014), (2027, 2015)] h
         ·refine Ai ?_
          exact sn [(2025, 2013), (2026, 2014), (2027, 2015)] h
        ·refine wq rfl (qm rfl ?_)
         refine Uo (.p rfl) rfl rfl (MI Bo v24 _ _) H1 ?_
         refine FW rfl (Ab ?_)
         refine A7 h (fun h => ?_) fun h => ?_
         ·refine wq rfl (qa rfl (qe rfl ?_))
          obtain rfl := sj h
          refine Af ((PY 4 _ rfl).trans (sm [] [(4, pD (.sl ((([] : List AG)).map Bo))), (5, iD 3)] [] rfl rfl)) (Aq ?_)
          exact ⟨⟨[_, _], ⟨.tmp _ _ rfl, tm⟩, rfl⟩, tv⟩
         ·refine Ai (Ag As rfl (AP rfl (qm rfl (Ab ?_))))
          exact sn [(2005, 2025), (2006, 2026), (2007, 2027)] h
     ·refine AQ ?_
      exact sn [(2008, 2005), (2009, 2006)] h
    ·refine Af hs (Ag As rfl (qm rfl (AP rfl (qe rfl ?_))))
     exact sn [(2001, 2008), (2002, 2009)] h
  ·refine AQ ?_
   exact sn [(2003, 2001)] h
 ·refine Af hs (wq rfl (qm rfl (qa rfl (qe rfl ?_))))
  obtain rfl := sj h
  refine Af ((V7 2003 _ _ _ rfl rfl).trans (sm [] [(4, pD (.sl (v3.map Bo))), (5, iD 0)] [] rfl rfl)) (Aq ?_)
  exact ⟨⟨[_, _], ⟨.tmp _ _ rfl, tm⟩, rfl⟩, tv⟩
theorem LI (N : Nat) (p0 : List Int) (p1 : List Int) (r : Bool) (h : EE N p0 p1 = some r) : An zA 25 [pD (.sl (p0.map Ak)), pD (.sl (p1.map Ak))] [] (bD r) := by
 unfold EE at h
 refine cw (n := 26) (rs := [.tmp 4]) Tryz.func25 fun w0 S0 => ?_
 refine wq rfl (qa rfl (Ab (wp rfl (qm rfl (AO Au rfl (qm rfl (AO Au rfl (BB rfl (Ab ?_)))))))))
 refine A7 h (fun h => ?_) fun h => ?_
 ·refine wq rfl (qe rfl ?_)
  obtain rfl := sj h
  refine Af (sm [] [(4, bD false)] [] rfl rfl) (Aq ?_)
  exact ⟨⟨[_], tm, rfl⟩, tv⟩
 ·refine Ai (wp rfl (qm rfl (AO Au rfl (qm rfl (Ab ?_)))))
  refine Ay (L := Co N p0 p1) h (fun v2 => mk [(0, pD (.sl (p0.map Ak))), (1, pD (.sl (p1.map Ak))), (12, iD ((p0.length : Int))), (13, iD v2)] []) (fun v3 => mk [] []) (fun _ _ => rfl) (sm [] _ _ rfl rfl) (fun j2 n2 v2 h => ?_) (fun v3 s h hs => ?_)
  ·unfold Co at h
   refine wq rfl (AV rfl (Ab (AK ?_)))
   refine A7 h (fun h => ?_) fun h => ?_
   ·refine Ai (AK (AF (wq rfl (qm rfl (qa rfl (Ab (wq rfl (qw 2 rfl ?_))))))))
    refine Bb h fun v5 a5 b5 h => qi Au CP a5 (Ac b5) rfl (qk B4 rfl (qw 2 rfl ?_))
    refine Bb h fun v6 a6 b6 h => qi Au CP a6 (Ac b6) rfl (qk B4 rfl (BB rfl (AD (by kernel_rfl) ?_)))
    refine A7 h (fun h => ?_) fun h => ?_
    ·refine wq rfl (qe rfl ?_)
     obtain rfl := sj h
     refine Af (sm [] [(4, bD false)] [] rfl rfl) (Aq ?_)
     exact ⟨⟨[_], tm, rfl⟩, tv⟩
    ·refine Ai (Ag As rfl (AP rfl (qm rfl (Ab ?_))))
     exact sn [] h
   ·refine AQ ?_
    exact sn [] h
  ·refine Af hs (wq rfl (qe rfl ?_))
   obtain rfl := sj h
   refine Af (sm [] [(4, bD true)] [] rfl rfl) (Aq ?_)
   exact ⟨⟨[_], tm, rfl⟩, tv⟩
theorem KH (N : Nat) (p0 : List Int) (p1 : Int → Option Bool) (r : Int) (h : EN N p0 p1 = some r) : An zA 157 [pD (.sl (p0.map Ak)), oD (.clo (BS (L7 false Ak) tB p1))] [] (iD r) := by
 unfold EN at h
 refine cw (n := 19) (rs := [.tmp 4]) Tryz.func157 fun w0 S0 => ?_
 refine wq rfl (qa rfl (Ab (wp rfl (qm rfl (AO Au rfl (qm rfl (Ab ?_)))))))
 refine Ay (L := Bs N p0 p1) h (fun v1 => mk [(0, pD (.sl (p0.map Ak))), (1, oD (.clo (BS (L7 false Ak) tB p1))), (7, iD ((p0.length : Int))), (8, iD v1)] []) (fun v2 => mk [] []) (fun _ _ => rfl) (sm [] _ _ rfl rfl) (fun j1 n1 v1 h => ?_) (fun v2 s h hs => ?_)
 ·unfold Bs at h
  refine wq rfl (AV rfl (Ab (AK ?_)))
  refine A7 h (fun h => ?_) fun h => ?_
  ·refine Ai (AK (AF (wq rfl (qm rfl (qa rfl (Ab (wq rfl (qw 3 rfl ?_))))))))
   refine Bb h fun v4 a4 b4 h => qi Au CP a4 (Ac b4) rfl (qk B4 rfl ?_)
   refine Bq h fun v5 a5 h => Fk (ds0 := [_]) (ar := (L7 false Ak) v4) (.p rfl) rfl rfl ⟨rfl, tv⟩ rfl rfl rfl (Fi (Lw _ _ Sa) a5) ?_
   refine Ab ?_
   refine A7 h (fun h => ?_) fun h => ?_
   ·refine wq rfl (qm rfl (qe rfl ?_))
    obtain rfl := sj h
    refine Af (sm [] [(4, iD v1)] [] rfl rfl) (Aq ?_)
    exact ⟨⟨[_], tm, rfl⟩, tv⟩
   ·refine Ai (Ag As rfl (AP rfl (qm rfl (Ab ?_))))
    exact sn [] h
  ·refine AQ ?_
   exact sn [] h
 ·refine Af hs (wq rfl (qe rfl ?_))
  obtain rfl := sj h
  refine Af (sm [] [(4, iD ((-1)))] [] rfl rfl) (Aq ?_)
  exact ⟨⟨[_], tm, rfl⟩, tv⟩
theorem JP (N : Nat) (p0 : List Int) (p1 : Int → Option Bool) (r : Bool) (h : C8 N p0 p1 = some r) : An zA 121 [pD (.sl (p0.map Ak)), oD (.clo (BS (L7 false Ak) tB p1))] [] (bD r) := by
 unfold C8 at h
 refine cw (n := 9) (rs := [.tmp 4]) Tryz.func121 fun w0 S0 => ?_
 refine wq rfl (qa rfl (Ab (wq rfl (qw 2 rfl ?_))))
 refine Bq h fun v1 a1 h => Ax [] (KH N p0 p1 v1 a1) de rfl (Df rfl (qe rfl ?_))
 obtain rfl := sj h
 refine Af (sm [] [(4, bD ((decide (0 ≤ v1))))] [] rfl rfl) (Aq ?_)
 exact ⟨⟨[_], tm, rfl⟩, tv⟩
theorem RY (N : Nat) (p0 : Int) (r : Bool) (h : Ih N p0 = some r) : An zA 122 [iD p0] [] (bD r) := by
 unfold Ih at h
 refine cw (n := 5) (rs := [.tmp 2]) Tryz.func122 fun w0 S0 => ?_
 refine wq rfl (qa rfl (Ab (wq rfl (qm rfl (Df rfl (qe rfl ?_))))))
 obtain rfl := sj h
 refine Af (sm [] [(2, bD ((decide (0 ≤ p0))))] [] rfl rfl) (Aq ?_)
 exact ⟨⟨[_], tm, rfl⟩, tv⟩
theorem UH (N : Nat) (p0 : Aa) (p1 : Ad) (r : Bool) (h : JK N p0 p1 = some r) : An zA 85 [.e (.agg (Ah p0)), .e (.agg (AL p1))] [] (bD r) := by
 unfold JK at h
 refine cw (n := 22) (rs := [.tmp 4]) Tryz.func85 fun w0 S0 => ?_
 refine wq rfl (qb rfl (qb rfl (qe rfl ?_)))
 refine AN h (fun v1 => mk [(4, bD v1)] []) (fun j1 h => ?_) (fun v1 h => ?_)
 ·refine Ag As rfl (qL Dk Cg rfl (qL Ca A9 rfl ?_))
  refine Bq h fun v2 a2 h => Ax [] (K2 N p0 p1 v2 a2) Vk rfl (B9 rfl (qm rfl ?_))
  refine EM 9 h rfl (fun h => ?_) fun h => ?_
  ·refine qf Dn rfl (ql A6 rfl (qf Hg rfl (ql A6 rfl ?_)))
   refine Bq h fun v4 a4 h => Ax [] (LI N p1.fd p0.fm v4 a4) eD rfl (qp rfl (qm rfl ?_))
   refine EM 16 h rfl (fun h => ?_) fun h => ?_
   ·refine qf BO rfl (ql A6 rfl ?_)
    refine Bq h fun v6 a6 h => Ax [] (An.weak (ds' := [pD (.sl (p1.fa.map Ak)), oD (.fnc 122)]) (JP N p1.fa ((fun (x : Int) => Ih N x)) v6 a6) ⟨(fun _ _ _ hh => hh), (fun _ _ _ hh => Vu bT (fun ar t ht => by obtain ⟨x, r, rfl, hq, rfl⟩ := IG ht; exact RY N x r hq) hh), tv⟩) dt rfl ?_
    refine Cc rfl (qp rfl (qe rfl ?_))
    exact sn [] h
   ·refine qw 4 rfl (qp rfl (qe rfl ?_))
    exact sn [] h
  ·refine qw 5 rfl (qp rfl (qw 5 rfl (qp rfl (qe rfl ?_))))
   exact sn [] h
 ·obtain rfl := sj h
  refine Af (sm [] [(4, bD v1)] [] rfl rfl) (Aq ?_)
  exact ⟨⟨[_], tm, rfl⟩, tv⟩
theorem Q0 (N : Nat) (p0 : AG) (p1 : List Int) (p2 : List Int) (p3 : List Int) (p4 : List Am) (r : Bool) (h : Fp N p0 p1 p2 p3 p4 = some r) : An zA 108 [.e (.agg (Wj p0)), oD (.rop [.sl (p1.map Ak), .sl (p2.map Ak), .sl (p3.map Ak), .sl (p4.map AT)])] [] (bD r) := by
 unfold Fp at h
 refine cw (n := 8) (rs := [.tmp 3]) Tryz.func108 fun w0 S0 => ?_
 refine wq rfl (qb rfl (qa rfl (Ab (wq rfl (qK Dk Cg rfl (qf Py rfl (qL Ca A9 rfl ?_)))))))
 refine Bq h fun v1 a1 h => Ax [] (UH N ((Aa.mk p1 p2 p3 p4)) ((Ad.mk p0.fp.fd p0.fp.fa p0.fp.fe)) v1 a1) eC rfl (qe rfl ?_)
 obtain rfl := sj h
 refine Af (sm [] [(3, bD v1)] [] rfl rfl) (Aq ?_)
 exact ⟨⟨[_], tm, rfl⟩, tv⟩
theorem HH (N : Nat) (p0 : List AG) (p1 : AG → Option Bool) (r : Int) (h : CA N p0 p1 = some r) : An zA 107 [pD (.sl (p0.map Bo)), oD (.clo (BS (L7 true Bo) tB p1))] [] (iD r) := by
 unfold CA at h
 refine cw (n := 19) (rs := [.tmp 4]) Tryz.func107 fun w0 S0 => ?_
 refine wq rfl (qa rfl (Ab (wp rfl (qm rfl (AO H1 rfl (qm rfl (Ab ?_)))))))
 refine Ay (L := AY N p0 p1) h (fun v1 => mk [(0, pD (.sl (p0.map Bo))), (1, oD (.clo (BS (L7 true Bo) tB p1))), (7, iD ((p0.length : Int))), (8, iD v1)] []) (fun v2 => mk [] []) (fun _ _ => rfl) (sm [] _ _ rfl rfl) (fun j1 n1 v1 h => ?_) (fun v2 s h hs => ?_)
 ·unfold AY at h
  refine wq rfl (AV rfl (Ab (AK ?_)))
  refine A7 h (fun h => ?_) fun h => ?_
  ·refine Ai (AK (AF (wq rfl (qm rfl (qa rfl (Ab (wq rfl (qw 3 rfl ?_))))))))
   refine Bb h fun v4 a4 b4 h => qi H1 L0 a4 (Ac b4) rfl (qK dq L0 rfl ?_)
   refine Bq h fun v5 a5 h => Fk (ds0 := [_]) (ar := (L7 true Bo) ((AG.mk ((Ad.mk v4.fp.fd v4.fp.fa v4.fp.fe)) v4.fg ((Ae.mk v4.ft.ff v4.ft.fh v4.ft.fo)) v4.fa))) (.p rfl) rfl rfl ⟨rfl, tv⟩ rfl rfl rfl (Fi (Lw _ _ Tr) a5) ?_
   refine Ab ?_
   refine A7 h (fun h => ?_) fun h => ?_
   ·refine wq rfl (qm rfl (qe rfl ?_))
    obtain rfl := sj h
    refine Af (sm [] [(4, iD v1)] [] rfl rfl) (Aq ?_)
    exact ⟨⟨[_], tm, rfl⟩, tv⟩
   ·refine Ai (Ag As rfl (AP rfl (qm rfl (Ab ?_))))
    exact sn [] h
  ·refine AQ ?_
   exact sn [] h
 ·refine Af hs (wq rfl (qe rfl ?_))
  obtain rfl := sj h
  refine Af (sm [] [(4, iD ((-1)))] [] rfl rfl) (Aq ?_)
  exact ⟨⟨[_], tm, rfl⟩, tv⟩
theorem Iq (N : Nat) (p0 : List Ae) (r : (List Ae)) (h : BE N p0 = some r) : B2 zA 139 [oD (.own 90000)] [(.vec 3 (p0.map AC), .vec 3 (r.map AC))] [] (.tup []) := by
 unfold BE at h
 refine Bz (n := 28) (rs := []) Tryz.func139 rfl rfl rfl (D8 rfl) (D8 rfl) rfl rfl (D8 rfl) rfl (D8 rfl) fun w0 S0 GL => Ph ?_
 refine Af (sm [] [(0, oD (.own 90000))] [(90000, .vec 3 (p0.map AC))] rfl rfl) (wq rfl (qm rfl (FG Fg rfl (Cy rfl (qa rfl (qe rfl ?_))))))
 refine Ay (L := Bu N) h (fun v1 => mk [(0, oD (.own 90000)), (2, iD v1.2.1), (3, iD v1.2.2)] [(90000, .vec 3 (v1.1.map AC))]) (fun v2 => mk [] [(90000, .vec 3 (v2.map AC))]) (fun _ _ => rfl) (sm [] _ _ rfl rfl) (fun j1 n1 v1 h => ?_) (fun v2 s h hs => ?_)
 ·unfold Bu at h
  refine wp rfl (qw 2 rfl (AV rfl (Ab ?_)))
  refine A7 h (fun h => ?_) fun h => ?_
  ·refine Ai (AK (AF (Ag As rfl (qw 6 rfl ?_))))
   refine Bb h fun v4 a4 b4 h => qI Fg Fq a4 (Ac b4) rfl (qJ Kz Fq (Ac b4) rfl (qw 2 rfl ?_))
   refine Bb h fun v5 a5 b5 h => qI Fg Fq a5 (Ac b5) rfl (qJ Kz Fq (Ac b5) rfl ?_)
   refine Bb h fun v6 a6 b6 h => qI Fg Fq a6 (Ac b6) rfl ?_
   refine A8 rfl rfl rfl rfl (Ac b6) rfl Fq rfl (D8 rfl) (A5 AC v1.1 _ v4) ?_
   refine Bb h fun v7 a7 b7 h => qI Fg Fq a7 (Ac b7) rfl ?_
   refine A8 rfl rfl rfl rfl (Ac b7) rfl Fq rfl (D8 rfl) (A5 AC (v1.1.set ((v1.2.1).toNat) v4) _ v5) ?_
   refine AD (by kernel_rfl) (Ag As rfl (qm rfl (AP rfl (qm rfl (Cy rfl (qa rfl (qe rfl ?_)))))))
   exact sn [] h
  ·refine AQ ?_
   exact sn [] h
 ·obtain rfl := sj h
  refine ⟨_, hs.trans (sm [] [] [(90000, .vec 3 (v2.map AC))] rfl rfl), ?_⟩
  exact ⟨⟨[], tv, rfl⟩, ⟨rfl, tv⟩, tv⟩
theorem Uk (N : Nat) (p0 : List AG) (p1 : Int) (r : (List Ae)) (h : KV N p0 p1 = some r) : An zA 109 [pD (.sl (p0.map Bo)), iD p1] [(3, r.map AC)] (oD (.own 0)) := by
 unfold KV at h
 refine cw (n := 28) (rs := [.tmp 4]) Tryz.func109 fun w0 S0 => ?_
 refine wq rfl (qa rfl (Ab (wq rfl (qa rfl (Ab (AK ?_))))))
 refine Ay (L := GT N p0) h (fun v1 => mk [(0, pD (.sl (p0.map Bo))), (1, iD v1.1), (5, oD (.own 2001))] [(2001, .vec 3 (v1.2.map AC))]) (fun v2 => mk [(5, oD (.own 2002))] [(2002, .vec 3 (v2.map AC))]) (fun _ _ => rfl) ((A2 5 2003 3 rfl rfl rfl).trans (sm [(2001, 2003)] _ _ rfl rfl)) (fun j1 n1 v1 h => ?_) (fun v2 s h hs => ?_)
 ·unfold GT at h
  refine wp rfl (qw 2 rfl ?_)
  refine Bb h fun v3 a3 b3 h => qi H1 L0 a3 (Ac b3) rfl (qg TH rfl (qk B4 rfl (Df rfl (Ab ?_))))
  refine A7 h (fun h => ?_) fun h => ?_
  ·refine Ai (AK (AF (Ag As rfl (qw 3 rfl ?_))))
   refine Bb h fun v5 a5 b5 h => qi H1 L0 a5 (Ac b5) rfl (qg X5 rfl (qK Kz Fq rfl (DQ Fg Fq Ls rfl ?_)))
   refine Gg h fun c6 h => CJ (f := AC) Fg Fg Fq Rh Ls c6 rfl (qa rfl (Ab (Ag As rfl (qw 2 rfl ?_))))
   refine Bb h fun v7 a7 b7 h => qi H1 L0 a7 (Ac b7) rfl (qg TH rfl (qk B4 rfl (qe rfl ?_)))
   exact sn [(2001, 24)] h
  ·refine AQ ?_
   exact sn [(2002, 2001)] h
 ·refine Af hs (wq rfl (qm rfl ?_))
  refine Bq h fun v8 a8 h => D0 (ds0 := [_]) [2002] [] [true] (Iq N v2 v8 a8) (.p rfl) bH rfl ⟨rfl, tv⟩ rfl rfl (by decide) ⟨rfl, tv⟩ rfl (Bi rfl) tv ⟨(fun h => by cases h), tv⟩ rfl rfl rfl ?_
  refine Ab (wq rfl (qm rfl (qe rfl ?_)))
  obtain rfl := sj h
  refine Af (sm [(1000, 2002)] [(4, oD (.own 1000))] [(1000, .vec 3 (v8.map AC))] rfl rfl) (Aq ?_)
  exact ⟨⟨[_], tm, rfl⟩, ⟨rfl, tv⟩⟩
theorem TA (N : Nat) (p0 : Aa) (p1 : Ad) (r : (List Ae) × Int) (h : Gw N p0 p1 = some r) : An zA 75 [.e (.agg (Ah p0)), .e (.agg (AL p1))] [(3, r.1.map AC)] (.tup [.one (.own 0), .one (iC r.2)]) := by
 unfold Gw at h
 refine cw (n := 38) (rs := [.tmp 4, .tmp 5]) Tryz.func75 fun w0 S0 => ?_
 refine wq rfl (qb rfl (qb rfl (qa rfl (qa rfl (Ab (wq rfl (qL Dk Cg rfl (qL Ca A9 rfl ?_))))))))
 refine Bq h fun v1 a1 h => Ax [] (Od N p0 p1 v1 a1) dj rfl (qm rfl (qx rfl (qx rfl (qa rfl (qa rfl (Ab (wp rfl (qm rfl (BB rfl (Ab ?_))))))))))
 refine A7 h (fun h => ?_) fun h => ?_
 ·refine wq rfl (qm rfl (qa rfl (qe rfl ?_)))
  obtain rfl := sj h
  refine Af ((A2 4 2001 3 rfl rfl rfl).trans (sm [(1000, 2001)] [(4, oD (.own 1000)), (5, iD v1.2)] [(1000, .vec 3 ((([] : List Ae)).map AC))] rfl rfl)) (Aq ?_)
  exact ⟨⟨[_, _], ⟨.tmp _ _ rfl, tm⟩, rfl⟩, ⟨rfl, tv⟩⟩
 ·refine Ai (wp rfl (qm rfl (Cc rfl (Ab ?_))))
  refine A7 h (fun h => ?_) fun h => ?_
  ·refine wq rfl (qa rfl (qe rfl ?_))
   obtain rfl := sj h
   refine Af ((A2 4 2002 3 rfl rfl rfl).trans (sm [(1000, 2002)] [(4, oD (.own 1000)), (5, iD 13)] [(1000, .vec 3 ((([] : List Ae)).map AC))] rfl rfl)) (Aq ?_)
   exact ⟨⟨[_, _], ⟨.tmp _ _ rfl, tm⟩, rfl⟩, ⟨rfl, tv⟩⟩
  ·refine Ai (wq rfl (qL Dk Cg rfl (qL Ca A9 rfl ?_)))
   refine Bq h fun v4 a4 h => Ax [] (QL N p0 p1 v4 a4) bf rfl (qm rfl (qx rfl (qx rfl (qa rfl (qa rfl (Ab (wp rfl (qm rfl (BB rfl (Ab ?_))))))))))
   refine A7 h (fun h => ?_) fun h => ?_
   ·refine wq rfl (qm rfl (qa rfl (qe rfl ?_)))
    obtain rfl := sj h
    refine Af ((A2 4 2003 3 rfl rfl rfl).trans (sm [(1000, 2003)] [(4, oD (.own 1000)), (5, iD v4.2)] [(1000, .vec 3 ((([] : List Ae)).map AC))] rfl rfl)) (Aq ?_)
    exact ⟨⟨[_, _], ⟨.tmp _ _ rfl, tm⟩, rfl⟩, ⟨rfl, tv⟩⟩
   ·refine Ai (wq rfl (qm rfl (DG (I4 2 [.sl (p0.fb.map Ak), .sl (p0.fi.map Ak), .sl (p0.fm.map Ak), .sl (p0.fc.map AT)] rfl rfl) ?_)))
    refine Jo (capD := [_]) (BS (L7 true Bo) tB ((fun (x : AG) => Fp N x p0.fb p0.fi p0.fm p0.fc))) (.p rfl) cO rfl ⟨rfl, tv⟩ rfl (fun ar t ht => by obtain ⟨x, r, rfl, hq, rfl⟩ := IG ht; exact Q0 N x p0.fb p0.fi p0.fm p0.fc r hq) ?_
    refine Bq h fun v6 a6 h => Ax [] (HH N v4.1 ((fun (x : AG) => Fp N x p0.fb p0.fi p0.fm p0.fc)) v6 a6) cx rfl (qa rfl (Ab (wp rfl (qm rfl (AV rfl (Ab ?_))))))
    refine A7 h (fun h => ?_) fun h => ?_
    ·refine wq rfl (qa rfl (qe rfl ?_))
     obtain rfl := sj h
     refine Af ((A2 4 2004 3 rfl rfl rfl).trans (sm [(1000, 2004)] [(4, oD (.own 1000)), (5, iD 14)] [(1000, .vec 3 ((([] : List Ae)).map AC))] rfl rfl)) (Aq ?_)
     exact ⟨⟨[_, _], ⟨.tmp _ _ rfl, tm⟩, rfl⟩, ⟨rfl, tv⟩⟩
    ·refine Ai (wq rfl (qw 2 rfl ?_))
     refine Bq h fun v8 a8 h => Ax [2005] (Uk N v4.1 v6 v8 a8) dC rfl (qa rfl (qe rfl ?_))
     obtain rfl := sj h
     refine Af (sm [(1000, 2005)] [(4, oD (.own 1000)), (5, iD 0)] [(1000, .vec 3 (v8.map AC))] rfl rfl) (Aq ?_)
     exact ⟨⟨[_, _], ⟨.tmp _ _ rfl, tm⟩, rfl⟩, ⟨rfl, tv⟩⟩
theorem Tl (N : Nat) (p0 : Aa) (r : (List Ae) × Int) (h : HO N p0 = some r) : An zA 40 [.e (.agg (Ah p0))] [(3, r.1.map AC)] (.tup [.one (.own 0), .one (iC r.2)]) := by
 unfold HO at h
 refine cw (n := 19) (rs := [.tmp 2, .tmp 3]) Tryz.func40 fun w0 S0 => ?_
 refine wq rfl (qb rfl (qa rfl (qa rfl (Ab (wq rfl (qL Dk Cg rfl ?_))))))
 refine Bq h fun v1 a1 h => Ax [2001, 2002, 2003] (TG N p0 v1 a1) eN rfl (qm rfl (qx rfl (qx rfl (qz Fc rfl (qs A9 rfl (qa rfl (Ab (wp rfl (qm rfl (BB rfl (Ab ?_)))))))))))
 refine A7 h (fun h => ?_) fun h => ?_
 ·refine wq rfl (qm rfl (qa rfl (qe rfl ?_)))
  obtain rfl := sj h
  refine Af ((A2 2 2004 3 rfl rfl rfl).trans (sm [(1000, 2004)] [(2, oD (.own 1000)), (3, iD v1.2)] [(1000, .vec 3 ((([] : List Ae)).map AC))] rfl rfl)) (Aq ?_)
  exact ⟨⟨[_, _], ⟨.tmp _ _ rfl, tm⟩, rfl⟩, ⟨rfl, tv⟩⟩
 ·refine Ai (wq rfl (qL Dk Cg rfl (qL Ca A9 rfl ?_)))
  refine Bq h fun v3 a3 h => D4 [2005] [2001, 2002, 2003] (TA N p0 v1.1 v3 a3) ew (It (fun _ => rfl) Cm) rfl (qx rfl (qx rfl (qa rfl (qe rfl ?_))))
  obtain rfl := sj h
  refine Af (sm [(1000, 2005)] [(2, oD (.own 1000)), (3, iD v3.2)] [(1000, .vec 3 (v3.1.map AC))] rfl rfl) (Aq ?_)
  exact ⟨⟨[_, _], ⟨.tmp _ _ rfl, tm⟩, rfl⟩, ⟨rfl, tv⟩⟩
theorem Lb (N : Nat) (p0 : Aa) (p1 : List Int) (r : Bool × Int) (h : FV N p0 p1 = some r) : An zA 12 [.e (.agg (Ah p0)), pD (.sl (p1.map Ak))] [] (.tup [.one (.pure (.val (.bool r.1))), .one (iC r.2)]) := by
 unfold FV at h
 refine cw (n := 36) (rs := [.tmp 4, .tmp 5]) Tryz.func12 fun w0 S0 => ?_
 refine wq rfl (qb rfl (qa rfl (qa rfl (Ab (wp rfl (qL Dk Cg rfl ?_))))))
 refine Bq h fun v1 a1 h => Ax [] (Fv N p0 v1 a1) Wr rfl (qa rfl (Ab (wq rfl (qm rfl (BB rfl (Ab ?_))))))
 refine A7 h (fun h => ?_) fun h => ?_
 ·refine wq rfl (qm rfl (qa rfl (qe rfl ?_)))
  obtain rfl := sj h
  refine Af (sm [] [(4, bD false), (5, iD v1)] [] rfl rfl) (Aq ?_)
  exact ⟨⟨[_, _], ⟨.tmp _ _ rfl, tm⟩, rfl⟩, tv⟩
 ·refine Ai (wq rfl (qL Dk Cg rfl (qm rfl ?_)))
  refine Bq h fun v3 a3 h => Ax [2001, 2002, 2003, 2004] (OX N p0 p1 v3 a3) dJ rfl (qm rfl (qx rfl (qx rfl (qz K8 rfl (qs Cg rfl (qa rfl (Ab (wp rfl (qm rfl (BB rfl (Ab ?_)))))))))))
  refine A7 h (fun h => ?_) fun h => ?_
  ·refine wq rfl (qm rfl (qa rfl (qe rfl ?_)))
   obtain rfl := sj h
   refine Af (sm [] [(4, bD false), (5, iD v3.2)] [] rfl rfl) (Aq ?_)
   exact ⟨⟨[_, _], ⟨.tmp _ _ rfl, tm⟩, rfl⟩, tv⟩
  ·refine Ai (wp rfl (qL Dk Cg rfl ?_))
   refine Bq h fun v5 a5 h => D4 [2005] [2001, 2002, 2003, 2004] (Tl N v3.1 v5 a5) dT (It (fun _ => rfl) Cm) rfl (qm rfl (qx rfl (qx rfl (qa rfl (qa rfl (Ab (wq rfl (qm rfl (Ab (AF (wq rfl (B9 rfl (qe rfl ?_)))))))))))))
   refine A7 h (fun h => ?_) fun h => ?_
   ·refine wq rfl (qa rfl (qe rfl ?_))
    obtain rfl := sj h
    refine Af (sm [] [(4, bD false), (5, iD 0)] [] rfl rfl) (Aq ?_)
    exact ⟨⟨[_, _], ⟨.tmp _ _ rfl, tm⟩, rfl⟩, tv⟩
   ·refine wq rfl (B9 rfl (qe rfl ?_))
    refine A7 h (fun h => ?_) fun h => ?_
    ·refine wq rfl (qm rfl (qa rfl (qe rfl ?_)))
     obtain rfl := sj h
     refine Af (sm [] [(4, bD false), (5, iD v5.2)] [] rfl rfl) (Aq ?_)
     exact ⟨⟨[_, _], ⟨.tmp _ _ rfl, tm⟩, rfl⟩, tv⟩
    ·refine Ai (wq rfl (qa rfl (qe rfl ?_)))
     obtain rfl := sj h
     refine Af (sm [] [(4, bD true), (5, iD 0)] [] rfl rfl) (Aq ?_)
     exact ⟨⟨[_, _], ⟨.tmp _ _ rfl, tm⟩, rfl⟩, tv⟩
theorem QV (N : Nat) (p0 : Aa) (p1 : Int) (r : Bool × Int) (h : KL N p0 p1 = some r) : An zA 79 [.e (.agg (Ah p0)), pD (.val (.int .u64 p1))] [] (.tup [.one (.pure (.val (.bool r.1))), .one (iC r.2)]) := by
 unfold KL at h
 refine cw (n := 12) (rs := [.tmp 4, .tmp 5]) Tryz.func79 fun w0 S0 => ?_
 refine wq rfl (qb rfl (qa rfl (qa rfl (Ab (wq rfl (qL Dk Cg rfl (qm rfl ?_)))))))
 refine Bq h fun v1 a1 h => Ax [2001] (IU N p1 v1 a1) Ze rfl ?_
 refine Bq h fun v2 a2 h => D4 [] [2001] (Lb N p0 v1 v2 a2) aR Cm rfl (qx rfl (qx rfl (qa rfl (qa rfl (AD (by kernel_rfl) ?_)))))
 obtain rfl := sj h
 refine Af (sm [] [(4, bD v2.1), (5, iD v2.2)] [] rfl rfl) (Aq ?_)
 exact ⟨⟨[_, _], ⟨.tmp _ _ rfl, tm⟩, rfl⟩, tv⟩
theorem N6 (N : Nat) (p0 : Aa) (r : (List Int) × (List (Int × Bool)) × Int) (h : Ju N p0 = some r) : An zA 42 [.e (.agg (Ah p0))] [(1, r.1.map Av)] (.tup [.one (.own 0), .one (.pure (.mp (GI (Value.int .u64) tB r.2.1))), .one (iC r.2.2)]) := by
 unfold Ju at h
 refine cw (n := 56) (rs := [.tmp 2, .tmp 3, .tmp 4]) Tryz.func42 fun w0 S0 => ?_
 refine wq rfl (qb rfl (qa rfl (qa rfl (qa rfl (Ab (wp rfl (qL Dk Cg rfl ?_)))))))
 refine Bq h fun v1 a1 h => Ax [] (Fv N p0 v1 a1) Wr rfl (qa rfl (Ab (wq rfl (qm rfl (BB rfl (Ab ?_))))))
 refine A7 h (fun h => ?_) fun h => ?_
 ·refine wq rfl (qm rfl (qa rfl (qa rfl (qe rfl ?_))))
  obtain rfl := sj h
  refine Af ((A2 2 2001 1 rfl rfl rfl).trans (sm [(1000, 2001)] [(2, oD (.own 1000)), (3, pD (.mp (GI (Value.int .u64) tB (([] : List (Int × Bool)))))), (4, iD v1)] [(1000, .vec 1 ((([] : List Int)).map Av))] rfl rfl)) (Aq ?_)
  exact ⟨⟨[_, _, _], ⟨.tmp _ _ rfl, ⟨.tmp _ _ rfl, tm⟩⟩, rfl⟩, ⟨rfl, tv⟩⟩
 ·refine Ai (wq rfl (qa rfl (Ab (wp rfl (qf Bf rfl (ql A6 rfl (AO Au rfl ?_)))))))
  refine Gg h fun c3 h => I5 rfl c3 (qm rfl (Ab ?_))
  refine Ay (L := HS N p0) h (fun v4 => mk [(1, oD (.ptr 1 0)), (6, oD (.own 2002)), (21, pD (.val (.int .u64 ((CX .u64 1 ((p0.fb.length : Int))))))), (22, pD (.val (.int .u64 v4.2)))] [(1, .box (Ah p0)), (2002, .vec 1 (v4.1.map Av))]) (fun v5 => mk [(1, oD (.ptr 1 0)), (6, oD (.own 2003))] [(1, .box (Ah p0)), (2003, .vec 1 (v5.map Av))]) (fun _ _ => rfl) ((A2 6 2004 1 rfl rfl rfl).trans (sm [(2002, 2004)] _ _ rfl rfl)) (fun j4 n4 v4 h => ?_) (fun v5 s h hs => ?_)
  ·unfold HS at h
   refine wq rfl (AV rfl (Ab (AK ?_)))
   refine A7 h (fun h => ?_) fun h => ?_
   ·refine Ai (AK (AF (wq rfl (qm rfl (qa rfl (Ab (Ag As rfl (qw 2 rfl (DQ A0 Bj Tj rfl ?_)))))))))
    refine Gg h fun c7 h => CJ (f := Av) A0 A0 Bj XG Tj c7 rfl (qa rfl (Ab (Ag As rfl (AP rfl (qm rfl (Ab ?_))))))
    exact sn [(2002, 28)] h
   ·refine AQ ?_
    exact sn [(2003, 2002)] h
  ·refine Af hs (wq rfl (qm rfl ?_))
   refine Bq h fun v8 a8 h => D0 (ds0 := [_, _]) [2003] [] [true] (B2.weak (ds' := [_, oD (.fnc 78)]) (Kh N v5 ((fun (x : Int × Int) => Ii N x.1 x.2)) v8 a8) ⟨(fun _ _ _ hh => hh), (fun _ _ _ hh => X4 dX (fun ar t ht => by obtain ⟨x, r, rfl, hq, rfl⟩ := IG ht; exact PM N x.1 x.2 r hq) hh), tv⟩) (.p rfl) d5 rfl ⟨rfl, rfl, tv⟩ rfl rfl (by decide) ⟨rfl, tv⟩ rfl (Bi rfl) tv ⟨(fun h => by cases h), tv⟩ rfl rfl rfl ?_
   refine Ab (wq rfl (qm rfl (FG A0 rfl ?_)))
   refine U0 (.p rfl) rfl O1 rfl ?_
   refine qa rfl (Ab (wp rfl (qm rfl (FG A0 rfl (qm rfl (Ab ?_))))))
   refine Ay (L := HP N p0 v8) h (fun v9 => mk [(1, oD (.ptr 1 0)), (6, oD (.own 2005)), (8, oD (.mref 2006)), (35, oD (.own 2005)), (36, iD ((v8.length : Int))), (37, iD v9.2)] [(1, .box (Ah p0)), (2005, .vec 1 (v8.map Av)), (2006, .mp (GI (Value.int .u64) tB v9.1))]) (fun v10 => mk [(6, oD (.own 2007)), (8, oD (.mref 2008))] [(2007, .vec 1 (v8.map Av)), (2008, .mp (GI (Value.int .u64) tB v10))]) (fun _ _ => rfl) (sm [(2005, 2003), (2006, 34)] _ _ rfl rfl) (fun j9 n9 v9 h => ?_) (fun v10 s h hs => ?_)
   ·unfold HP at h
    refine wq rfl (AV rfl (Ab (AK ?_)))
    refine A7 h (fun h => ?_) fun h => ?_
    ·refine Ai (AK (AF (wq rfl ?_)))
     refine Bb h fun v12 a12 b12 h => qI A0 Bj a12 (Ac b12) rfl (qj D1 (Ac b12) rfl (qa rfl (Ab (wq rfl (qL Dk Cg rfl (qm rfl ?_))))))
     refine Bq h fun v13 a13 h => Ax [] (QV N p0 v12 v13 a13) ei rfl (qm rfl (qx rfl (qx rfl (qa rfl (qa rfl (Ab (wp rfl (qm rfl (BB rfl (Ab ?_))))))))))
     refine A7 h (fun h => ?_) fun h => ?_
     ·refine wq rfl (qm rfl (qa rfl (qa rfl (qe rfl ?_))))
      obtain rfl := sj h
      refine Af ((A2 2 2009 1 rfl rfl rfl).trans (sm [(1000, 2009)] [(2, oD (.own 1000)), (3, pD (.mp (GI (Value.int .u64) tB (([] : List (Int × Bool)))))), (4, iD v13.2)] [(1000, .vec 1 ((([] : List Int)).map Av))] rfl rfl)) (Aq ?_)
      exact ⟨⟨[_, _, _], ⟨.tmp _ _ rfl, ⟨.tmp _ _ rfl, tm⟩⟩, rfl⟩, ⟨rfl, tv⟩⟩
     ·refine Ai (Ag As rfl (qw 3 rfl ?_))
      refine PA (kv := (Value.int .u64)) (vt := tB) (m := v9.1) (k := v12) (v := v13.1) rfl (.inl rfl) rfl rfl rfl rfl (ML O1 VH) rfl ?_
      refine Ab (Ag As rfl (AP rfl (qm rfl (Ab ?_))))
      exact sn [] h
    ·refine AQ ?_
     exact sn [(2007, 2005), (2008, 2006)] h
   ·refine Af hs (wq rfl (qw 2 rfl (qa rfl (qa rfl (qe rfl ?_)))))
    obtain rfl := sj h
    refine Af ((VS 2008 _ rfl rfl).trans (sm [(1000, 2007)] [(2, oD (.own 1000)), (3, pD (.mp (GI (Value.int .u64) tB v10))), (4, iD 0)] [(1000, .vec 1 (v8.map Av))] rfl rfl)) (Aq ?_)
    exact ⟨⟨[_, _, _], ⟨.tmp _ _ rfl, ⟨.tmp _ _ rfl, tm⟩⟩, rfl⟩, ⟨rfl, tv⟩⟩
theorem OE (N : Nat) (p0 : Int) (p1 : Int) (r : Bool) (h : Gs N p0 p1 = some r) : An zA 81 [pD (.val (.int .u64 p0)), oD (.rop [.val (.int .u64 p1)])] [] (bD r) := by
 unfold Gs at h
 refine cw (n := 8) (rs := [.tmp 3]) Tryz.func81 fun w0 S0 => ?_
 refine wq rfl (qa rfl (Ab (wq rfl (qm rfl (qk D1 rfl (I3 rfl (B9 rfl (qe rfl ?_))))))))
 obtain rfl := sj h
 refine Af (sm [] [(3, bD (((Dy .u64 p0 p1) == 0)))] [] rfl rfl) (Aq ?_)
 exact ⟨⟨[_], tm, rfl⟩, tv⟩
theorem Hn (N : Nat) (p0 : List Int) (p1 : Int → Option Bool) (r : Int) (h : Ee N p0 p1 = some r) : An zA 80 [pD (.sl (p0.map Av)), oD (.clo (BS (L7 false Av) tB p1))] [] (iD r) := by
 unfold Ee at h
 refine cw (n := 19) (rs := [.tmp 4]) Tryz.func80 fun w0 S0 => ?_
 refine wq rfl (qa rfl (Ab (wp rfl (qm rfl (AO A0 rfl (qm rfl (Ab ?_)))))))
 refine Ay (L := DK N p0 p1) h (fun v1 => mk [(0, pD (.sl (p0.map Av))), (1, oD (.clo (BS (L7 false Av) tB p1))), (7, iD ((p0.length : Int))), (8, iD v1)] []) (fun v2 => mk [] []) (fun _ _ => rfl) (sm [] _ _ rfl rfl) (fun j1 n1 v1 h => ?_) (fun v2 s h hs => ?_)
 ·unfold DK at h
  refine wq rfl (AV rfl (Ab (AK ?_)))
  refine A7 h (fun h => ?_) fun h => ?_
  ·refine Ai (AK (AF (wq rfl (qm rfl (qa rfl (Ab (wq rfl (qw 3 rfl ?_))))))))
   refine Bb h fun v4 a4 b4 h => qi A0 Bj a4 (Ac b4) rfl (qk D1 rfl ?_)
   refine Bq h fun v5 a5 h => Fk (ds0 := [_]) (ar := (L7 false Av) v4) (.p rfl) rfl rfl ⟨rfl, tv⟩ rfl rfl rfl (Fi (Lw _ _ EP) a5) ?_
   refine Ab ?_
   refine A7 h (fun h => ?_) fun h => ?_
   ·refine wq rfl (qm rfl (qe rfl ?_))
    obtain rfl := sj h
    refine Af (sm [] [(4, iD v1)] [] rfl rfl) (Aq ?_)
    exact ⟨⟨[_], tm, rfl⟩, tv⟩
   ·refine Ai (Ag As rfl (AP rfl (qm rfl (Ab ?_))))
    exact sn [] h
  ·refine AQ ?_
   exact sn [] h
 ·refine Af hs (wq rfl (qe rfl ?_))
  obtain rfl := sj h
  refine Af (sm [] [(4, iD ((-1)))] [] rfl rfl) (Aq ?_)
  exact ⟨⟨[_], tm, rfl⟩, tv⟩
theorem GH (N : Nat) (p0 : List Int) (p1 : Int → Option Bool) (r : Bool) (h : DF N p0 p1 = some r) : An zA 46 [pD (.sl (p0.map Av)), oD (.clo (BS (L7 false Av) tB p1))] [] (bD r) := by
 unfold DF at h
 refine cw (n := 9) (rs := [.tmp 4]) Tryz.func46 fun w0 S0 => ?_
 refine wq rfl (qa rfl (Ab (wq rfl (qw 2 rfl ?_))))
 refine Bq h fun v1 a1 h => Ax [] (Hn N p0 p1 v1 a1) dy rfl (Df rfl (qe rfl ?_))
 obtain rfl := sj h
 refine Af (sm [] [(4, bD ((decide (0 ≤ v1))))] [] rfl rfl) (Aq ?_)
 exact ⟨⟨[_], tm, rfl⟩, tv⟩
theorem PF (N : Nat) (p0 : List Int) (p1 : List (Int × Bool)) (r : (List Int)) (h : JY N p0 p1 = some r) : An zA 51 [pD (.sl (p0.map Av)), pD (.mp (GI (Value.int .u64) tB p1))] [(1, r.map Av)] (oD (.own 0)) := by
 unfold JY at h
 refine cw (n := 29) (rs := [.tmp 4]) Tryz.func51 fun w0 S0 => ?_
 refine wq rfl (qa rfl (Ab (wq rfl (qa rfl (Ab (wp rfl (qm rfl (AO A0 rfl (qm rfl (Ab ?_))))))))))
 refine Ay (L := Hf N p0 p1) h (fun v1 => mk [(1, pD (.mp (GI (Value.int .u64) tB p1))), (5, oD (.own 2001)), (8, pD (.sl (p0.map Av))), (9, iD ((p0.length : Int))), (10, iD v1.2)] [(2001, .vec 1 (v1.1.map Av))]) (fun v2 => mk [(5, oD (.own 2002))] [(2002, .vec 1 (v2.map Av))]) (fun _ _ => rfl) ((A2 5 2005 1 rfl rfl rfl).trans (sm [(2001, 2005)] _ _ rfl rfl)) (fun j1 n1 v1 h => ?_) (fun v2 s h hs => ?_)
 ·unfold Hf at h
  refine wq rfl (AV rfl (Ab (AK ?_)))
  refine A7 h (fun h => ?_) fun h => ?_
  ·refine Ai ?_
   refine AN h (fun v4 => mk [(1, pD (.mp (GI (Value.int .u64) tB p1))), (5, oD (.own 2003)), (8, pD (.sl (p0.map Av))), (9, iD ((p0.length : Int))), (10, iD v1.2)] [(2003, .vec 1 (v4.map Av))]) (fun j4 h => ?_) (fun v4 h => ?_)
   ·refine AF (wq rfl ?_)
    refine Bb h fun v5 a5 b5 h => qi A0 Bj a5 (Ac b5) rfl (qk D1 rfl (qz Tj rfl (qs Bj rfl (Ab ?_))))
    refine AN h (fun v6 => mk [(1, pD (.mp (GI (Value.int .u64) tB p1))), (5, oD (.own 2004)), (7, oD (.rop [.val (.int .u64 v5)])), (8, pD (.sl (p0.map Av))), (9, iD ((p0.length : Int))), (10, iD v1.2), (22, bD v6)] [(2004, .vec 1 (v1.1.map Av))]) (fun j6 h => ?_) (fun v6 h => ?_)
    ·refine Ag As rfl (qm rfl (ql D1 rfl ?_))
     refine OG (kv := (Value.int .u64)) (vt := tB) (m := p1) (dv := false) (.p rfl) rfl rfl (ML O1 VH) (by rw [O1]; rfl) Uf rfl rfl rfl ?_
     refine qm rfl ?_
     refine EM 17 h rfl (fun h => ?_) fun h => ?_
     ·refine qm rfl (DG (I4 7 [.val (.int .u64 v5)] rfl rfl) ?_)
      refine Jo (capD := [_]) (BS (L7 false Av) tB ((fun (x : Int) => Gs N x v5))) (.g rfl rfl) eQ rfl ⟨rfl, tv⟩ rfl (fun ar t ht => by obtain ⟨x, r, rfl, hq, rfl⟩ := IG ht; exact OE N x v5 r hq) ?_
      refine Bq h fun v8 a8 h => D4 [] [2001] (GH N v1.1 ((fun (x : Int) => Gs N x v5)) v8 a8) ck Cm rfl (Cc rfl (qp rfl (Ab ?_)))
      exact sn [(2004, 2001)] h
     ·refine qw 4 rfl (qp rfl (Ab ?_))
      exact WK _ h ((I4 7 [.val (.int .u64 v5)] rfl rfl).trans (sm [(2004, 2001)] _ _ rfl rfl))
    ·refine A7 h (fun h => ?_) fun h => ?_
     ·refine Ag As rfl (qm rfl (qk D1 rfl (DQ A0 Bj Tj rfl ?_)))
      refine Gg h fun c10 h => CJ (f := Av) A0 A0 Bj XG Tj c10 rfl (qe rfl ?_)
      exact sn [(2003, 26)] h
     ·refine Ai ?_
      exact sn [(2003, 2004)] h
   ·refine Ag As rfl (AP rfl (qm rfl (Ab ?_)))
    exact sn [(2001, 2003)] h
  ·refine AQ ?_
   exact sn [(2002, 2001)] h
 ·refine Af hs (wq rfl (qm rfl (qe rfl ?_)))
  obtain rfl := sj h
  refine Af (sm [(1000, 2002)] [(4, oD (.own 1000))] [(1000, .vec 1 (v2.map Av))] rfl rfl) (Aq ?_)
  exact ⟨⟨[_], tm, rfl⟩, ⟨rfl, tv⟩⟩
theorem N2 (N : Nat) (p0 : List Int) (r : (List (List Int))) (h : Jy N p0 = some r) : An zA 48 [pD (.sl (p0.map Av))] [(1, r.map (Gq Ak))] (oD (.own 0)) := by
 unfold Jy at h
 refine cw (n := 19) (rs := [.tmp 2]) Tryz.func48 fun w0 S0 => ?_
 refine wq rfl (qa rfl (Ab (wq rfl (qa rfl (Ab (wp rfl (qm rfl (AO A0 rfl (qm rfl (Ab ?_))))))))))
 refine Ay (L := HL N p0) h (fun v1 => mk [(3, oD (.own 2001)), (6, pD (.sl (p0.map Av))), (7, iD ((p0.length : Int))), (8, iD v1.2)] [(2001, .vec 1 (v1.1.map (Gq Ak)))]) (fun v2 => mk [(3, oD (.own 2002))] [(2002, .vec 1 (v2.map (Gq Ak)))]) (fun _ _ => rfl) ((A2 3 2004 1 rfl rfl rfl).trans (sm [(2001, 2004)] _ _ rfl rfl)) (fun j1 n1 v1 h => ?_) (fun v2 s h hs => ?_)
 ·unfold HL at h
  refine wq rfl (AV rfl (Ab (AK ?_)))
  refine A7 h (fun h => ?_) fun h => ?_
  ·refine Ai (AK (AF (wq rfl ?_)))
   refine Bb h fun v4 a4 b4 h => qi A0 Bj a4 (Ac b4) rfl (qk D1 rfl (qa rfl (Ab (Ag As rfl (qw 2 rfl ?_)))))
   refine Bq h fun v5 a5 h => Ax [2003] (IU N v4 v5 a5) Ze rfl (DG (Bt 2003 _ _ rfl rfl) (DQ HW I6 VK rfl ?_))
   refine Gg h fun c6 h => CJ (f := (Gq Ak)) HW HW I6 Zy VK c6 rfl (qa rfl (Ab (Ag As rfl (AP rfl (qm rfl (Ab ?_))))))
   exact sn [(2001, 16)] h
  ·refine AQ ?_
   exact sn [(2002, 2001)] h
 ·refine Af hs (wq rfl (qm rfl (qe rfl ?_)))
  obtain rfl := sj h
  refine Af (sm [(1000, 2002)] [(2, oD (.own 1000))] [(1000, .vec 1 (v2.map (Gq Ak)))] rfl rfl) (Aq ?_)
  exact ⟨⟨[_], tm, rfl⟩, ⟨rfl, tv⟩⟩
theorem Ui (N : Nat) (p0 : Aa) (r : (List (List Int)) × Int) (h : ME N p0 = some r) : An zA 18 [.e (.agg (Ah p0))] [(1, r.1.map (Gq Ak))] (.tup [.one (.own 0), .one (iC r.2)]) := by
 unfold ME at h
 refine cw (n := 20) (rs := [.tmp 2, .tmp 3]) Tryz.func18 fun w0 S0 => ?_
 refine wq rfl (qb rfl (qa rfl (qa rfl (Ab (wq rfl (qL Dk Cg rfl ?_))))))
 refine Bq h fun v1 a1 h => Ax [2001] (N6 N p0 v1 a1) cA rfl (qm rfl (qx rfl (qx rfl (qx rfl (qa rfl (qa rfl (qa rfl (Ab (wp rfl (qm rfl (BB rfl (Ab ?_))))))))))))
 refine A7 h (fun h => ?_) fun h => ?_
 ·refine wq rfl (qm rfl (qa rfl (qe rfl ?_)))
  obtain rfl := sj h
  refine Af ((A2 2 2002 1 rfl rfl rfl).trans (sm [(1000, 2002)] [(2, oD (.own 1000)), (3, iD v1.2.2)] [(1000, .vec 1 ((([] : List (List Int))).map (Gq Ak)))] rfl rfl)) (Aq ?_)
  exact ⟨⟨[_, _], ⟨.tmp _ _ rfl, tm⟩, rfl⟩, ⟨rfl, tv⟩⟩
 ·refine Ai (wq rfl (qw 2 rfl ?_))
  refine Bq h fun v3 a3 h => D4 [2003] [2001] (PF N v1.1 v1.2.1 v3 a3) d6 (It (fun _ => rfl) Cm) rfl (DG (Bt 2003 _ _ rfl rfl) ?_)
  refine Bq h fun v4 a4 h => Ax [2004] (N2 N v3 v4 a4) df rfl (qa rfl (qe rfl ?_))
  obtain rfl := sj h
  refine Af (sm [(1000, 2004)] [(2, oD (.own 1000)), (3, iD 0)] [(1000, .vec 1 (v4.map (Gq Ak)))] rfl rfl) (Aq ?_)
  exact ⟨⟨[_, _], ⟨.tmp _ _ rfl, tm⟩, rfl⟩, ⟨rfl, tv⟩⟩
theorem K9 (N : Nat) (p0 : List Int) (r : (List Int)) (h : Gb N p0 = some r) : An zA 44 [pD (.sl (p0.map Av))] [(1, r.map Av)] (oD (.own 0)) := by
 unfold Gb at h
 refine cw (n := 8) (rs := [.tmp 2]) Tryz.func44 fun w0 S0 => ?_
 refine wq rfl (qa rfl (Ab (wp rfl (qm rfl ?_))))
 refine NR (.p rfl) rfl A0 ?_
 refine Ab ?_
 refine NK rfl (fun c2 => ?_) ?_
 ·have c2 := uQ.1 c2
  rw [c2] at h
  have h : (some (([] : List Int))) = some r := h
  refine wq rfl (qe rfl ?_)
  obtain rfl := sj h
  refine Af ((A2 2 2001 1 rfl rfl rfl).trans (sm [(1000, 2001)] [(2, oD (.own 1000))] [(1000, .vec 1 ((([] : List Int)).map Av))] rfl rfl)) (Aq ?_)
  exact ⟨⟨[_], tm, rfl⟩, ⟨rfl, tv⟩⟩
 ·refine Ai (wq rfl (DQ A0 Bj Tj rfl (qm rfl ?_)))
  refine Gg h fun c1 h => JV (f := Av) A0 A0 Bj XG Tj (fun _ => rfl) c1 rfl (qe rfl ?_)
  obtain rfl := sj h
  refine Af (sm [(1000, 7)] [(2, oD (.own 1000))] [(1000, .vec 1 (((([] : List Int)) ++ p0).map Av))] rfl rfl) (Aq ?_)
  exact ⟨⟨[_], tm, rfl⟩, ⟨rfl, tv⟩⟩
theorem Po (N : Nat) (p0 : Int) (p1 : List (Int × Bool)) (p2 : Int) (r : Bool) (h : GR N p0 p1 p2 = some r) : An zA 47 [pD (.val (.int .u64 p0)), oD (.rop [.mp (GI (Value.int .u64) tB p1)]), oD (.rop [.val (.int .u64 p2)])] [] (bD r) := by
 unfold GR at h
 refine cw (n := 20) (rs := [.tmp 4]) Tryz.func47 fun w0 S0 => ?_
 refine wq rfl (qe rfl ?_)
 refine AN h (fun v1 => mk [(4, bD v1)] []) (fun j1 h => ?_) (fun v1 h => ?_)
 ·refine Ag As rfl (qk bC rfl (qm rfl ?_))
  refine OG (kv := (Value.int .u64)) (vt := tB) (m := p1) (dv := false) (.p rfl) rfl rfl (ML O1 VH) (by rw [O1]; rfl) Uf rfl rfl rfl ?_
  refine Cc rfl (qm rfl ?_)
  refine EM 9 h rfl (fun h => ?_) fun h => ?_
  ·refine qm rfl (qk D1 rfl (BB rfl (qp rfl (qm rfl ?_))))
   refine EM 14 h rfl (fun h => ?_) fun h => ?_
   ·refine qk D1 rfl (qm rfl (I3 rfl (B9 rfl (qp rfl (qe rfl ?_)))))
    exact sn [] h
   ·refine qw 4 rfl (qp rfl (qe rfl ?_))
    exact sn [] h
  ·refine qw 3 rfl (qp rfl (qw 5 rfl (qp rfl (qe rfl ?_))))
   exact sn [] h
 ·obtain rfl := sj h
  refine Af (sm [] [(4, bD v1)] [] rfl rfl) (Aq ?_)
  exact ⟨⟨[_], tm, rfl⟩, tv⟩
theorem QR (N : Nat) (p0 : Int) (p1 : List (Int × Bool)) (p2 : List Int) (r : Bool) (h : HF N p0 p1 p2 = some r) : An zA 45 [pD (.val (.int .u64 p0)), oD (.rop [.mp (GI (Value.int .u64) tB p1)]), oD (.rop [.sl (p2.map Av)])] [] (bD r) := by
 unfold HF at h
 refine cw (n := 13) (rs := [.tmp 4]) Tryz.func45 fun w0 S0 => ?_
 refine wq rfl (qb rfl (qe rfl ?_))
 refine AN h (fun v1 => mk [(4, bD v1)] []) (fun j1 h => ?_) (fun v1 h => ?_)
 ·refine Ag As rfl (qk bC rfl (ql D1 rfl ?_))
  refine OG (kv := (Value.int .u64)) (vt := tB) (m := p1) (dv := false) (.p rfl) rfl rfl (ML O1 VH) (by rw [O1]; rfl) Uf rfl rfl rfl ?_
  refine qm rfl ?_
  refine EM 8 h rfl (fun h => ?_) fun h => ?_
  ·refine qw 3 rfl (qp rfl (qe rfl ?_))
   exact sn [] h
  ·refine qk cV rfl (DG (I4 3 [.val (.int .u64 p0)] rfl rfl) ?_)
   refine Jo (capD := [_, _]) (BS (L7 false Av) tB ((fun (x : Int) => GR N x p1 p0))) (.g rfl rfl) d7 rfl ⟨rfl, rfl, tv⟩ rfl (fun ar t ht => by obtain ⟨x, r, rfl, hq, rfl⟩ := IG ht; exact Po N x p1 p0 r hq) ?_
   refine Bq h fun v3 a3 h => Ax [] (GH N p2 ((fun (x : Int) => GR N x p1 p0)) v3 a3) ck rfl (qp rfl (qe rfl ?_))
   exact sn [] h
 ·obtain rfl := sj h
  refine Af (sm [] [(4, bD v1)] [] rfl rfl) (Aq ?_)
  exact ⟨⟨[_], tm, rfl⟩, tv⟩
theorem JO (N : Nat) (p0 : List Int) (p1 : Int → Option Bool) (r : Nat × (List Int)) (h : Fb N p0 p1 = some r) : B2 zA 43 [oD (.own 90000), oD (.clo (BS (L7 false Av) tB p1))] [(.vec 1 (p0.map Av), .vec 1 (r.2.map Av))] [] (oD (.view 90000 1 0 r.1)) := by
 unfold Fb at h
 refine Bz (n := 42) (rs := [.tmp 4]) Tryz.func43 rfl rfl rfl (D8 rfl) (D8 rfl) rfl rfl (D8 rfl) rfl (D8 rfl) fun w0 S0 GL => ?_
 refine Af (sm [] [(0, oD (.own 90000)), (1, oD (.clo (BS (L7 false Av) tB p1)))] [(90000, .vec 1 (p0.map Av))] rfl rfl) (wq rfl (qa rfl (Ab (wq rfl (qw 2 rfl ?_)))))
 refine Bq h fun v1 a1 h => D4 [] [90000] (Hn N p0 p1 v1 a1) dy Cm rfl (qa rfl (Ab (wp rfl (qm rfl (B9 rfl (Ab ?_))))))
 refine A7 h (fun h => ?_) fun h => ?_
 ·refine wq rfl (qm rfl (qe rfl ?_))
  obtain rfl := sj h
  refine Af ((U7 Av p0 4 90000 1 rfl rfl).trans (sm [] [(4, oD (.view 90000 1 0 p0.length))] [(90000, .vec 1 (p0.map Av))] rfl rfl)) (Aq ?_)
  exact ⟨⟨[_], tm, rfl⟩, ⟨rfl, tv⟩, tv⟩
 ·refine Ai (wp rfl (qm rfl (AP rfl (qe rfl ?_))))
  refine Ay (L := Dx N p1) h (fun v3 => mk [(0, oD (.own 90000)), (1, oD (.clo (BS (L7 false Av) tB p1))), (5, iD v3.2.1), (6, iD v3.2.2)] [(90000, .vec 1 (v3.1.map Av))]) (fun v4 => mk [(0, oD (.own 90000)), (5, iD v4.2)] [(90000, .vec 1 (v4.1.map Av))]) (fun _ _ => rfl) (sm [] _ _ rfl rfl) (fun j3 n3 v3 h => ?_) (fun v4 s h hs => ?_)
  ·unfold Dx at h
   refine wp rfl (qw 2 rfl (FG A0 rfl (AV rfl (Ab ?_))))
   refine A7 h (fun h => ?_) fun h => ?_
   ·refine Ai ?_
    refine AN h (fun v6 => mk [(0, oD (.own 90000)), (1, oD (.clo (BS (L7 false Av) tB p1))), (5, iD v6.2), (6, iD v3.2.2)] [(90000, .vec 1 (v6.1.map Av))]) (fun j6 h => ?_) (fun v6 h => ?_)
    ·refine AF (wq rfl (qw 2 rfl ?_))
     refine Bb h fun v7 a7 b7 h => qI A0 Bj a7 (Ac b7) rfl (qj D1 (Ac b7) rfl (qa rfl (Ab (wq rfl (qw 2 rfl ?_)))))
     refine Bq h fun v8 a8 h => Fk (ds0 := [_]) (ar := (L7 false Av) v7) (.p rfl) rfl rfl ⟨rfl, tv⟩ rfl rfl rfl (Fi (Lw _ _ EP) a8) ?_
     refine Cc rfl (Ab ?_)
     refine A7 h (fun h => ?_) fun h => ?_
     ·refine wq rfl (qw 3 rfl ?_)
      refine Bb h fun v10 a10 b10 h => qI A0 Bj a10 (Ac b10) rfl ?_
      refine A8 rfl rfl rfl rfl (Ac b10) rfl Bj rfl (D8 rfl) (A5 Av v3.1 _ v7) ?_
      refine Ab (Ag As rfl (qm rfl (AP rfl (qe rfl ?_))))
      exact sn [] h
     ·refine Ai ?_
      exact sn [] h
    ·refine Ag As rfl (qm rfl (AP rfl (qe rfl ?_)))
     exact sn [] h
   ·refine AQ ?_
    exact sn [] h
  ·refine Af hs (wq rfl (qw 2 rfl ?_))
   obtain ⟨c11, h⟩ := If h
   have w12 : ((v4.2).toNat) + ((v4.1.length - (v4.2).toNat)) ≤ v4.1.length := by have := c11.2.1; have := c11.2.2; omega
   refine Lh Av v4.1 (.p rfl) rfl (KN Av _ _ v4.1) rfl A0 Bj (.some _ _ _ _ c11.1) (.none _) ⟨rfl, tv⟩ tv c11.2.1 (by rw [zC]; exact c11.2.2) (zC _) rfl ?_
   have w13 : (Kd v4.1 ((v4.2).toNat) (zG ((v4.1.length - (v4.2).toNat)) ((0 : Int)))).length = v4.1.length := Kw (by rw [List.length_replicate]; exact w12)
   refine Ub Av v4.1 ((0 : Int)) rfl rfl (ON Av _ _ ((v4.2).toNat) ((v4.1.length - (v4.2).toNat)) v4.1 w12) rfl A0 Tj rfl rfl rfl rfl ?_
   refine Ab (wq rfl (qw 2 rfl ?_))
   obtain ⟨c14, h⟩ := If h
   have w15 : 0 + ((v4.2).toNat) ≤ (Kd v4.1 ((v4.2).toNat) (zG ((v4.1.length - (v4.2).toNat)) ((0 : Int)))).length := by have := c14.2.1; have := c14.2.2; omega
   refine Lh Av (Kd v4.1 ((v4.2).toNat) (zG ((v4.1.length - (v4.2).toNat)) ((0 : Int)))) (.p rfl) rfl (KN Av _ _ (Kd v4.1 ((v4.2).toNat) (zG ((v4.1.length - (v4.2).toNat)) ((0 : Int))))) rfl A0 Bj (.none _) (.some _ _ _ _ c14.1) tv ⟨rfl, tv⟩ c14.2.1 (by rw [zC]; exact c14.2.2) (zC _) rfl ?_
   refine qa rfl (Ab ?_)
   obtain rfl := sj h
   refine Af (sm [] [(4, oD (.view 90000 1 0 ((v4.2).toNat)))] [(90000, .vec 1 ((Kd v4.1 ((v4.2).toNat) (zG ((v4.1.length - (v4.2).toNat)) ((0 : Int)))).map Av))] rfl rfl) (Aq ?_)
   exact ⟨⟨[_], tm, rfl⟩, ⟨rfl, tv⟩, tv⟩
theorem Te (N : Nat) (p0 : Aa) (r : (List (List Int)) × Int) (h : LO N p0 = some r) : An zA 15 [.e (.agg (Ah p0))] [(1, r.1.map (Gq Ak))] (.tup [.one (.own 0), .one (iC r.2)]) := by
 unfold LO at h
 refine cw (n := 23) (rs := [.tmp 2, .tmp 3]) Tryz.func15 fun w0 S0 => ?_
 refine wq rfl (qb rfl (qa rfl (qa rfl (Ab (wq rfl (qL Dk Cg rfl ?_))))))
 refine Bq h fun v1 a1 h => Ax [2001] (N6 N p0 v1 a1) cA rfl (qm rfl (qx rfl (qx rfl (qx rfl (qz ed rfl (qz ee rfl (qs ez rfl (qs dM rfl (qa rfl (Ab (wp rfl (qm rfl (BB rfl (Ab ?_))))))))))))))
 refine A7 h (fun h => ?_) fun h => ?_
 ·refine wq rfl (qm rfl (qa rfl (qe rfl ?_)))
  obtain rfl := sj h
  refine Af ((A2 2 2002 1 rfl rfl rfl).trans (sm [(1000, 2002)] [(2, oD (.own 1000)), (3, iD v1.2.2)] [(1000, .vec 1 ((([] : List (List Int))).map (Gq Ak)))] rfl rfl)) (Aq ?_)
  exact ⟨⟨[_, _], ⟨.tmp _ _ rfl, tm⟩, rfl⟩, ⟨rfl, tv⟩⟩
 ·refine Ai (AK (Af (Bt 2001 _ _ rfl rfl) (Ag As rfl (ql cV rfl ?_))))
  refine Bq h fun v3 a3 h => Ax [2003] (K9 N v1.1 v3 a3) d9 rfl (DG (I4 5 [.mp (GI (Value.int .u64) tB v1.2.1)] rfl rfl) (DG (I4 4 [.sl (v1.1.map Av)] rfl rfl) ?_))
  refine Jo (capD := [_, _]) (BS (L7 false Av) tB ((fun (x : Int) => HF N x v1.2.1 v1.1))) (.p rfl) dU rfl ⟨rfl, rfl, tv⟩ rfl (fun ar t ht => by obtain ⟨x, r, rfl, hq, rfl⟩ := IG ht; exact QR N x v1.2.1 v1.1 r hq) ?_
  obtain ⟨v4, a4, h⟩ := bind_some h
  obtain ⟨c5, h⟩ := If h
  have w6 : 0 + v4.1 ≤ v4.2.length := by rw [zC]; exact c5
  refine D0 (ds0 := [_, _]) [2003] [] [true] (JO N v3 ((fun (x : Int) => HF N x v1.2.1 v1.1)) v4 a4) (.p rfl) eM rfl ⟨rfl, rfl, tv⟩ rfl rfl (by decide) ⟨rfl, tv⟩ rfl (Bi rfl) tv ⟨(fun h => by cases h), tv⟩ rfl rfl rfl ?_
  refine DG (Xb Av v4.2 20 2003 2004 1 v4.1 rfl rfl rfl rfl rfl c5) (qa rfl (Ab (wq rfl (qm rfl (DG (Bt 2004 _ _ rfl rfl) ?_)))))
  refine Bq h fun v7 a7 h => Ax [2005] (N2 N (v4.2.take v4.1) v7 a7) df rfl (qa rfl (qe rfl ?_))
  obtain rfl := sj h
  refine Af (sm [(1000, 2005)] [(2, oD (.own 1000)), (3, iD 0)] [(1000, .vec 1 (v7.map (Gq Ak)))] rfl rfl) (Aq ?_)
  exact ⟨⟨[_, _], ⟨.tmp _ _ rfl, tm⟩, rfl⟩, ⟨rfl, tv⟩⟩
theorem Nw (N : Nat) (p0 : List Int) (p1 : List Int) (r : Bool) (h : HY N p0 p1 = some r) : An zA 50 [pD (.sl (p0.map Ak)), pD (.sl (p1.map Ak))] [] (bD r) := by
 unfold HY at h
 refine cw (n := 26) (rs := [.tmp 4]) Tryz.func50 fun w0 S0 => ?_
 refine wq rfl (qa rfl (Ab (wp rfl (qm rfl (AO Au rfl (qm rfl (AO Au rfl (BB rfl (Ab ?_)))))))))
 refine A7 h (fun h => ?_) fun h => ?_
 ·refine wq rfl (qe rfl ?_)
  obtain rfl := sj h
  refine Af (sm [] [(4, bD false)] [] rfl rfl) (Aq ?_)
  exact ⟨⟨[_], tm, rfl⟩, tv⟩
 ·refine Ai (wp rfl (qe rfl ?_))
  refine Ay (L := FR N p0 p1) h (fun v2 => mk [(0, pD (.sl (p0.map Ak))), (1, pD (.sl (p1.map Ak))), (5, iD v2)] []) (fun v3 => mk [] []) (fun _ _ => rfl) (sm [] _ _ rfl rfl) (fun j2 n2 v2 h => ?_) (fun v3 s h hs => ?_)
  ·unfold FR at h
   refine wp rfl (qw 2 rfl (AO Au rfl (AV rfl (Ab ?_))))
   refine A7 h (fun h => ?_) fun h => ?_
   ·refine Ai (AK (AF (wq rfl (qw 2 rfl ?_))))
    refine Bb h fun v5 a5 b5 h => qi Au CP a5 (Ac b5) rfl (qk B4 rfl (qw 2 rfl ?_))
    refine Bb h fun v6 a6 b6 h => qi Au CP a6 (Ac b6) rfl (qk B4 rfl (BB rfl (AD (by kernel_rfl) ?_)))
    refine A7 h (fun h => ?_) fun h => ?_
    ·refine wq rfl (qe rfl ?_)
     obtain rfl := sj h
     refine Af (sm [] [(4, bD false)] [] rfl rfl) (Aq ?_)
     exact ⟨⟨[_], tm, rfl⟩, tv⟩
    ·refine Ai (Ag As rfl (qm rfl (AP rfl (qe rfl ?_))))
     exact sn [] h
   ·refine AQ ?_
    exact sn [] h
  ·refine Af hs (wq rfl (qe rfl ?_))
   obtain rfl := sj h
   refine Af (sm [] [(4, bD true)] [] rfl rfl) (Aq ?_)
   exact ⟨⟨[_], tm, rfl⟩, tv⟩
theorem J1 (N : Nat) (p0 : List (List Int)) (p1 : List (List Int)) (r : Bool) (h : Gr N p0 p1 = some r) : An zA 17 [pD (.sl (p0.map (Gq Ak))), pD (.sl (p1.map (Gq Ak)))] [] (bD r) := by
 unfold Gr at h
 refine cw (n := 27) (rs := [.tmp 4]) Tryz.func17 fun w0 S0 => ?_
 refine wq rfl (qa rfl (Ab (wp rfl (qm rfl (AO HW rfl (qm rfl (AO HW rfl (BB rfl (Ab ?_)))))))))
 refine A7 h (fun h => ?_) fun h => ?_
 ·refine wq rfl (qe rfl ?_)
  obtain rfl := sj h
  refine Af (sm [] [(4, bD false)] [] rfl rfl) (Aq ?_)
  exact ⟨⟨[_], tm, rfl⟩, tv⟩
 ·refine Ai (wp rfl (qe rfl ?_))
  refine Ay (L := FC N p0 p1) h (fun v2 => mk [(0, pD (.sl (p0.map (Gq Ak)))), (1, pD (.sl (p1.map (Gq Ak)))), (5, iD v2)] []) (fun v3 => mk [] []) (fun _ _ => rfl) (sm [] _ _ rfl rfl) (fun j2 n2 v2 h => ?_) (fun v3 s h hs => ?_)
  ·unfold FC at h
   refine wp rfl (qw 2 rfl (AO HW rfl (AV rfl (Ab ?_))))
   refine A7 h (fun h => ?_) fun h => ?_
   ·refine Ai (AK (AF (wq rfl (qw 2 rfl ?_))))
    refine Bb h fun v5 a5 b5 h => qi HW I6 a5 (Ac b5) rfl (qk A6 rfl (qw 2 rfl ?_))
    refine Bb h fun v6 a6 b6 h => qi HW I6 a6 (Ac b6) rfl (qk A6 rfl ?_)
    refine Bq h fun v7 a7 h => Ax [] (Nw N v5 v6 v7 a7) eg rfl (Cc rfl (AD (by kernel_rfl) ?_))
    refine A7 h (fun h => ?_) fun h => ?_
    ·refine wq rfl (qe rfl ?_)
     obtain rfl := sj h
     refine Af (sm [] [(4, bD false)] [] rfl rfl) (Aq ?_)
     exact ⟨⟨[_], tm, rfl⟩, tv⟩
    ·refine Ai (Ag As rfl (qm rfl (AP rfl (qe rfl ?_))))
     exact sn [] h
   ·refine AQ ?_
    exact sn [] h
  ·refine Af hs (wq rfl (qe rfl ?_))
   obtain rfl := sj h
   refine Af (sm [] [(4, bD true)] [] rfl rfl) (Aq ?_)
   exact ⟨⟨[_], tm, rfl⟩, tv⟩
theorem J7 (N : Nat) (r : Bool) (h : Fu N = some r) : An zA 11 [] [] (bD r) := by
 unfold Fu at h
 refine cw (n := 63) (rs := [.tmp 0]) Tryz.func11 fun w0 S0 => ?_
 refine wq rfl (qa rfl (Ab (wp rfl (DQ F1 Qs Uf rfl ?_))))
 refine XA (.p rfl) rfl (.own _ _ _) ⟨rfl, tv⟩ rfl F1 ?_
 refine qm rfl (Ab ?_)
 refine Ay (L := FD N) h (fun v1 => mk [(9, oD (.own 2001)), (10, iD (((([false, true] : List Bool)).length : Int))), (11, iD v1)] [(2001, .vec 1 ((([false, true] : List Bool)).map eB))]) (fun v2 => mk [] []) (fun _ _ => rfl) (sm [(2001, 9)] _ _ rfl rfl) (fun j1 n1 v1 h => ?_) (fun v2 s h hs => ?_)
 ·unfold FD at h
  refine wq rfl (AV rfl (Ab (AK ?_)))
  refine A7 h (fun h => ?_) fun h => ?_
  ·refine Ai (AK (AF (wq rfl ?_)))
   refine Bb h fun v4 a4 b4 h => qI F1 Qs a4 (Ac b4) rfl (qj Ue (Ac b4) rfl (qa rfl (Ab (wq rfl (qm rfl ?_)))))
   refine Bq h fun v5 a5 h => Ax [2002, 2003, 2004, 2005] (Hr N v4 v5 a5) aM rfl (DG (Bt 2002 _ _ rfl rfl) (DG (Bt 2003 _ _ rfl rfl) (DG (Bt 2004 _ _ rfl rfl) (DG (Bt 2005 _ _ rfl rfl) ?_))))
   refine Bq h fun v6 a6 h => Ax [2006] (Ui N v5 v6 a6) eK rfl (qm rfl (qx rfl (qx rfl (qa rfl (qa rfl (Ab (wq rfl (qm rfl ?_))))))))
   refine Bq h fun v7 a7 h => Ax [2007, 2008, 2009, 2010] (Hr N v4 v7 a7) aM rfl (DG (Bt 2007 _ _ rfl rfl) (DG (Bt 2008 _ _ rfl rfl) (DG (Bt 2009 _ _ rfl rfl) (DG (Bt 2010 _ _ rfl rfl) ?_))))
   refine Bq h fun v8 a8 h => Ax [2011] (Te N v7 v8 a8) eI rfl (qm rfl (qx rfl (qx rfl (qa rfl (qa rfl (Ab (wq rfl (qm rfl ?_))))))))
   refine Bq h fun v9 a9 h => Ax [2012, 2013, 2014, 2015] (Hr N v4 v9 a9) aM rfl (DQ Au CP JH rfl ?_)
   refine Bq h fun v10 a10 h => D4 [] [2012, 2013, 2014, 2015, 30] (Lb N v9 (([0, 2] : List Int)) v10 a10) aR Cm rfl (qm rfl (qx rfl (qx rfl (qa rfl (qe rfl ?_)))))
   refine AN h (fun v11 => mk [(9, oD (.own 2016)), (10, iD (((([false, true] : List Bool)).length : Int))), (11, iD v1), (61, bD v11)] [(2016, .vec 1 ((([false, true] : List Bool)).map eB))]) (fun j11 h => ?_) (fun v11 h => ?_)
   ·refine Ag As rfl (qm rfl (BB rfl (qm rfl ?_)))
    refine EM 36 h rfl (fun h => ?_) fun h => ?_
    ·refine qw 2 rfl (qp rfl (qw 3 rfl (qp rfl (qw 2 rfl (qp rfl (qw 6 rfl (qp rfl (qw 7 rfl (qp rfl (Ab ?_))))))))))
     exact sn [(2016, 2001)] h
    ·refine qm rfl (BB rfl (qp rfl (qm rfl ?_)))
     refine EM 40 h rfl (fun h => ?_) fun h => ?_
     ·refine qw 2 rfl (qp rfl (qw 2 rfl (qp rfl (qw 6 rfl (qp rfl (qw 7 rfl (qp rfl (Ab ?_))))))))
      exact sn [(2016, 2001)] h
     ·refine qm rfl (BB rfl (qp rfl (qm rfl ?_)))
      refine EM 44 h rfl (fun h => ?_) fun h => ?_
      ·refine qn rfl (qp rfl (qw 6 rfl (qp rfl (qw 7 rfl (qp rfl (Ab ?_))))))
       exact sn [(2016, 2001)] h
      ·refine qm rfl (qp rfl (qm rfl ?_))
       refine EM 47 h rfl (fun h => ?_) fun h => ?_
       ·refine qw 5 rfl (qp rfl (qw 7 rfl (qp rfl (Ab ?_))))
        exact sn [(2016, 2001)] h
       ·refine qm rfl (DQ Au CP JH rfl (DG (Bt 49 _ _ rfl rfl) (DQ HW I6 VK rfl ?_)))
        refine Bq h fun v16 a16 h => D4 [] [2006, 50] (J1 N v6.1 (([([0, 1] : List Int)] : List (List Int))) v16 a16) cU Cm rfl (Cc rfl (qp rfl (qm rfl ?_)))
        refine EM 54 h rfl (fun h => ?_) fun h => ?_
        ·refine qw 6 rfl (qp rfl (Ab ?_))
         exact sn [(2016, 2001)] h
        ·refine qm rfl (DQ Au CP JH rfl (DQ Au CP JH rfl (DG (Bt 56 _ _ rfl rfl) (DG (Bt 57 _ _ rfl rfl) (DQ HW I6 VK rfl ?_)))))
         refine Bq h fun v18 a18 h => D4 [] [2011, 58] (J1 N v8.1 (([([0, 2] : List Int), ([1, 2] : List Int)] : List (List Int))) v18 a18) cU Cm rfl (Cc rfl (qp rfl (Ab ?_)))
         exact sn [(2016, 2001)] h
   ·refine A7 h (fun h => ?_) fun h => ?_
    ·refine wq rfl (qe rfl ?_)
     obtain rfl := sj h
     refine Af (sm [] [(0, bD false)] [] rfl rfl) (Aq ?_)
     exact ⟨⟨[_], tm, rfl⟩, tv⟩
    ·refine Ai (Ag As rfl (AP rfl (qm rfl (Ab ?_))))
     exact sn [(2001, 2016)] h
  ·refine AQ ?_
   exact sn [] h
 ·refine Af hs (wq rfl (qe rfl ?_))
  obtain rfl := sj h
  refine Af (sm [] [(0, bD true)] [] rfl rfl) (Aq ?_)
  exact ⟨⟨[_], tm, rfl⟩, tv⟩
theorem Nz (N : Nat) (p0 : Aa) (p1 : Ad) (r : Bool) (h : FK N p0 p1 = some r) : An zA 91 [.e (.agg (Ah p0)), .e (.agg (AL p1))] [] (bD r) := by
 unfold FK at h
 refine cw (n := 36) (rs := [.tmp 4]) Tryz.func91 fun w0 S0 => ?_
 refine wq rfl (qb rfl (qb rfl (qa rfl (Ab (wp rfl (qL Dk Cg rfl (qL Ca A9 rfl ?_)))))))
 refine Bq h fun v1 a1 h => Ax [] (H2 N p0 p1 v1 a1) az rfl (BB rfl (Ab ?_))
 refine A7 h (fun h => ?_) fun h => ?_
 ·refine wq rfl (qe rfl ?_)
  obtain rfl := sj h
  refine Af (sm [] [(4, bD false)] [] rfl rfl) (Aq ?_)
  exact ⟨⟨[_], tm, rfl⟩, tv⟩
 ·refine Ai (wp rfl (qe rfl ?_))
  refine Ay (L := Dp N p0 p1) h (fun v3 => mk [(2, oD (.ptr 2 0)), (3, oD (.ptr 3 0)), (5, iD v3)] [(2, .box (Ah p0)), (3, .box (AL p1))]) (fun v4 => mk [] []) (fun _ _ => rfl) (sm [] _ _ rfl rfl) (fun j3 n3 v3 h => ?_) (fun v4 s h hs => ?_)
  ·unfold Dp at h
   refine wp rfl (qm rfl (qf Dn rfl (ql A6 rfl (AO Au rfl (AV rfl (Ab ?_))))))
   refine A7 h (fun h => ?_) fun h => ?_
   ·refine Ai (AK (AF ?_))
    refine AN h (fun v6 => mk [(2, oD (.ptr 2 0)), (3, oD (.ptr 3 0)), (5, iD v3), (35, bD v6)] [(2, .box (Ah p0)), (3, .box (AL p1))]) (fun j6 h => ?_) (fun v6 h => ?_)
    ·refine Ag As rfl (qf BO rfl (ql A6 rfl (qm rfl ?_)))
     refine Bb h fun v7 a7 b7 h => qi Au CP a7 (Ac b7) rfl (qk B4 rfl (Df rfl (qm rfl ?_)))
     refine EM 23 h rfl (fun h => ?_) fun h => ?_
     ·refine qw 11 rfl (qp rfl (AD (by kernel_rfl) ?_))
      exact sn [] h
     ·refine qf Dn rfl (ql A6 rfl (qm rfl ?_))
      refine Bb h fun v9 a9 b9 h => qi Au CP a9 (Ac b9) rfl (qk B4 rfl (qf Hg rfl (ql A6 rfl (qm rfl ?_))))
      refine Bb h fun v10 a10 b10 h => qi Au CP a10 (Ac b10) rfl (qk B4 rfl (BB rfl (qp rfl (AD (by kernel_rfl) ?_))))
      exact sn [] h
    ·refine A7 h (fun h => ?_) fun h => ?_
     ·refine wq rfl (qe rfl ?_)
      obtain rfl := sj h
      refine Af (sm [] [(4, bD false)] [] rfl rfl) (Aq ?_)
      exact ⟨⟨[_], tm, rfl⟩, tv⟩
     ·refine Ai (Ag As rfl (qm rfl (AP rfl (qe rfl ?_))))
      exact sn [] h
   ·refine AQ ?_
    exact sn [] h
  ·refine Af hs (wq rfl (qe rfl ?_))
   obtain rfl := sj h
   refine Af (sm [] [(4, bD true)] [] rfl rfl) (Aq ?_)
   exact ⟨⟨[_], tm, rfl⟩, tv⟩
theorem Ox (N : Nat) (p0 : List AE) (p1 : Int) (r : (List Ae)) (h : Hh N p0 p1 = some r) : An zA 110 [pD (.sl (p0.map BM)), iD p1] [(3, r.map AC)] (oD (.own 0)) := by
 unfold Hh at h
 refine cw (n := 26) (rs := [.tmp 4]) Tryz.func110 fun w0 S0 => ?_
 refine wq rfl (qa rfl (Ab (wq rfl (qa rfl (Ab (AK ?_))))))
 refine Ay (L := En N p0) h (fun v1 => mk [(0, pD (.sl (p0.map BM))), (1, iD v1.1), (5, oD (.own 2001))] [(2001, .vec 3 (v1.2.map AC))]) (fun v2 => mk [(5, oD (.own 2002))] [(2002, .vec 3 (v2.map AC))]) (fun _ _ => rfl) ((A2 5 2003 3 rfl rfl rfl).trans (sm [(2001, 2003)] _ _ rfl rfl)) (fun j1 n1 v1 h => ?_) (fun v2 s h hs => ?_)
 ·unfold En at h
  refine wp rfl (qw 2 rfl ?_)
  refine Bb h fun v3 a3 b3 h => qi Iu M7 a3 (Ac b3) rfl (qg To rfl (qk B4 rfl (Df rfl (Ab ?_))))
  refine A7 h (fun h => ?_) fun h => ?_
  ·refine Ai (AF (wq rfl (qw 2 rfl ?_)))
   refine Bb h fun v5 a5 b5 h => qi Iu M7 a5 (Ac b5) rfl (qg XQ rfl (qK Kz Fq rfl (DQ Fg Fq Ls rfl (qm rfl ?_))))
   refine Gg h fun c6 h => CJ (f := AC) Fg Fg Fq Rh Ls c6 rfl (qa rfl (Ab (Ag As rfl (qw 2 rfl ?_))))
   refine Bb h fun v7 a7 b7 h => qi Iu M7 a7 (Ac b7) rfl (qg To rfl (qk B4 rfl (qe rfl ?_)))
   exact sn [(2001, 19)] h
  ·refine AQ ?_
   exact sn [(2002, 2001)] h
 ·refine Af hs (wq rfl (qm rfl (qe rfl ?_)))
  obtain rfl := sj h
  refine Af (sm [(1000, 2002)] [(4, oD (.own 1000))] [(1000, .vec 3 (v2.map AC))] rfl rfl) (Aq ?_)
  exact ⟨⟨[_], tm, rfl⟩, ⟨rfl, tv⟩⟩
theorem Nv (N : Nat) (p0 : Aa) (p1 : Ad) (r : (List Ae) × Int) (h : EY N p0 p1 = some r) : An zA 76 [.e (.agg (Ah p0)), .e (.agg (AL p1))] [(3, r.1.map AC)] (.tup [.one (.own 0), .one (iC r.2)]) := by
 unfold EY at h
 refine cw (n := 44) (rs := [.tmp 4, .tmp 5]) Tryz.func76 fun w0 S0 => ?_
 refine wq rfl (qb rfl (qb rfl (qa rfl (qa rfl (Ab (wp rfl (qL Dk Cg rfl (qL Ca A9 rfl ?_))))))))
 refine Bq h fun v1 a1 h => Ax [] (H2 N p0 p1 v1 a1) az rfl (qa rfl (Ab (wq rfl (qm rfl (BB rfl (Ab ?_))))))
 refine A7 h (fun h => ?_) fun h => ?_
 ·refine wq rfl (qm rfl (qa rfl (qe rfl ?_)))
  obtain rfl := sj h
  refine Af ((A2 4 2001 3 rfl rfl rfl).trans (sm [(1000, 2001)] [(4, oD (.own 1000)), (5, iD v1)] [(1000, .vec 3 ((([] : List Ae)).map AC))] rfl rfl)) (Aq ?_)
  exact ⟨⟨[_, _], ⟨.tmp _ _ rfl, tm⟩, rfl⟩, ⟨rfl, tv⟩⟩
 ·refine Ai (wp rfl (qL Dk Cg rfl (qL Ca A9 rfl ?_)))
  refine Bq h fun v3 a3 h => Ax [] (G9 N p0 p1 v3 a3) Z8 rfl (Cc rfl (Ab ?_))
  refine A7 h (fun h => ?_) fun h => ?_
  ·refine wq rfl (qa rfl (qe rfl ?_))
   obtain rfl := sj h
   refine Af ((A2 4 2002 3 rfl rfl rfl).trans (sm [(1000, 2002)] [(4, oD (.own 1000)), (5, iD 13)] [(1000, .vec 3 ((([] : List Ae)).map AC))] rfl rfl)) (Aq ?_)
   exact ⟨⟨[_, _], ⟨.tmp _ _ rfl, tm⟩, rfl⟩, ⟨rfl, tv⟩⟩
  ·refine Ai (wq rfl (qL Dk Cg rfl (qL Ca A9 rfl ?_)))
   refine Bq h fun v5 a5 h => Ax [2003] (J6 N p0 p1 20000 v5 a5) cL rfl (qm rfl (qx rfl (qx rfl (qa rfl (qa rfl (Ab (wp rfl (qm rfl (Cc rfl (Ab ?_))))))))))
   refine A7 h (fun h => ?_) fun h => ?_
   ·refine wq rfl (qa rfl (qe rfl ?_))
    obtain rfl := sj h
    refine Af ((A2 4 2004 3 rfl rfl rfl).trans (sm [(1000, 2004)] [(4, oD (.own 1000)), (5, iD 3)] [(1000, .vec 3 ((([] : List Ae)).map AC))] rfl rfl)) (Aq ?_)
    exact ⟨⟨[_, _], ⟨.tmp _ _ rfl, tm⟩, rfl⟩, ⟨rfl, tv⟩⟩
   ·refine Ai (wp rfl (qe rfl ?_))
    refine Ay (L := CG N p0 v5) h (fun v7 => mk [(2, oD (.ptr 2 0)), (7, oD (.own 2005)), (9, iD v7)] [(2, .box (Ah p0)), (2005, .vec 7 (v5.1.map BM))]) (fun v8 => mk [] []) (fun _ _ => rfl) (sm [(2005, 2003)] _ _ rfl rfl) (fun j7 n7 v7 h => ?_) (fun v8 s h hs => ?_)
    ·unfold CG at h
     refine wp rfl (qw 2 rfl (FG Iu rfl (AV rfl (Ab ?_))))
     refine A7 h (fun h => ?_) fun h => ?_
     ·refine Ai (AK (AF (wq rfl (qL Dk Cg rfl (qw 2 rfl ?_)))))
      refine Bb h fun v10 a10 b10 h => qI Iu M7 a10 (Ac b10) rfl (qh Oa rfl ?_)
      refine PS (.p rfl) rfl Ca A9 rfl (Ac b10) rfl rfl (by decide) ?_
      refine Bq h fun v11 a11 h => Ax [] (Nz N p0 ((Ad.mk v10.fu.fd v10.fu.fa v10.fu.fe)) v11 a11) eO rfl (AD (by kernel_rfl) ?_)
      refine A7 h (fun h => ?_) fun h => ?_
      ·refine wq rfl (qw 2 rfl ?_)
       refine Bq h fun v13 a13 h => D4 [2006] [2005] (Ox N v5.1 v7 v13 a13) cp (It (fun _ => rfl) Cm) rfl (qa rfl (qe rfl ?_))
       obtain rfl := sj h
       refine Af (sm [(1000, 2006)] [(4, oD (.own 1000)), (5, iD 0)] [(1000, .vec 3 (v13.map AC))] rfl rfl) (Aq ?_)
       exact ⟨⟨[_, _], ⟨.tmp _ _ rfl, tm⟩, rfl⟩, ⟨rfl, tv⟩⟩
      ·refine Ai (Ag As rfl (qm rfl (AP rfl (qe rfl ?_))))
       exact sn [] h
     ·refine AQ ?_
      exact sn [] h
    ·refine Af hs (wq rfl (qa rfl (qe rfl ?_)))
     obtain rfl := sj h
     refine Af ((A2 4 2007 3 rfl rfl rfl).trans (sm [(1000, 2007)] [(4, oD (.own 1000)), (5, iD 14)] [(1000, .vec 3 ((([] : List Ae)).map AC))] rfl rfl)) (Aq ?_)
     exact ⟨⟨[_, _], ⟨.tmp _ _ rfl, tm⟩, rfl⟩, ⟨rfl, tv⟩⟩
theorem Nu (N : Nat) (p0 : Aa) (r : (List Ae) × Int) (h : FL N p0 = some r) : An zA 41 [.e (.agg (Ah p0))] [(3, r.1.map AC)] (.tup [.one (.own 0), .one (iC r.2)]) := by
 unfold FL at h
 refine cw (n := 19) (rs := [.tmp 2, .tmp 3]) Tryz.func41 fun w0 S0 => ?_
 refine wq rfl (qb rfl (qa rfl (qa rfl (Ab (wq rfl (qL Dk Cg rfl ?_))))))
 refine Bq h fun v1 a1 h => Ax [2001, 2002, 2003] (J3 N p0 v1 a1) cF rfl (qm rfl (qx rfl (qx rfl (qz Fc rfl (qs A9 rfl (qa rfl (Ab (wp rfl (qm rfl (BB rfl (Ab ?_)))))))))))
 refine A7 h (fun h => ?_) fun h => ?_
 ·refine wq rfl (qm rfl (qa rfl (qe rfl ?_)))
  obtain rfl := sj h
  refine Af ((A2 2 2004 3 rfl rfl rfl).trans (sm [(1000, 2004)] [(2, oD (.own 1000)), (3, iD v1.2)] [(1000, .vec 3 ((([] : List Ae)).map AC))] rfl rfl)) (Aq ?_)
  exact ⟨⟨[_, _], ⟨.tmp _ _ rfl, tm⟩, rfl⟩, ⟨rfl, tv⟩⟩
 ·refine Ai (wq rfl (qL Dk Cg rfl (qL Ca A9 rfl ?_)))
  refine Bq h fun v3 a3 h => D4 [2005] [2001, 2002, 2003] (Nv N p0 v1.1 v3 a3) ey (It (fun _ => rfl) Cm) rfl (qx rfl (qx rfl (qa rfl (qe rfl ?_))))
  obtain rfl := sj h
  refine Af (sm [(1000, 2005)] [(2, oD (.own 1000)), (3, iD v3.2)] [(1000, .vec 3 (v3.1.map AC))] rfl rfl) (Aq ?_)
  exact ⟨⟨[_, _], ⟨.tmp _ _ rfl, tm⟩, rfl⟩, ⟨rfl, tv⟩⟩
theorem Mw (N : Nat) (p0 : Aa) (p1 : List Int) (r : Bool × Int) (h : E8 N p0 p1 = some r) : An zA 14 [.e (.agg (Ah p0)), pD (.sl (p1.map Ak))] [] (.tup [.one (.pure (.val (.bool r.1))), .one (iC r.2)]) := by
 unfold E8 at h
 refine cw (n := 27) (rs := [.tmp 4, .tmp 5]) Tryz.func14 fun w0 S0 => ?_
 refine wq rfl (qb rfl (qa rfl (qa rfl (Ab (wq rfl (qL Dk Cg rfl (qm rfl ?_)))))))
 refine Bq h fun v1 a1 h => Ax [2001, 2002, 2003, 2004] (IQ N p0 p1 v1 a1) cZ rfl (qm rfl (qx rfl (qx rfl (qz K8 rfl (qs Cg rfl (qa rfl (Ab (wp rfl (qm rfl (BB rfl (Ab ?_)))))))))))
 refine A7 h (fun h => ?_) fun h => ?_
 ·refine wq rfl (qm rfl (qa rfl (qe rfl ?_)))
  obtain rfl := sj h
  refine Af (sm [] [(4, bD false), (5, iD v1.2)] [] rfl rfl) (Aq ?_)
  exact ⟨⟨[_, _], ⟨.tmp _ _ rfl, tm⟩, rfl⟩, tv⟩
 ·refine Ai (wq rfl (qL Dk Cg rfl ?_))
  refine Bq h fun v3 a3 h => D4 [2005] [2001, 2002, 2003, 2004] (Nu N v1.1 v3 a3) eL (It (fun _ => rfl) Cm) rfl (qm rfl (qx rfl (qx rfl (qa rfl (Ab (wp rfl (qm rfl (B9 rfl (Ab ?_)))))))))
  refine A7 h (fun h => ?_) fun h => ?_
  ·refine wq rfl (qm rfl (qa rfl (qe rfl ?_)))
   obtain rfl := sj h
   refine Af (sm [] [(4, bD false), (5, iD v3.2)] [] rfl rfl) (Aq ?_)
   exact ⟨⟨[_, _], ⟨.tmp _ _ rfl, tm⟩, rfl⟩, tv⟩
  ·refine Ai (wq rfl (qm rfl (BB rfl (qa rfl (qe rfl ?_)))))
   obtain rfl := sj h
   refine Af (sm [] [(4, bD ((v3.2 != 0))), (5, iD 0)] [] rfl rfl) (Aq ?_)
   exact ⟨⟨[_, _], ⟨.tmp _ _ rfl, tm⟩, rfl⟩, tv⟩
theorem K6 (N : Nat) (p0 : BL) (p1 : List Int) (r : Bool) (h : D6 N p0 p1 = some r) : An zA 3 [.e (.agg (Dc p0)), pD (.sl (p1.map Ak))] [] (bD r) := by
 unfold D6 at h
 refine cw (n := 49) (rs := [.tmp 4]) Tryz.func3 fun w0 S0 => ?_
 refine wq rfl (qb rfl (qa rfl (Ab (wq rfl (qL bd cq rfl ?_)))))
 refine Bq h fun v1 a1 h => Ax [2001, 2002, 2003, 2004] (OV N p0 v1 a1) dS rfl (qm rfl (qx rfl (qx rfl (qz K8 rfl (qs Cg rfl (qa rfl (Ab (AK ?_))))))))
 refine AN h (fun v2 => mk [(1, pD (.sl (p1.map Ak))), (5, oD (.ptr 5 0)), (26, bD v2)] [(5, .box [.own 2005, .own 2006, .own 2007, .own 2008]), (2005, .vec 1 (v1.1.fb.map Ak)), (2006, .vec 1 (v1.1.fi.map Ak)), (2007, .vec 1 (v1.1.fm.map Ak)), (2008, .vec 6 (v1.1.fc.map AT))]) (fun j2 h => ?_) (fun v2 h => ?_)
 ·refine Ag As rfl ?_
  refine Bq h fun v3 a3 h => Ax [] (J7 N v3 a3) dB rfl (Cc rfl (qm rfl ?_))
  refine EM 18 h rfl (fun h => ?_) fun h => ?_
  ·refine qw 2 rfl (qp rfl (qw 4 rfl (qp rfl (Ab ?_))))
   exact sn [(2005, 2001), (2006, 2002), (2007, 2003), (2008, 2004)] h
  ·refine qm rfl (Cc rfl (qp rfl (qm rfl ?_)))
   refine EM 22 h rfl (fun h => ?_) fun h => ?_
   ·refine qw 3 rfl (qp rfl (Ab ?_))
    exact sn [(2005, 2001), (2006, 2002), (2007, 2003), (2008, 2004)] h
   ·refine qm rfl (AO Au rfl (FW rfl (qp rfl (Ab ?_))))
    exact sn [(2005, 2001), (2006, 2002), (2007, 2003), (2008, 2004)] h
 ·refine A7 h (fun h => ?_) fun h => ?_
  ·refine wq rfl ?_
   refine Bq h fun v7 a7 h => Ax [] (J7 N v7 a7) dB rfl (qe rfl ?_)
   obtain rfl := sj h
   refine Af (sm [] [(4, bD v7)] [] rfl rfl) (Aq ?_)
   exact ⟨⟨[_], tm, rfl⟩, tv⟩
  ·refine Ai (wq rfl (qL Dk Cg rfl (qm rfl ?_)))
   refine Bq h fun v8 a8 h => Ax [2009] (DZ N p1 v8 a8) Wf rfl ?_
   refine Bq h fun v9 a9 h => D4 [] [2005, 2006, 2007, 2008, 2009] (Lb N v1.1 v8 v9 a9) aR Cm rfl (qm rfl (qx rfl (qx rfl (qa rfl (qa rfl (AD (by kernel_rfl) (wq rfl (qL Dk Cg rfl (qm rfl ?_)))))))))
   refine Bq h fun v10 a10 h => D4 [] [2005, 2006, 2007, 2008] (Mw N v1.1 p1 v10 a10) ek Cm rfl (qm rfl (qx rfl (qx rfl (qa rfl (qe rfl ?_)))))
   refine AN h (fun v11 => mk [(4, bD v11)] []) (fun j11 h => ?_) (fun v11 h => ?_)
   ·refine Ag As rfl (qw 2 rfl ?_)
    refine Jd (.p rfl) rfl rfl (Xy _ _ _ _ eT) rfl ?_
    refine qm rfl ?_
    refine EM 44 h rfl (fun h => ?_) fun h => ?_
    ·refine qw 2 rfl (B9 rfl (qp rfl (qe rfl ?_)))
     exact sn [] h
    ·refine qw 3 rfl (qp rfl (qe rfl ?_))
     exact sn [] h
   ·obtain rfl := sj h
    refine Af (sm [] [(4, bD v11)] [] rfl rfl) (Aq ?_)
    exact ⟨⟨[_], tm, rfl⟩, tv⟩
end Go.Lift
