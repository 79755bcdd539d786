/- Lemmas for CoreErrorsCardSaid, which YtbfklmmnpdifaaaGreatDoorFinC9 proves. -/
import Derived.Test.YtbfklmmnpdifaaaGreatDoorCode2
open List renaming map_eq_nil_iff → zF2, replicate → zA6
open Nat renaming zero_add → zA3
open Go.Proofs.Tryz renaming prog → zA0
namespace Go.Lift
open IntKind renaming wrap → wI
set_option maxRecDepth 10000
open Go.RowKit
open Go.Proofs
theorem K5 (N : Nat) (p0 : Ae) (p1 : Ao) (r : (List AH)) (h : GU N p0 p1 = some r) : Ak zA0 154 [.e (.agg (Ai p0)), .e (.agg (AR p1))] [(3, r.map BK)] (oD (.own 0)) := by
 unfold GU at h
 refine cw (n := 98) (rs := [.tmp 4]) Tryz.func154 fun w0 S0 => ?_
 refine wq rfl (qb rfl (qb rfl (qa rfl (Aa (wq rfl (qa rfl (Aa (wp rfl (qf CC rfl (ql Hr rfl (AD Dv rfl (qm rfl (Aa ?_)))))))))))))
 refine Av (L := Er N p0 p1) h (fun v1 => mk [(3, oD (.ptr 3 0)), (5, oD (.own 2001)), (15, pD (.sl (p0.fb.map AO))), (16, iD ((p0.fb.length : Int))), (17, iD v1.2)] [(3, .box (AR p1)), (2001, .vec 3 (v1.1.map BK))]) (fun v2 => mk [(5, oD (.own 2002))] [(2002, .vec 3 (v2.map BK))]) (fun _ _ => rfl) ((Bc 5 2013 3 rfl rfl rfl).trans (sm [(2001, 2013)] _ _ rfl rfl)) (fun j1 n1 v1 h => ?_) (fun v2 s h hs => ?_)
 ·unfold Er at h
  refine wq rfl (AN rfl (Aa (Ay ?_)))
  refine A0 h (fun h => ?_) fun h => ?_
  ·refine Ag (Ay (AA (wq rfl (qm rfl ?_))))
   refine A8 h fun v4 a4 b4 h => qi Dv DT a4 (Ab b4) rfl (qK Iq DT rfl (qz KA rfl (qa rfl (qs DT rfl (Aa (wq rfl (qL Co Bh rfl (qf Es rfl (ql C2 rfl ?_)))))))))
   refine Bg h fun v5 a5 h => As [] (H8 N p1 v4.fg v5 a5) Qq rfl (qL Co Bh rfl (qf HU rfl (ql C2 rfl ?_)))
   refine Bg h fun v6 a6 h => As [] (H8 N p1 v4.fj v6 a6) Qq rfl (qa rfl (qa rfl (AF (by kernel_rfl) ?_)))
   refine AG h (fun v7 => mk [(3, oD (.ptr 3 0)), (5, oD (.own 2003)), (6, iD v1.2), (7, oD (.ptr 7 0)), (8, pD (.val (.int .u8 v7))), (9, pD (.val (.int .u8 v6))), (15, pD (.sl (p0.fb.map AO))), (16, iD ((p0.fb.length : Int))), (17, iD v1.2)] [(3, .box (AR p1)), (7, .box (BH v4)), (2003, .vec 3 (v1.1.map BK))]) (fun j7 h => ?_) (fun v7 h => ?_)
   ·refine wq rfl (qL Iq DT rfl ?_)
    refine Bg h fun v8 a8 h => As [] (IB N v4 v8 a8) Qs rfl (Aa ?_)
    refine A0 h (fun h => ?_) fun h => ?_
    ·refine Ad Ap rfl (qf EP rfl (ql JP rfl (qm rfl ?_)))
     refine A8 h fun v10 a10 b10 h => qi E2 GN a10 (Ab b10) rfl (qk Kd rfl (qe rfl ?_))
     exact sn [(2003, 2001)] h
    ·refine Ag ?_
     exact sn [(2003, 2001)] h
   ·refine wq rfl (qf FT rfl (ql GF rfl (AD DD rfl (qm rfl (Aa ?_)))))
    refine Av (L := D6 N v1 v4 v6 v7) h (fun v11 => mk [(3, oD (.ptr 3 0)), (5, oD (.own 2004)), (6, iD v1.2), (7, oD (.ptr 7 0)), (8, pD (.val (.int .u8 v7))), (9, pD (.val (.int .u8 v6))), (15, pD (.sl (p0.fb.map AO))), (16, iD ((p0.fb.length : Int))), (17, iD v1.2), (39, iD ((v4.fi.length : Int))), (40, iD v11.2)] [(3, .box (AR p1)), (7, .box (BH v4)), (2004, .vec 3 (v11.1.map BK))]) (fun v12 => mk [(3, oD (.ptr 3 0)), (5, oD (.own 2005)), (15, pD (.sl (p0.fb.map AO))), (16, iD ((p0.fb.length : Int))), (17, iD v1.2)] [(3, .box (AR p1)), (2005, .vec 3 (v12.map BK))]) (fun _ _ => rfl) (sm [(2004, 2003)] _ _ rfl rfl) (fun j11 n11 v11 h => ?_) (fun v12 s h hs => ?_)
    ·unfold D6 at h
     refine wq rfl (AN rfl (Aa (Ay ?_)))
     refine A0 h (fun h => ?_) fun h => ?_
     ·refine Ag ?_
      refine AG h (fun v14 => mk [(3, oD (.ptr 3 0)), (5, oD (.own 2006)), (6, iD v1.2), (7, oD (.ptr 7 0)), (8, pD (.val (.int .u8 v7))), (9, pD (.val (.int .u8 v6))), (15, pD (.sl (p0.fb.map AO))), (16, iD ((p0.fb.length : Int))), (17, iD v1.2), (39, iD ((v4.fi.length : Int))), (40, iD v11.2)] [(3, .box (AR p1)), (7, .box (BH v4)), (2006, .vec 3 (v14.map BK))]) (fun j14 h => ?_) (fun v14 h => ?_)
      ·refine AA (wq rfl (qm rfl (qa rfl (Aa (wp rfl (qw 2 rfl ?_))))))
       refine Il h fun c15 h => ES rfl c15 (GJ rfl (BW rfl (Aa ?_)))
       refine A0 h (fun h => ?_) fun h => ?_
       ·refine AJ ?_
        exact sn [(2006, 2004)] h
       ·refine Ag (wq rfl (qa rfl (Aa (wp rfl (qf FT rfl (ql GF rfl (qm rfl ?_)))))))
        refine A8 h fun v17 a17 b17 h => qi DD I8 a17 (Ab b17) rfl (qk L4 rfl (AD GK rfl (qm rfl (Aa ?_))))
        refine Av (L := D5 N v1 v4 v6 v11 v17) h (fun v18 => mk [(3, oD (.ptr 3 0)), (5, oD (.own 2007)), (6, iD v1.2), (7, oD (.ptr 7 0)), (8, pD (.val (.int .u8 v7))), (9, pD (.val (.int .u8 v6))), (10, iD v11.2), (11, bD v18.2.1), (15, pD (.sl (p0.fb.map AO))), (16, iD ((p0.fb.length : Int))), (17, iD v1.2), (39, iD ((v4.fi.length : Int))), (40, iD v11.2), (52, pD (.sl (v17.map eB))), (53, iD ((v17.length : Int))), (54, iD v18.2.2)] [(3, .box (AR p1)), (7, .box (BH v4)), (2007, .vec 3 (v18.1.map BK))]) (fun v19 => mk [(3, oD (.ptr 3 0)), (5, oD (.own 2008)), (6, iD v1.2), (7, oD (.ptr 7 0)), (8, pD (.val (.int .u8 v7))), (9, pD (.val (.int .u8 v6))), (10, iD v11.2), (11, bD v19.2), (15, pD (.sl (p0.fb.map AO))), (16, iD ((p0.fb.length : Int))), (17, iD v1.2), (39, iD ((v4.fi.length : Int))), (40, iD v11.2)] [(3, .box (AR p1)), (7, .box (BH v4)), (2008, .vec 3 (v19.1.map BK))]) (fun _ _ => rfl) (sm [(2007, 2004)] _ _ rfl rfl) (fun j18 n18 v18 h => ?_) (fun v19 s h hs => ?_)
        ·unfold D5 at h
         refine wq rfl (AN rfl (Aa (Ay ?_)))
         refine A0 h (fun h => ?_) fun h => ?_
         ·refine Ag ?_
          refine AG h (fun v21 => mk [(3, oD (.ptr 3 0)), (5, oD (.own 2009)), (6, iD v1.2), (7, oD (.ptr 7 0)), (8, pD (.val (.int .u8 v7))), (9, pD (.val (.int .u8 v6))), (10, iD v11.2), (11, bD v21.2), (15, pD (.sl (p0.fb.map AO))), (16, iD ((p0.fb.length : Int))), (17, iD v1.2), (39, iD ((v4.fi.length : Int))), (40, iD v11.2), (52, pD (.sl (v17.map eB))), (53, iD ((v17.length : Int))), (54, iD v18.2.2)] [(3, .box (AR p1)), (7, .box (BH v4)), (2009, .vec 3 (v21.1.map BK))]) (fun j21 h => ?_) (fun v21 h => ?_)
          ·refine AA (wq rfl (qm rfl ?_))
           refine A8 h fun v22 a22 b22 h => qi GK Qu a22 (Ab b22) rfl (qk QC rfl (qa rfl (qa rfl (Aa (wp rfl (qw 2 rfl ?_))))))
           refine Il h fun c23 h => ES rfl c23 (GJ rfl (BW rfl (Aa ?_)))
           refine A0 h (fun h => ?_) fun h => ?_
           ·refine AJ ?_
            exact sn [(2009, 2007)] h
           ·refine Ag ?_
            refine AG h (fun v25 => mk [(3, oD (.ptr 3 0)), (5, oD (.own 2010)), (6, iD v1.2), (7, oD (.ptr 7 0)), (8, pD (.val (.int .u8 v7))), (9, pD (.val (.int .u8 v6))), (10, iD v11.2), (11, bD v25), (12, iD v18.2.2), (13, bD v22), (15, pD (.sl (p0.fb.map AO))), (16, iD ((p0.fb.length : Int))), (17, iD v1.2), (39, iD ((v4.fi.length : Int))), (40, iD v11.2), (52, pD (.sl (v17.map eB))), (53, iD ((v17.length : Int))), (54, iD v18.2.2)] [(3, .box (AR p1)), (7, .box (BH v4)), (2010, .vec 3 (v18.1.map BK))]) (fun j25 h => ?_) (fun v25 h => ?_)
            ·refine Ad Ap rfl (qw 2 rfl ?_)
             refine DE 65 h rfl (fun h => ?_) fun h => ?_
             ·refine qn rfl (qp rfl (qe rfl ?_))
              exact sn [(2010, 2007)] h
             ·refine qm rfl (qp rfl (qe rfl ?_))
              exact sn [(2010, 2007)] h
            ·refine AG h (fun v27 => mk [(3, oD (.ptr 3 0)), (5, oD (.own 2011)), (6, iD v1.2), (7, oD (.ptr 7 0)), (8, pD (.val (.int .u8 v7))), (9, pD (.val (.int .u8 v6))), (10, iD v11.2), (11, bD v25), (12, iD v18.2.2), (15, pD (.sl (p0.fb.map AO))), (16, iD ((p0.fb.length : Int))), (17, iD v1.2), (39, iD ((v4.fi.length : Int))), (40, iD v11.2), (52, pD (.sl (v17.map eB))), (53, iD ((v17.length : Int))), (54, iD v18.2.2), (74, bD v27)] [(3, .box (AR p1)), (7, .box (BH v4)), (2011, .vec 3 (v18.1.map BK))]) (fun j27 h => ?_) (fun v27 h => ?_)
             ·refine Ad Ap rfl (qm rfl (BN rfl (qm rfl ?_)))
              refine DE 70 h rfl (fun h => ?_) fun h => ?_
              ·refine qf K9 rfl (ql QC rfl (BN rfl (qp rfl (Aa ?_))))
               exact sn [(2011, 2010)] h
              ·refine qw 3 rfl (qp rfl (Aa ?_))
               exact sn [(2011, 2010)] h
             ·refine A0 h (fun h => ?_) fun h => ?_
              ·refine Ad Ap rfl (qw 4 rfl (CD JG OF rfl (ED Jl Im JG rfl ?_)))
               refine Il h fun c30 h => EQ (f := BK) Jl Jl Im Qp JG c30 rfl (qe rfl ?_)
               exact sn [(2009, 81)] h
              ·refine Ag ?_
               exact sn [(2009, 2011)] h
          ·refine Ad Ap rfl (AE rfl (qm rfl (Aa ?_)))
           exact sn [(2007, 2009)] h
         ·refine AJ ?_
          exact sn [(2008, 2007)] h
        ·refine Ac hs ?_
         refine AG h (fun v31 => mk [(3, oD (.ptr 3 0)), (5, oD (.own 2012)), (6, iD v1.2), (7, oD (.ptr 7 0)), (8, pD (.val (.int .u8 v7))), (9, pD (.val (.int .u8 v6))), (10, iD v11.2), (15, pD (.sl (p0.fb.map AO))), (16, iD ((p0.fb.length : Int))), (17, iD v1.2), (39, iD ((v4.fi.length : Int))), (40, iD v11.2), (88, bD v31)] [(3, .box (AR p1)), (7, .box (BH v4)), (2012, .vec 3 (v19.1.map BK))]) (fun j31 h => ?_) (fun v31 h => ?_)
         ·refine Ad Ap rfl (qf K9 rfl (ql QC rfl (qm rfl ?_)))
          refine DE 85 h rfl (fun h => ?_) fun h => ?_
          ·refine qm rfl (BN rfl (qp rfl (Aa ?_)))
           exact sn [(2012, 2008)] h
          ·refine qw 2 rfl (qp rfl (Aa ?_))
           exact sn [(2012, 2008)] h
         ·refine A0 h (fun h => ?_) fun h => ?_
          ·refine Ad Ap rfl (qw 3 rfl (CD JG OF rfl (ED Jl Im JG rfl ?_)))
           refine Il h fun c34 h => EQ (f := BK) Jl Jl Im Qp JG c34 rfl (qe rfl ?_)
           exact sn [(2006, 94)] h
          ·refine Ag ?_
           exact sn [(2006, 2012)] h
      ·refine Ad Ap rfl (AE rfl (qm rfl (Aa ?_)))
       exact sn [(2004, 2006)] h
     ·refine AJ ?_
      exact sn [(2005, 2004)] h
    ·refine Ac hs (Ad Ap rfl (AE rfl (qm rfl (Aa ?_))))
     exact sn [(2001, 2005)] h
  ·refine AJ ?_
   exact sn [(2002, 2001)] h
 ·refine Ac hs (wq rfl (qm rfl (qe rfl ?_)))
  obtain rfl := sj h
  refine Ac (sm [(1000, 2002)] [(4, oD (.own 1000))] [(1000, .vec 3 (v2.map BK))] rfl rfl) (Al ?_)
  exact ⟨⟨[_], tm, rfl⟩, ⟨rfl, tv⟩⟩
theorem NH (N : Nat) (p0 : Ae) (p1 : Ao) (r : Ao × AH × Int) (h : IA N p0 p1 = some r) : Ak zA0 117 [.e (.agg (Ai p0)), .e (.agg (AR p1))] [] (.tup [.agg (AR r.1), .agg (J0 r.2.1), .one (iC r.2.2)]) := by
 unfold IA at h
 refine cw (n := 42) (rs := [.cell 4 49, .cell 5 149, .tmp 6]) Tryz.func117 fun w0 S0 => ?_
 refine wq rfl (qb rfl (qb rfl (qz F1 rfl (qz JG rfl (qa rfl (Aa (wq rfl (qL CS Cq rfl (qL Co Bh rfl ?_)))))))))
 refine Bg h fun v1 a1 h => As [2001] (MT N p0 p1 v1 a1) Uu rfl (qm rfl (qx rfl (qx rfl (qa rfl (qa rfl (Aa (wp rfl (qm rfl (BJ rfl (Aa ?_))))))))))
 refine A0 h (fun h => ?_) fun h => ?_
 ·refine wq rfl (CD F1 L0 rfl (CD JG OF rfl (qm rfl (qs Bh rfl (qs Im rfl (qe rfl ?_))))))
  obtain rfl := sj h
  refine Ac ((Mv 4 _ rfl).trans (sm [] [(4, oD (.ptr 4 0)), (5, oD (.ptr 5 0)), (6, iD v1.2)] [(4, .box [sC ((([] : List Int)).map Aq), sC ((([] : List Int)).map Aq), sC ((([] : List Int)).map EC)]), (5, .box [iC 0, iC 0, iC 0])] rfl rfl)) (Al ?_)
  exact ⟨⟨[_, _, _], ⟨.cellN _ _ _ _ _ _ _ rfl rfl Co Bh rfl rfl (K2 rfl), ⟨.cellN _ _ _ _ _ _ _ rfl rfl ON Im rfl rfl (K2 rfl), tm⟩⟩, rfl⟩, tv⟩
 ·refine Ag (wp rfl (qm rfl (Eu HZ rfl (qm rfl (Aa ?_)))))
  refine Av (L := FO N p0 v1) h (fun v3 => mk [(2, oD (.ptr 2 0)), (4, oD (.ptr 4 0)), (5, oD (.ptr 5 0)), (23, oD (.own 2002)), (24, iD ((v1.1.length : Int))), (25, iD v3)] [(2, .box (Ai p0)), (4, .box [.pure (.nil0), .pure (.nil0), .pure (.nil0)]), (5, .box [iC 0, iC 0, iC 0]), (2002, .vec 3 (v1.1.map A7))]) (fun v4 => mk [(4, oD (.ptr 4 0)), (5, oD (.ptr 5 0))] [(4, .box [.pure (.nil0), .pure (.nil0), .pure (.nil0)]), (5, .box [iC 0, iC 0, iC 0])]) (fun _ _ => rfl) (sm [(2002, 2001)] _ _ rfl rfl) (fun j3 n3 v3 h => ?_) (fun v4 s h hs => ?_)
  ·unfold FO at h
   refine wq rfl (AN rfl (Aa (Ay ?_)))
   refine A0 h (fun h => ?_) fun h => ?_
   ·refine Ag (Ay (AA (wq rfl ?_)))
    refine A8 h fun v6 a6 b6 h => qI HZ Bh a6 (Ab b6) rfl (qJ Co Bh (Ab b6) rfl (qz F1 rfl (qs Bh rfl (Aa (wq rfl (qL CS Cq rfl (qL Co Bh rfl ?_)))))))
    refine Bg h fun v7 a7 h => As [2003] (K5 N p0 v6 v7 a7) Ty rfl (qa rfl (Aa (wq rfl (qm rfl (Eu Jl rfl (DK rfl (Aa ?_)))))))
    refine A0 h (fun h => ?_) fun h => ?_
    ·refine wq rfl (qL Co Bh rfl (qm rfl ?_))
     refine A8 h fun v9 a9 b9 h => qI Jl Im a9 (Ab b9) rfl (qJ ON Im (Ab b9) rfl (qs Bh rfl (qs Im rfl (qa rfl (AF (by kernel_rfl) ?_)))))
     obtain rfl := sj h
     refine Ac (sm [] [(4, oD (.ptr 4 0)), (5, oD (.ptr 5 0)), (6, iD 0)] [(4, .box (AR v6)), (5, .box (J0 v9))] rfl rfl) (Al ?_)
     exact ⟨⟨[_, _, _], ⟨.cellN _ _ _ _ _ _ _ rfl rfl Co Bh rfl rfl (K2 rfl), ⟨.cellN _ _ _ _ _ _ _ rfl rfl ON Im rfl rfl (K2 rfl), tm⟩⟩, rfl⟩, tv⟩
    ·refine Ag (Ad Ap rfl (AE rfl (qm rfl (Aa ?_))))
     exact sn [] h
   ·refine AJ ?_
    exact sn [] h
  ·refine Ac hs (wq rfl (CD F1 L0 rfl (CD JG OF rfl (qs Bh rfl (qs Im rfl (qe rfl ?_))))))
   obtain rfl := sj h
   refine Ac ((Mv 4 _ rfl).trans (sm [] [(4, oD (.ptr 4 0)), (5, oD (.ptr 5 0)), (6, iD 15)] [(4, .box [sC ((([] : List Int)).map Aq), sC ((([] : List Int)).map Aq), sC ((([] : List Int)).map EC)]), (5, .box [iC 0, iC 0, iC 0])] rfl rfl)) (Al ?_)
   exact ⟨⟨[_, _, _], ⟨.cellN _ _ _ _ _ _ _ rfl rfl Co Bh rfl rfl (K2 rfl), ⟨.cellN _ _ _ _ _ _ _ rfl rfl ON Im rfl rfl (K2 rfl), tm⟩⟩, rfl⟩, tv⟩
theorem Gs (N : Nat) (p0 : Ae) (p1 : Ao) (r : Bool × Int) (h : Ei N p0 p1 = some r) : Ak zA0 83 [.e (.agg (Ai p0)), .e (.agg (AR p1))] [] (.tup [.one (.pure (.val (.bool r.1))), .one (iC r.2)]) := by
 unfold Ei at h
 refine cw (n := 22) (rs := [.tmp 4, .tmp 5]) Tryz.func83 fun w0 S0 => ?_
 refine wq rfl (qb rfl (qb rfl (qa rfl (qa rfl (Aa (wq rfl (qL CS Cq rfl (qL Co Bh rfl ?_))))))))
 refine Bg h fun v1 a1 h => As [] (NH N p0 p1 v1 a1) TU rfl (qm rfl (qx rfl (qx rfl (qx rfl (qz F1 rfl (qz JG rfl (qs Bh rfl (qs Im rfl (qa rfl (Aa (wq rfl (qm rfl (Aa (AA (wq rfl (BW rfl (qe rfl ?_)))))))))))))))))
 refine A0 h (fun h => ?_) fun h => ?_
 ·refine wq rfl (qa rfl (qe rfl ?_))
  obtain rfl := sj h
  refine Ac (sm [] [(4, bD false), (5, iD 0)] [] rfl rfl) (Al ?_)
  exact ⟨⟨[_, _], ⟨.tmp _ _ rfl, tm⟩, rfl⟩, tv⟩
 ·refine wq rfl (BW rfl (qe rfl ?_))
  refine A0 h (fun h => ?_) fun h => ?_
  ·refine wq rfl (qa rfl (qe rfl ?_))
   obtain rfl := sj h
   refine Ac (sm [] [(4, bD true), (5, iD 0)] [] rfl rfl) (Al ?_)
   exact ⟨⟨[_, _], ⟨.tmp _ _ rfl, tm⟩, rfl⟩, tv⟩
  ·refine wq rfl (qm rfl (qa rfl (qe rfl ?_)))
   obtain rfl := sj h
   refine Ac (sm [] [(4, bD false), (5, iD v1.2.2)] [] rfl rfl) (Al ?_)
   exact ⟨⟨[_, _], ⟨.tmp _ _ rfl, tm⟩, rfl⟩, tv⟩
theorem Ly (N : Nat) (p0 : Ao) (r : ByteArray) (h : HT N p0 = some r) : Ak zA0 138 [.e (.agg (AR p0))] [] (pD (.val (.string r))) := by
 unfold HT at h
 refine cw (n := 53) (rs := [.tmp 2]) Tryz.func138 fun w0 S0 => ?_
 refine wq rfl (qb rfl (qa rfl (Aa (wq rfl (qf DZ rfl (ql Bx rfl (AD AC rfl (Iv rfl (qf EP rfl (ql JP rfl (AD E2 rfl (AE rfl ?_))))))))))))
 refine Il h fun c1 h => I3 (.p rfl) rfl rfl rfl LC Ur Sf (CH rfl) Uj rfl rfl rfl c1.1 c1.2.1 c1.2.2 (MZ EC _ ((0 : Int))) ?_
 refine qa rfl (Aa (wp rfl (qf DZ rfl (ql Bx rfl (AD AC rfl (qm rfl (Aa ?_)))))))
 refine Av (L := GB N p0) h (fun v2 => mk [(1, oD (.ptr 1 0)), (3, oD (.own 2001)), (18, iD ((p0.fe.length : Int))), (19, iD v2.2)] [(1, .box (AR p0)), (2001, .vec 1 (v2.1.map EC))]) (fun v3 => mk [(1, oD (.ptr 1 0)), (3, oD (.own 2002))] [(1, .box (AR p0)), (2002, .vec 1 (v3.map EC))]) (fun _ _ => rfl) (sm [(2001, 15)] _ _ rfl rfl) (fun j2 n2 v2 h => ?_) (fun v3 s h hs => ?_)
 ·unfold GB at h
  refine wq rfl (AN rfl (Aa (Ay ?_)))
  refine A0 h (fun h => ?_) fun h => ?_
  ·refine Ag (Ay (AA (wq rfl (qm rfl (qa rfl (Aa (Ad Ap rfl (qm rfl (qf DZ rfl (ql Bx rfl (qm rfl ?_)))))))))))
   refine A8 h fun v5 a5 b5 h => qi AC DS a5 (Ab b5) rfl (qk C2 rfl (GG Ry Ux rfl (qf Dn rfl (ql Bx rfl (qm rfl ?_)))))
   refine A8 h fun v6 a6 b6 h => qi AC DS a6 (Ab b6) rfl (qk C2 rfl (AE rfl (GG Ry Ux rfl (ED LC Ur Uj rfl ?_))))
   refine Il h fun c7 h => EQ (f := EC) LC LC Ur Sf Uj c7 rfl (qa rfl (AF (by kernel_rfl) (Ad Ap rfl (AE rfl (qm rfl (Aa ?_))))))
   exact sn [(2001, 37)] h
  ·refine AJ ?_
   exact sn [(2002, 2001)] h
 ·refine Ac hs (wp rfl (qf EP rfl (ql JP rfl (AD E2 rfl (qm rfl (Aa ?_))))))
  refine Av (L := Gt N p0) h (fun v8 => mk [(3, oD (.own 2003)), (40, pD (.sl (p0.ff.map EC))), (41, iD ((p0.ff.length : Int))), (42, iD v8.2)] [(2003, .vec 1 (v8.1.map EC))]) (fun v9 => mk [(3, oD (.own 2004))] [(2004, .vec 1 (v9.map EC))]) (fun _ _ => rfl) (sm [(2003, 2002)] _ _ rfl rfl) (fun j8 n8 v8 h => ?_) (fun v9 s h hs => ?_)
  ·unfold Gt at h
   refine wq rfl (AN rfl (Aa (Ay ?_)))
   refine A0 h (fun h => ?_) fun h => ?_
   ·refine Ag (Ay (AA (wq rfl ?_)))
    refine A8 h fun v11 a11 b11 h => qi E2 GN a11 (Ab b11) rfl (qk Kd rfl (qa rfl (Aa (Ad Ap rfl (qw 2 rfl (ED LC Ur Uj rfl ?_))))))
    refine Il h fun c12 h => EQ (f := EC) LC LC Ur Sf Uj c12 rfl (qa rfl (Aa (Ad Ap rfl (AE rfl (qm rfl (Aa ?_))))))
    exact sn [(2003, 49)] h
   ·refine AJ ?_
    exact sn [(2004, 2003)] h
  ·refine Ac hs (wq rfl (qm rfl ?_))
   refine Px v9 (.p rfl) rfl (Pv EC _ _ _) ⟨rfl, tv⟩ rfl SZ Nl ?_
   refine qa rfl (Aa ?_)
   obtain rfl := sj h
   refine Ac (sm [] [(2, pD (.val (.string ((HQ v9)))))] [] rfl rfl) (Al ?_)
   exact ⟨⟨[_], tm, rfl⟩, tv⟩
theorem Ok (N : Nat) (p0 : Ae) (r : (List Am)) (h : I7 N p0 = some r) : Ak zA0 125 [.e (.agg (Ai p0))] [(3, r.map Az)] (oD (.own 0)) := by
 unfold I7 at h
 refine cw (n := 54) (rs := [.tmp 2]) Tryz.func125 fun w0 S0 => ?_
 refine wq rfl (qb rfl (qa rfl (Aa (wq rfl (qa rfl (Aa (wp rfl (qf B4 rfl (ql Bx rfl (AD AC rfl (qm rfl (Aa ?_))))))))))))
 refine Av (L := GA N p0) h (fun v1 => mk [(1, oD (.ptr 1 0)), (3, oD (.own 2001)), (10, pD (.sl (p0.fa.map Aq))), (11, iD ((p0.fa.length : Int))), (12, iD v1.2)] [(1, .box (Ai p0)), (2001, .vec 3 (v1.1.map Az))]) (fun v2 => mk [(1, oD (.ptr 1 0)), (3, oD (.own 2002))] [(1, .box (Ai p0)), (2002, .vec 3 (v2.map Az))]) (fun _ _ => rfl) ((Bc 3 2005 3 rfl rfl rfl).trans (sm [(2001, 2005)] _ _ rfl rfl)) (fun j1 n1 v1 h => ?_) (fun v2 s h hs => ?_)
 ·unfold GA at h
  refine wq rfl (AN rfl (Aa (Ay ?_)))
  refine A0 h (fun h => ?_) fun h => ?_
  ·refine Ag (Ay (AA (wq rfl (qm rfl ?_))))
   refine A8 h fun v4 a4 b4 h => qi AC DS a4 (Ab b4) rfl (qk C2 rfl (qa rfl (qa rfl (Aa (wq rfl (qw 2 rfl (Aa ?_)))))))
   refine Av (L := Gy N v1 v4) h (fun v5 => mk [(1, oD (.ptr 1 0)), (3, oD (.own 2003)), (4, iD v1.2), (10, pD (.sl (p0.fa.map Aq))), (11, iD ((p0.fa.length : Int))), (12, iD v1.2), (17, iD v4), (18, iD v5.2)] [(1, .box (Ai p0)), (2003, .vec 3 (v5.1.map Az))]) (fun v6 => mk [(1, oD (.ptr 1 0)), (3, oD (.own 2004)), (10, pD (.sl (p0.fa.map Aq))), (11, iD ((p0.fa.length : Int))), (12, iD v1.2)] [(1, .box (Ai p0)), (2004, .vec 3 (v6.map Az))]) (fun _ _ => rfl) (sm [(2003, 2001)] _ _ rfl rfl) (fun j5 n5 v5 h => ?_) (fun v6 s h hs => ?_)
   ·unfold Gy at h
    refine wq rfl (AN rfl (Aa (Ay ?_)))
    refine A0 h (fun h => ?_) fun h => ?_
    ·refine Ag (Ay (AA (wq rfl (qm rfl (qa rfl (Aa (Ad Ap rfl (qw 3 rfl (CD JT Si rfl (ED D3 Eh JT rfl ?_))))))))))
     refine Il h fun c8 h => EQ (f := Az) D3 D3 Eh OJ JT c8 rfl (qa rfl (Aa (Ad Ap rfl (AE rfl (qm rfl (Aa ?_))))))
     exact sn [(2003, 26)] h
    ·refine AJ ?_
     exact sn [(2004, 2003)] h
   ·refine Ac hs (Ad Ap rfl (AE rfl (qm rfl (Aa ?_))))
    exact sn [(2001, 2004)] h
  ·refine AJ ?_
   exact sn [(2002, 2001)] h
 ·refine Ac hs (wp rfl (qf B4 rfl (ql Bx rfl (AD AC rfl (qm rfl (Aa ?_))))))
  refine Av (L := Gn N p0) h (fun v9 => mk [(1, oD (.ptr 1 0)), (3, oD (.own 2006)), (31, iD ((p0.fa.length : Int))), (32, iD v9.2)] [(1, .box (Ai p0)), (2006, .vec 3 (v9.1.map Az))]) (fun v10 => mk [(1, oD (.ptr 1 0)), (3, oD (.own 2007))] [(1, .box (Ai p0)), (2007, .vec 3 (v10.map Az))]) (fun _ _ => rfl) (sm [(2006, 2002)] _ _ rfl rfl) (fun j9 n9 v9 h => ?_) (fun v10 s h hs => ?_)
  ·unfold Gn at h
   refine wq rfl (AN rfl (Aa (Ay ?_)))
   refine A0 h (fun h => ?_) fun h => ?_
   ·refine Ag (Ay (AA (wq rfl (qm rfl (qa rfl (Aa (Ad Ap rfl (qw 2 rfl (CD JT Si rfl (ED D3 Eh JT rfl ?_))))))))))
    refine Il h fun c12 h => EQ (f := Az) D3 D3 Eh OJ JT c12 rfl (qa rfl (Aa (Ad Ap rfl (AE rfl (qm rfl (Aa ?_))))))
    exact sn [(2006, 39)] h
   ·refine AJ ?_
    exact sn [(2007, 2006)] h
  ·refine Ac hs (wp rfl (qf CC rfl (ql Hr rfl (AD Dv rfl (qm rfl (Aa ?_))))))
   refine Av (L := FQ N p0) h (fun v13 => mk [(3, oD (.own 2008)), (43, iD ((p0.fb.length : Int))), (44, iD v13.2)] [(2008, .vec 3 (v13.1.map Az))]) (fun v14 => mk [(3, oD (.own 2009))] [(2009, .vec 3 (v14.map Az))]) (fun _ _ => rfl) (sm [(2008, 2007)] _ _ rfl rfl) (fun j13 n13 v13 h => ?_) (fun v14 s h hs => ?_)
   ·unfold FQ at h
    refine wq rfl (AN rfl (Aa (Ay ?_)))
    refine A0 h (fun h => ?_) fun h => ?_
    ·refine Ag (Ay (AA (wq rfl (qm rfl (qa rfl (Aa (Ad Ap rfl (qw 2 rfl (CD JT Si rfl (ED D3 Eh JT rfl ?_))))))))))
     refine Il h fun c16 h => EQ (f := Az) D3 D3 Eh OJ JT c16 rfl (qa rfl (Aa (Ad Ap rfl (AE rfl (qm rfl (Aa ?_))))))
     exact sn [(2008, 51)] h
    ·refine AJ ?_
     exact sn [(2009, 2008)] h
   ·refine Ac hs (wq rfl (qm rfl (qe rfl ?_)))
    obtain rfl := sj h
    refine Ac (sm [(1000, 2009)] [(2, oD (.own 1000))] [(1000, .vec 3 (v14.map Az))] rfl rfl) (Al ?_)
    exact ⟨⟨[_], tm, rfl⟩, ⟨rfl, tv⟩⟩
theorem L7 (N : Nat) (p0 : Ao) (r : Ao) (h : Hy N p0 = some r) : Ak zA0 159 [.e (.agg (AR p0))] [(1, r.fe.map Aq), (1, r.fc.map Aq), (1, r.ff.map EC)] (.e (.agg [.own 0, .own 1, .own 2])) := by
 unfold Hy at h
 refine cw (n := 13) (rs := [.cell 2 49]) Tryz.func159 fun w0 S0 => ?_
 refine wq rfl (qb rfl (qz F1 rfl (Aa (wq rfl (qf DZ rfl (ql Bx rfl ?_))))))
 refine Bg h fun v1 a1 h => As [2001] (CZ N p0.fe v1 a1) PC rfl (qf Dn rfl (ql Bx rfl ?_))
 refine Bg h fun v2 a2 h => As [2002] (CZ N p0.fc v2 a2) PC rfl (qf EP rfl (ql JP rfl ?_))
 refine Bg h fun v3 a3 h => As [2003] (Ey N p0.ff v3 a3) Rz rfl (CD F1 L0 rfl (qs Bh rfl (AF (by kernel_rfl) ?_)))
 obtain rfl := sj h
 refine Ac (sm [(1000, 2001), (1001, 2002), (1002, 2003)] [(2, oD (.ptr 2 0))] [(2, .box [.own 1000, .own 1001, .own 1002]), (1000, .vec 1 (v1.map Aq)), (1001, .vec 1 (v2.map Aq)), (1002, .vec 1 (v3.map EC))] rfl rfl) (Al ?_)
 exact ⟨⟨[_], ⟨.cellN _ _ _ _ _ _ _ rfl rfl Co Bh rfl rfl (K2 rfl), tv⟩, rfl⟩, ⟨rfl, rfl, rfl, tv⟩⟩
theorem JK (N : Nat) (p0 : Aw) (r : Bool) (h : Gv N p0 = some r) : Ak zA0 176 [.e (.agg (BH p0))] [] (bD r) := by
 unfold Gv at h
 refine cw (n := 11) (rs := [.tmp 2]) Tryz.func176 fun w0 S0 => ?_
 refine wq rfl (qb rfl (qe rfl ?_))
 refine AG h (fun v1 => mk [(2, bD v1)] []) (fun j1 h => ?_) (fun v1 h => ?_)
 ·refine Ad Ap rfl (qf zFS rfl (ql C2 rfl (BW rfl (qm rfl ?_))))
  refine DE 6 h rfl (fun h => ?_) fun h => ?_
  ·refine qw 3 rfl (qp rfl (qe rfl ?_))
   exact sn [] h
  ·refine qf zFS rfl (ql C2 rfl (BW rfl (qp rfl (qe rfl ?_))))
   exact sn [] h
 ·obtain rfl := sj h
  refine Ac (sm [] [(2, bD v1)] [] rfl rfl) (Al ?_)
  exact ⟨⟨[_], tm, rfl⟩, tv⟩
theorem M1 (N : Nat) (p0 : Ae) (p1 : Ao) (p2 : Am) (r : Bool × (List Int) × (List Int)) (h : Ic N p0 p1 p2 = some r) : Bi zA0 160 [.e (.agg (Ai p0)), oD (.ptr 90000 0), .e (.agg (D9 p2))] [(.box [.own 90001, .own 90002, .own 90003], .box [.own 90001, .own 90002, .own 90003]), (.vec 1 (p1.fe.map Aq), .vec 1 (p1.fe.map Aq)), (.vec 1 (p1.fc.map Aq), .vec 1 (r.2.1.map Aq)), (.vec 1 (p1.ff.map EC), .vec 1 (r.2.2.map EC))] [] (bD r.1) := by
 unfold Ic at h
 refine A3 (n := 70) (rs := [.tmp 6]) Tryz.func160 rfl rfl rfl (CH rfl) (CH rfl) rfl rfl (CH rfl) rfl (CH rfl) fun w0 S0 GL => ?_
 refine Ac (sm [] [(0, .e (.agg (Ai p0))), (1, oD (.ptr 90000 0)), (2, .e (.agg (D9 p2)))] [(90000, .box [.own 90001, .own 90002, .own 90003]), (90001, .vec 1 (p1.fe.map Aq)), (90002, .vec 1 (p1.fc.map Aq)), (90003, .vec 1 (p1.ff.map EC))] rfl rfl) (wq rfl (qb rfl (qb rfl (qa rfl (Aa (Ay ?_))))))
 refine AG h (fun v1 => mk [(1, oD (.ptr 90000 0)), (3, oD (.ptr 3 0)), (5, oD (.ptr 5 0)), (30, bD v1)] [(3, .box (Ai p0)), (5, .box (D9 p2)), (90000, .box [.own 90001, .own 90002, .own 90003]), (90001, .vec 1 (p1.fe.map Aq)), (90002, .vec 1 (p1.fc.map Aq)), (90003, .vec 1 (p1.ff.map EC))]) (fun j1 h => ?_) (fun v1 h => ?_)
 ·refine Ad Ap rfl (qm rfl (L3 rfl (qf Dn rfl (ql Bx rfl (qf FP rfl (ql C2 rfl ?_))))))
  refine A8 h fun v2 a2 b2 h => qI AC DS a2 (Ab b2) rfl (qj C2 (Ab b2) rfl (CT rfl (qm rfl ?_)))
  refine DE 18 h rfl (fun h => ?_) fun h => ?_
  ·refine qw 11 rfl (qp rfl (AF (by kernel_rfl) ?_))
   exact sn [] h
  ·refine qm rfl (L3 rfl (qf DZ rfl (ql Bx rfl (qf FP rfl (ql C2 rfl ?_)))))
   refine A8 h fun v4 a4 b4 h => qI AC DS a4 (Ab b4) rfl (qj C2 (Ab b4) rfl (qf JC rfl (ql C2 rfl (BW rfl (qp rfl (AF (by kernel_rfl) ?_))))))
   exact sn [] h
 ·refine A0 h (fun h => ?_) fun h => ?_
  ·refine wq rfl (qe rfl ?_)
   obtain rfl := sj h
   refine Ac (sm [] [(6, bD false)] [(90000, .box [.own 90001, .own 90002, .own 90003]), (90001, .vec 1 (p1.fe.map Aq)), (90002, .vec 1 (p1.fc.map Aq)), (90003, .vec 1 (p1.ff.map EC))] rfl rfl) (Al ?_)
   exact ⟨⟨[_], tm, rfl⟩, ⟨rfl, rfl, rfl, rfl, tv⟩, tv⟩
  ·refine Ag (wq rfl (qm rfl (L3 rfl (qf Dn rfl (ql Bx rfl (qf FP rfl (ql C2 rfl (qf JC rfl (ql C2 rfl ?_)))))))))
   refine A8 h fun v6 a6 b6 h => qI AC DS a6 (Ab b6) rfl ?_
   refine AV rfl rfl rfl rfl (Ab b6) rfl DS rfl (CH rfl) (AT Aq p1.fc _ p2.fr) ?_
   refine AF (by kernel_rfl) (wp rfl (qf CC rfl (ql Hr rfl (AD Dv rfl (qm rfl (Aa ?_))))))
   refine Av (L := Fs N p0 p2) h (fun v7 => mk [(1, oD (.ptr 90000 0)), (5, oD (.ptr 5 0)), (41, pD (.sl (p0.fb.map AO))), (42, iD ((p0.fb.length : Int))), (43, iD v7.2)] [(5, .box (D9 p2)), (90000, .box [.own 90001, .own 90002, .own 90003]), (90001, .vec 1 (p1.fe.map Aq)), (90002, .vec 1 ((p1.fc.set ((p2.fm).toNat) p2.fr).map Aq)), (90003, .vec 1 (v7.1.map EC))]) (fun v8 => mk [] [(90000, .box [.own 90001, .own 90002, .own 90003]), (90001, .vec 1 (p1.fe.map Aq)), (90002, .vec 1 ((p1.fc.set ((p2.fm).toNat) p2.fr).map Aq)), (90003, .vec 1 (v8.map EC))]) (fun _ _ => rfl) (sm [] _ _ rfl rfl) (fun j7 n7 v7 h => ?_) (fun v8 s h hs => ?_)
   ·unfold Fs at h
    refine wq rfl (AN rfl (Aa (Ay ?_)))
    refine A0 h (fun h => ?_) fun h => ?_
    ·refine Ag ?_
     refine AG h (fun v10 => mk [(1, oD (.ptr 90000 0)), (5, oD (.ptr 5 0)), (41, pD (.sl (p0.fb.map AO))), (42, iD ((p0.fb.length : Int))), (43, iD v7.2)] [(5, .box (D9 p2)), (90000, .box [.own 90001, .own 90002, .own 90003]), (90001, .vec 1 (p1.fe.map Aq)), (90002, .vec 1 ((p1.fc.set ((p2.fm).toNat) p2.fr).map Aq)), (90003, .vec 1 (v10.map EC))]) (fun j10 h => ?_) (fun v10 h => ?_)
     ·refine AA (wq rfl (qm rfl ?_))
      refine A8 h fun v11 a11 b11 h => qi Dv DT a11 (Ab b11) rfl (qK Iq DT rfl (qz KA rfl (qa rfl (qs DT rfl (Aa ?_)))))
      refine AG h (fun v12 => mk [(1, oD (.ptr 90000 0)), (5, oD (.ptr 5 0)), (7, iD v7.2), (41, pD (.sl (p0.fb.map AO))), (42, iD ((p0.fb.length : Int))), (43, iD v7.2), (56, bD v12)] [(5, .box (D9 p2)), (90000, .box [.own 90001, .own 90002, .own 90003]), (90001, .vec 1 (p1.fe.map Aq)), (90002, .vec 1 ((p1.fc.set ((p2.fm).toNat) p2.fr).map Aq)), (90003, .vec 1 (v7.1.map EC))]) (fun j12 h => ?_) (fun v12 h => ?_)
      ·refine Ad Ap rfl (qf Es rfl (ql C2 rfl (qf FP rfl (ql C2 rfl (BW rfl (qm rfl ?_))))))
       refine DE 53 h rfl (fun h => ?_) fun h => ?_
       ·refine qL Iq DT rfl ?_
        refine Bg h fun v14 a14 h => As [] (JK N v11 v14 a14) RM rfl (qp rfl (Aa ?_))
        exact sn [] h
       ·refine qw 2 rfl (qp rfl (Aa ?_))
        exact sn [] h
      ·refine A0 h (fun h => ?_) fun h => ?_
       ·refine Ad Ap rfl (qm rfl (L3 rfl (qf EP rfl (ql JP rfl (qm rfl ?_)))))
        refine A8 h fun v16 a16 b16 h => qI E2 GN a16 (Ab b16) rfl (qj Kd (Ab b16) rfl (qf JC rfl (ql C2 rfl ?_)))
        refine Il h fun c17 h => IT rfl c17 (Qz rfl ?_)
        refine A8 h fun v18 a18 b18 h => qI E2 GN a18 (Ab b18) rfl ?_
        refine AV rfl rfl rfl rfl (Ab b18) rfl GN rfl (CH rfl) (AT EC v7.1 _ ((Qw .u8 v16 ((DJ .u8 1 p2.fr))))) ?_
        refine AF (by kernel_rfl) ?_
        exact sn [] h
       ·refine Ag ?_
        exact sn [] h
     ·refine Ad Ap rfl (AE rfl (qm rfl (Aa ?_)))
      exact sn [] h
    ·refine AJ ?_
     exact sn [] h
   ·refine Ac hs (wq rfl (qe rfl ?_))
    obtain rfl := sj h
    refine Ac (sm [] [(6, bD true)] [(90000, .box [.own 90001, .own 90002, .own 90003]), (90001, .vec 1 (p1.fe.map Aq)), (90002, .vec 1 ((p1.fc.set ((p2.fm).toNat) p2.fr).map Aq)), (90003, .vec 1 (v8.map EC))] rfl rfl) (Al ?_)
    exact ⟨⟨[_], tm, rfl⟩, ⟨rfl, rfl, rfl, rfl, tv⟩, tv⟩
theorem Lg (N : Nat) (p0 : Ao) (p1 : Int) (r : Int) (h : Hg N p0 p1 = some r) : Ak zA0 177 [.e (.agg (AR p0)), iD p1] [] (pD (.val (.int .u8 r))) := by
 unfold Hg at h
 refine cw (n := 27) (rs := [.tmp 4]) Tryz.func177 fun w0 S0 => ?_
 refine wq rfl (qb rfl (qa rfl (Aa (wq rfl (qf DZ rfl (ql Bx rfl (qm rfl ?_)))))))
 refine A8 h fun v1 a1 b1 h => qi AC DS a1 (Ab b1) rfl (qk C2 rfl ?_)
 refine Il h fun c2 h => IT rfl c2 (qe rfl ?_)
 refine AG h (fun v3 => mk [(5, pD (.val (.int .u8 v3)))] []) (fun j3 h => ?_) (fun v3 h => ?_)
 ·refine wq rfl (qf Dn rfl (ql Bx rfl (qm rfl ?_)))
  refine A8 h fun v4 a4 b4 h => qi AC DS a4 (Ab b4) rfl (qk C2 rfl (CT rfl (Aa ?_)))
  refine A0 h (fun h => ?_) fun h => ?_
  ·refine Ad Ap rfl (qm rfl (qf Dn rfl (ql Bx rfl (qm rfl ?_))))
   refine A8 h fun v6 a6 b6 h => qi AC DS a6 (Ab b6) rfl (qk C2 rfl ?_)
   refine Il h fun c7 h => IT rfl c7 (Qz rfl (qe rfl ?_))
   exact sn [] h
  ·refine Ag ?_
   exact sn [] h
 ·refine wq rfl (qm rfl (qe rfl ?_))
  obtain rfl := sj h
  refine Ac (sm [] [(4, pD (.val (.int .u8 v3)))] [] rfl rfl) (Al ?_)
  exact ⟨⟨[_], tm, rfl⟩, tv⟩
theorem HK (N : Nat) (p0 : Int) (r : Int) (h : DA N p0 = some r) : Ak zA0 180 [pD (.val (.int .u8 p0))] [] (iD r) := by
 unfold DA at h
 refine cw (n := 6) (rs := [.tmp 2]) Tryz.func180 fun w0 S0 => ?_
 refine wq rfl (qa rfl (Aa (wq rfl (qm rfl ?_))))
 refine Bg h fun v1 a1 h => GS (.p rfl) rfl rfl Nl a1 ?_
 refine GG Uw RA rfl (qe rfl ?_)
 obtain rfl := sj h
 refine Ac (sm [] [(2, iD ((wI .i64 v1)))] [] rfl rfl) (Al ?_)
 exact ⟨⟨[_], tm, rfl⟩, tv⟩
theorem J9 (N : Nat) (p0 : Aw) (p1 : Int) (p2 : Int) (r : Bool) (h : F7 N p0 p1 p2 = some r) : Ak zA0 178 [.e (.agg (BH p0)), pD (.val (.int .u8 p1)), iD p2] [] (bD r) := by
 unfold F7 at h
 refine cw (n := 25) (rs := [.tmp 6]) Tryz.func178 fun w0 S0 => ?_
 refine wq rfl (qb rfl (qa rfl (Aa (wp rfl (qm rfl (qe rfl ?_))))))
 refine Av (L := DP N p0 p2) h (fun v1 => mk [(2, iD p2), (3, oD (.ptr 3 0)), (7, pD (.val (.int .u8 v1)))] [(3, .box (BH p0))]) (fun v2 => mk [] []) (fun _ _ => rfl) (sm [] _ _ rfl rfl) (fun j1 n1 v1 h => ?_) (fun v2 s h hs => ?_)
 ·unfold DP at h
  refine wp rfl (qm rfl (BJ rfl (Aa ?_)))
  refine A0 h (fun h => ?_) fun h => ?_
  ·refine Ag (Ay (AA (wq rfl (qf DN rfl (ql GF rfl (qm rfl ?_))))))
   refine Bg h fun v4 a4 h => As [] (HK N v1 v4 a4) TY rfl ?_
   refine A8 h fun v5 a5 b5 h => qi DD I8 a5 (Ab b5) rfl (qk L4 rfl (qm rfl ?_))
   refine A8 h fun v6 a6 b6 h => qi GK Qu a6 (Ab b6) rfl (qk QC rfl (BN rfl (AF (by kernel_rfl) ?_)))
   refine A0 h (fun h => ?_) fun h => ?_
   ·refine wq rfl (qe rfl ?_)
    obtain rfl := sj h
    refine Ac (sm [] [(6, bD false)] [] rfl rfl) (Al ?_)
    exact ⟨⟨[_], tm, rfl⟩, tv⟩
   ·refine Ag (Ad Ap rfl (qw 2 rfl (BP rfl (GJ rfl (qe rfl ?_)))))
    exact sn [] h
  ·refine AJ ?_
   exact sn [] h
 ·refine Ac hs (wq rfl (qe rfl ?_))
  obtain rfl := sj h
  refine Ac (sm [] [(6, bD true)] [] rfl rfl) (Al ?_)
  exact ⟨⟨[_], tm, rfl⟩, tv⟩
theorem M8 (N : Nat) (p0 : Ae) (p1 : Ao) (p2 : Int) (r : Bool × (List Int)) (h : H9 N p0 p1 p2 = some r) : Bi zA0 161 [.e (.agg (Ai p0)), oD (.ptr 90000 0), iD p2] [(.box [.own 90001, .own 90002, .own 90003], .box [.own 90001, .own 90002, .own 90003]), (.vec 1 (p1.fe.map Aq), .vec 1 (p1.fe.map Aq)), (.vec 1 (p1.fc.map Aq), .vec 1 (p1.fc.map Aq)), (.vec 1 (p1.ff.map EC), .vec 1 (r.2.map EC))] [] (bD r.1) := by
 unfold H9 at h
 refine A3 (n := 68) (rs := [.tmp 6]) Tryz.func161 rfl rfl rfl (CH rfl) (CH rfl) rfl rfl (CH rfl) rfl (CH rfl) fun w0 S0 GL => ?_
 refine Ac (sm [] [(0, .e (.agg (Ai p0))), (1, oD (.ptr 90000 0)), (2, iD p2)] [(90000, .box [.own 90001, .own 90002, .own 90003]), (90001, .vec 1 (p1.fe.map Aq)), (90002, .vec 1 (p1.fc.map Aq)), (90003, .vec 1 (p1.ff.map EC))] rfl rfl) (wq rfl (qb rfl (qa rfl (Aa (wq rfl (qf CC rfl (ql Hr rfl (qm rfl ?_))))))))
 refine A8 h fun v1 a1 b1 h => qi Dv DT a1 (Ab b1) rfl (qK Iq DT rfl (qz KA rfl (qs DT rfl (Aa (wp rfl (qL Iq DT rfl ?_))))))
 refine Bg h fun v2 a2 h => As [] (JK N v1 v2 a2) RM rfl (BN rfl (Aa ?_))
 refine A0 h (fun h => ?_) fun h => ?_
 ·refine wq rfl (qe rfl ?_)
  obtain rfl := sj h
  refine Ac (sm [] [(6, bD false)] [(90000, .box [.own 90001, .own 90002, .own 90003]), (90001, .vec 1 (p1.fe.map Aq)), (90002, .vec 1 (p1.fc.map Aq)), (90003, .vec 1 (p1.ff.map EC))] rfl rfl) (Al ?_)
  exact ⟨⟨[_], tm, rfl⟩, ⟨rfl, rfl, rfl, rfl, tv⟩, tv⟩
 ·refine Ag (wq rfl (qm rfl (L3 rfl (qL Co Bh rfl (qf Es rfl (ql C2 rfl ?_))))))
  refine Bg h fun v4 a4 h => CX [] [90001, 90002, 90003] (Lg N p1 v1.fg v4 a4) Tz BO rfl (qa rfl (AF (by kernel_rfl) (wq rfl (qm rfl (L3 rfl (qf EP rfl (ql JP rfl (qm rfl ?_))))))))
  refine A8 h fun v5 a5 b5 h => qI E2 GN a5 (Ab b5) rfl (qj Kd (Ab b5) rfl (qm rfl (Jk rfl (qa rfl (Aa (Ay ?_))))))
  refine AG h (fun v6 => mk [(1, oD (.ptr 90000 0)), (2, iD p2), (8, pD (.val (.int .u8 v4))), (60, bD v6)] [(90000, .box [.own 90001, .own 90002, .own 90003]), (90001, .vec 1 (p1.fe.map Aq)), (90002, .vec 1 (p1.fc.map Aq)), (90003, .vec 1 (p1.ff.map EC))]) (fun j6 h => ?_) (fun v6 h => ?_)
  ·refine Ad Ap rfl (qm rfl (L3 rfl (qf EP rfl (ql JP rfl (qm rfl ?_)))))
   refine A8 h fun v7 a7 b7 h => qI E2 GN a7 (Ab b7) rfl (qj Kd (Ab b7) rfl (qm rfl (BW rfl (qm rfl ?_))))
   refine DE 42 h rfl (fun h => ?_) fun h => ?_
   ·refine qw 4 rfl (qu rfl (qu rfl (qu rfl (qu rfl (qu rfl (qu rfl (qu rfl (qu rfl (qu rfl (qu rfl (qu rfl (qu rfl (qn rfl (qp rfl (AF (by kernel_rfl) ?_)))))))))))))))
    exact sn [] h
   ·refine qf zFS rfl (ql C2 rfl (BW rfl (qm rfl ?_)))
    refine DE 46 h rfl (fun h => ?_) fun h => ?_
    ·refine qL Iq DT rfl (qw 2 rfl (L3 rfl (qf DZ rfl (ql Bx rfl (qf Es rfl (ql C2 rfl ?_))))))
     refine A8 h fun v10 a10 b10 h => qI AC DS a10 (Ab b10) rfl (qj C2 (Ab b10) rfl ?_)
     refine Bg h fun v11 a11 h => As [] (J9 N v1 ((GV .u8 v5 v4)) v10 v11 a11) T8 rfl (BN rfl (qp rfl (qp rfl (AF (by kernel_rfl) ?_))))
     exact sn [] h
    ·refine qw 12 rfl (qp rfl (qp rfl (AF (by kernel_rfl) ?_)))
     exact sn [] h
  ·refine A0 h (fun h => ?_) fun h => ?_
   ·refine wq rfl (qe rfl ?_)
    obtain rfl := sj h
    refine Ac (sm [] [(6, bD false)] [(90000, .box [.own 90001, .own 90002, .own 90003]), (90001, .vec 1 (p1.fe.map Aq)), (90002, .vec 1 (p1.fc.map Aq)), (90003, .vec 1 (p1.ff.map EC))] rfl rfl) (Al ?_)
    exact ⟨⟨[_], tm, rfl⟩, ⟨rfl, rfl, rfl, rfl, tv⟩, tv⟩
   ·refine Ag (wq rfl (qm rfl (L3 rfl (qf EP rfl (ql JP rfl (qw 2 rfl ?_))))))
    refine A8 h fun v13 a13 b13 h => qI E2 GN a13 (Ab b13) rfl ?_
    refine AV rfl rfl rfl rfl (Ab b13) rfl GN rfl (CH rfl) (AT EC p1.ff _ v4) ?_
    refine Aa (wq rfl (qe rfl ?_))
    obtain rfl := sj h
    refine Ac (sm [] [(6, bD true)] [(90000, .box [.own 90001, .own 90002, .own 90003]), (90001, .vec 1 (p1.fe.map Aq)), (90002, .vec 1 (p1.fc.map Aq)), (90003, .vec 1 ((p1.ff.set ((p2).toNat) v4).map EC))] rfl rfl) (Al ?_)
    exact ⟨⟨[_], tm, rfl⟩, ⟨rfl, rfl, rfl, rfl, tv⟩, tv⟩
theorem J1 (N : Nat) (p0 : Ae) (p1 : Ao) (p2 : Am) (r : Ao × Bool) (h : G6 N p0 p1 p2 = some r) : Ak zA0 127 [.e (.agg (Ai p0)), .e (.agg (AR p1)), .e (.agg (D9 p2))] [(1, r.1.fe.map Aq), (1, r.1.fc.map Aq), (1, r.1.ff.map EC)] (.tup [.agg [.own 0, .own 1, .own 2], .one (.pure (.val (.bool r.2)))]) := by
 unfold G6 at h
 refine cw (n := 51) (rs := [.cell 6 49, .tmp 7]) Tryz.func127 fun w0 S0 => ?_
 refine wq rfl (qb rfl (qb rfl (qb rfl (qz F1 rfl (qa rfl (Aa (wq rfl (qL Co Bh rfl ?_))))))))
 refine Bg h fun v1 a1 h => As [2001, 2002, 2003] (L7 N p1 v1 a1) Tp rfl (qz F1 rfl (qs Bh rfl (Aa (wp rfl (qf Iy rfl (ql C2 rfl (Aa (AA (wq rfl (BW rfl (qe rfl ?_)))))))))))
 refine A0 h (fun h => ?_) fun h => ?_
 ·refine wq rfl (qL Co Bh rfl (qL CS Cq rfl (qL I1 Eh rfl ?_)))
  refine Bg h fun v3 a3 h => Cl (ds0 := [_, _, _]) [8, 2001, 2002, 2003] [] [false, false, true, true] (M1 N p0 v1 p2 v3 a3) (.p rfl) SS rfl ⟨rfl, rfl, rfl, tv⟩ rfl rfl (by decide) ⟨rfl, rfl, rfl, rfl, tv⟩ rfl (AU rfl) tv ⟨(fun _ => rfl), (fun _ => rfl), (fun h => by cases h), (fun h => by cases h), tv⟩ rfl rfl rfl ?_
  refine qs Bh rfl (qa rfl (AF (by kernel_rfl) ?_))
  obtain rfl := sj h
  refine Ac (sm [(1000, 2001), (1001, 2002), (1002, 2003)] [(6, oD (.ptr 6 0)), (7, bD v3.1)] [(6, .box [.own 1000, .own 1001, .own 1002]), (1000, .vec 1 (v1.fe.map Aq)), (1001, .vec 1 (v3.2.1.map Aq)), (1002, .vec 1 (v3.2.2.map EC))] rfl rfl) (Al ?_)
  exact ⟨⟨[_, _], ⟨.cellN _ _ _ _ _ _ _ rfl rfl Co Bh rfl rfl (K2 rfl), tm⟩, rfl⟩, ⟨rfl, rfl, rfl, tv⟩⟩
 ·refine wq rfl (BW rfl (qe rfl ?_))
  refine A0 h (fun h => ?_) fun h => ?_
  ·refine wq rfl (qL Co Bh rfl (qL CS Cq rfl (qf FP rfl (ql C2 rfl ?_))))
   refine Bg h fun v5 a5 h => Cl (ds0 := [_, _, _]) [8, 2001, 2002, 2003] [] [false, false, false, true] (M8 N p0 v1 p2.fm v5 a5) (.p rfl) Ud rfl ⟨rfl, rfl, rfl, tv⟩ rfl rfl (by decide) ⟨rfl, rfl, rfl, rfl, tv⟩ rfl (AU rfl) tv ⟨(fun _ => rfl), (fun _ => rfl), (fun _ => rfl), (fun h => by cases h), tv⟩ rfl rfl rfl ?_
   refine qs Bh rfl (qa rfl (AF (by kernel_rfl) ?_))
   obtain rfl := sj h
   refine Ac (sm [(1000, 2001), (1001, 2002), (1002, 2003)] [(6, oD (.ptr 6 0)), (7, bD v5.1)] [(6, .box [.own 1000, .own 1001, .own 1002]), (1000, .vec 1 (v1.fe.map Aq)), (1001, .vec 1 (v1.fc.map Aq)), (1002, .vec 1 (v5.2.map EC))] rfl rfl) (Al ?_)
   exact ⟨⟨[_, _], ⟨.cellN _ _ _ _ _ _ _ rfl rfl Co Bh rfl rfl (K2 rfl), tm⟩, rfl⟩, ⟨rfl, rfl, rfl, tv⟩⟩
  ·refine Ag (wq rfl (qf Dn rfl (ql Bx rfl (qf FP rfl (ql C2 rfl ?_)))))
   refine A8 h fun v6 a6 b6 h => qI AC DS a6 (Ab b6) rfl (qj C2 (Ab b6) rfl (qa rfl (Aa (wp rfl (qm rfl (AN rfl (Aa ?_)))))))
   refine A0 h (fun h => ?_) fun h => ?_
   ·refine wq rfl (qL Co Bh rfl (qs Bh rfl (qe rfl ?_)))
    obtain rfl := sj h
    refine Ac (sm [(1000, 2001), (1001, 2002), (1002, 2003)] [(6, oD (.ptr 6 0)), (7, bD false)] [(6, .box [.own 1000, .own 1001, .own 1002]), (1000, .vec 1 (v1.fe.map Aq)), (1001, .vec 1 (v1.fc.map Aq)), (1002, .vec 1 (v1.ff.map EC))] rfl rfl) (Al ?_)
    exact ⟨⟨[_, _], ⟨.cellN _ _ _ _ _ _ _ rfl rfl Co Bh rfl rfl (K2 rfl), tm⟩, rfl⟩, ⟨rfl, rfl, rfl, tv⟩⟩
   ·refine Ag (wq rfl (qf Dn rfl (ql Bx rfl (qf FP rfl (ql C2 rfl ?_)))))
    refine A8 h fun v8 a8 b8 h => qI AC DS a8 (Ab b8) rfl ?_
    refine AV rfl rfl rfl rfl (Ab b8) rfl DS rfl (CH rfl) (AT Aq v1.fc _ ((-1))) ?_
    refine Aa ?_
    refine AG h (fun v9 => mk [(6, oD (.ptr 6 0)), (8, oD (.ptr 8 0))] [(6, .box [.pure (.nil0), .pure (.nil0), .pure (.nil0)]), (8, .box [.own 2004, .own 2005, .own 2006]), (2004, .vec 1 (v9.map Aq)), (2005, .vec 1 ((v1.fc.set ((p2.fm).toNat) ((-1))).map Aq)), (2006, .vec 1 (v1.ff.map EC))]) (fun j9 h => ?_) (fun v9 h => ?_)
    ·refine wq rfl (qf Iy rfl (ql C2 rfl (BW rfl (Aa ?_))))
     refine A0 h (fun h => ?_) fun h => ?_
     ·refine Ad Ap rfl (qf DZ rfl (ql Bx rfl (qf FP rfl (ql C2 rfl (qm rfl ?_)))))
      refine A8 h fun v11 a11 b11 h => qI AC DS a11 (Ab b11) rfl ?_
      refine AV rfl rfl rfl rfl (Ab b11) rfl DS rfl (CH rfl) (AT Aq v1.fe _ v6) ?_
      refine Aa ?_
      exact sn [(2004, 2001), (2005, 2002), (2006, 2003)] h
     ·refine Ag ?_
      exact sn [(2004, 2001), (2005, 2002), (2006, 2003)] h
    ·refine wq rfl (qL Co Bh rfl (qs Bh rfl (qe rfl ?_)))
     obtain rfl := sj h
     refine Ac (sm [(1000, 2004), (1001, 2005), (1002, 2006)] [(6, oD (.ptr 6 0)), (7, bD true)] [(6, .box [.own 1000, .own 1001, .own 1002]), (1000, .vec 1 (v9.map Aq)), (1001, .vec 1 ((v1.fc.set ((p2.fm).toNat) ((-1))).map Aq)), (1002, .vec 1 (v1.ff.map EC))] rfl rfl) (Al ?_)
     exact ⟨⟨[_, _], ⟨.cellN _ _ _ _ _ _ _ rfl rfl Co Bh rfl rfl (K2 rfl), tm⟩, rfl⟩, ⟨rfl, rfl, rfl, tv⟩⟩
theorem KJ (N : Nat) (p0 : Am) (p1 : List Int) (p2 : List Int) (p3 : List Int) (p4 : List Aw) (p5 : List Int) (p6 : List Int) (p7 : List Int) (r : Bool) (h : D2 N p0 p1 p2 p3 p4 p5 p6 p7 = some r) : Ak zA0 126 [.e (.agg (D9 p0)), oD (.rop [.sl (p1.map Aq), .sl (p2.map Aq), .sl (p3.map Aq), .sl (p4.map AO)]), oD (.rop [.sl (p5.map Aq), .sl (p6.map Aq), .sl (p7.map EC)])] [] (bD r) := by
 unfold D2 at h
 refine cw (n := 16) (rs := [.tmp 4]) Tryz.func126 fun w0 S0 => ?_
 refine wq rfl (qb rfl (qa rfl (Aa (wq rfl (qK CS Cq rfl (qK Co Bh rfl (qL I1 Eh rfl ?_)))))))
 refine Bg h fun v1 a1 h => As [2001, 2002, 2003] (J1 N ((Ae.mk p1 p2 p3 p4)) ((Ao.mk p5 p6 p7)) p0 v1 a1) Rt rfl (qm rfl (qx rfl (qx rfl (qz F1 rfl (qs Bh rfl (qa rfl (Aa (wq rfl (qm rfl (BN rfl (qe rfl ?_)))))))))))
 obtain rfl := sj h
 refine Ac (sm [] [(4, bD ((!v1.2)))] [] rfl rfl) (Al ?_)
 exact ⟨⟨[_], tm, rfl⟩, tv⟩
theorem FB (N : Nat) (p0 : List Am) (p1 : Am → Option Bool) (r : Int) (h : Cj N p0 p1 = some r) : Ak zA0 158 [pD (.sl (p0.map Az)), oD (.clo (A9 (I0 true Az) tB p1))] [] (iD r) := by
 unfold Cj at h
 refine cw (n := 19) (rs := [.tmp 4]) Tryz.func158 fun w0 S0 => ?_
 refine wq rfl (qa rfl (Aa (wp rfl (qm rfl (AD D3 rfl (qm rfl (Aa ?_)))))))
 refine Av (L := Bu N p0 p1) h (fun v1 => mk [(0, pD (.sl (p0.map Az))), (1, oD (.clo (A9 (I0 true Az) tB p1))), (7, iD ((p0.length : Int))), (8, iD v1)] []) (fun v2 => mk [] []) (fun _ _ => rfl) (sm [] _ _ rfl rfl) (fun j1 n1 v1 h => ?_) (fun v2 s h hs => ?_)
 ·unfold Bu at h
  refine wq rfl (AN rfl (Aa (Ay ?_)))
  refine A0 h (fun h => ?_) fun h => ?_
  ·refine Ag (Ay (AA (wq rfl (qm rfl (qa rfl (Aa (wq rfl (qw 3 rfl ?_))))))))
   refine A8 h fun v4 a4 b4 h => qi D3 Eh a4 (Ab b4) rfl (qK I1 Eh rfl ?_)
   refine Bg h fun v5 a5 h => CV (ds0 := [_]) (ar := (I0 true Az) v4) (.p rfl) rfl rfl ⟨rfl, tv⟩ rfl rfl rfl (C0 (IE _ _ Lx) a5) ?_
   refine Aa ?_
   refine A0 h (fun h => ?_) fun h => ?_
   ·refine wq rfl (qm rfl (qe rfl ?_))
    obtain rfl := sj h
    refine Ac (sm [] [(4, iD v1)] [] rfl rfl) (Al ?_)
    exact ⟨⟨[_], tm, rfl⟩, tv⟩
   ·refine Ag (Ad Ap rfl (AE rfl (qm rfl (Aa ?_))))
    exact sn [] h
  ·refine AJ ?_
   exact sn [] h
 ·refine Ac hs (wq rfl (qe rfl ?_))
  obtain rfl := sj h
  refine Ac (sm [] [(4, iD ((-1)))] [] rfl rfl) (Al ?_)
  exact ⟨⟨[_], tm, rfl⟩, tv⟩
theorem Fk (N : Nat) (p0 : List Am) (p1 : Am → Option Bool) (r : Nat × (List Am)) (h : Cf N p0 p1 = some r) : Bi zA0 124 [oD (.own 90000), oD (.clo (A9 (I0 true Az) tB p1))] [(.vec 3 (p0.map Az), .vec 3 (r.2.map Az))] [] (oD (.view 90000 3 0 r.1)) := by
 unfold Cf at h
 refine A3 (n := 42) (rs := [.tmp 4]) Tryz.func124 rfl rfl rfl (CH rfl) (CH rfl) rfl rfl (CH rfl) rfl (CH rfl) fun w0 S0 GL => ?_
 refine Ac (sm [] [(0, oD (.own 90000)), (1, oD (.clo (A9 (I0 true Az) tB p1)))] [(90000, .vec 3 (p0.map Az))] rfl rfl) (wq rfl (qa rfl (Aa (wq rfl (qw 2 rfl ?_)))))
 refine Bg h fun v1 a1 h => CX [] [90000] (FB N p0 p1 v1 a1) S9 BO rfl (qa rfl (Aa (wp rfl (qm rfl (BW rfl (Aa ?_))))))
 refine A0 h (fun h => ?_) fun h => ?_
 ·refine wq rfl (qm rfl (qe rfl ?_))
  obtain rfl := sj h
  refine Ac ((OI Az p0 4 90000 3 rfl rfl).trans (sm [] [(4, oD (.view 90000 3 0 p0.length))] [(90000, .vec 3 (p0.map Az))] rfl rfl)) (Al ?_)
  exact ⟨⟨[_], tm, rfl⟩, ⟨rfl, tv⟩, tv⟩
 ·refine Ag (wp rfl (qm rfl (AE rfl (qe rfl ?_))))
  refine Av (L := Bq N p1) h (fun v3 => mk [(0, oD (.own 90000)), (1, oD (.clo (A9 (I0 true Az) tB p1))), (5, iD v3.2.1), (6, iD v3.2.2)] [(90000, .vec 3 (v3.1.map Az))]) (fun v4 => mk [(0, oD (.own 90000)), (5, iD v4.2)] [(90000, .vec 3 (v4.1.map Az))]) (fun _ _ => rfl) (sm [] _ _ rfl rfl) (fun j3 n3 v3 h => ?_) (fun v4 s h hs => ?_)
  ·unfold Bq at h
   refine wp rfl (qw 2 rfl (Eu D3 rfl (AN rfl (Aa ?_))))
   refine A0 h (fun h => ?_) fun h => ?_
   ·refine Ag ?_
    refine AG h (fun v6 => mk [(0, oD (.own 90000)), (1, oD (.clo (A9 (I0 true Az) tB p1))), (5, iD v6.2), (6, iD v3.2.2)] [(90000, .vec 3 (v6.1.map Az))]) (fun j6 h => ?_) (fun v6 h => ?_)
    ·refine AA (wq rfl (qw 2 rfl ?_))
     refine A8 h fun v7 a7 b7 h => qI D3 Eh a7 (Ab b7) rfl (qJ I1 Eh (Ab b7) rfl (qz JT rfl (qs Eh rfl (Aa (wq rfl (qm rfl (qL I1 Eh rfl ?_)))))))
     refine Bg h fun v8 a8 h => CV (ds0 := [_]) (ar := (I0 true Az) v7) (.p rfl) rfl rfl ⟨rfl, tv⟩ rfl rfl rfl (C0 (IE _ _ Lx) a8) ?_
     refine BN rfl (Aa ?_)
     refine A0 h (fun h => ?_) fun h => ?_
     ·refine wq rfl (qw 2 rfl (qL I1 Eh rfl ?_))
      refine A8 h fun v10 a10 b10 h => qI D3 Eh a10 (Ab b10) rfl ?_
      refine AV rfl rfl rfl rfl (Ab b10) rfl Eh rfl (CH rfl) (AT Az v3.1 _ v7) ?_
      refine Aa (Ad Ap rfl (qm rfl (AE rfl (qe rfl ?_))))
      exact sn [] h
     ·refine Ag ?_
      exact sn [] h
    ·refine Ad Ap rfl (qm rfl (AE rfl (qe rfl ?_)))
     exact sn [] h
   ·refine AJ ?_
    exact sn [] h
  ·refine Ac hs (wq rfl (qw 2 rfl ?_))
   obtain ⟨c11, h⟩ := FL h
   have w12 : ((v4.2).toNat) + ((v4.1.length - (v4.2).toNat)) ≤ v4.1.length := by have := c11.2.1; have := c11.2.2; omega
   refine Ig Az v4.1 (.p rfl) rfl (HN Az _ _ v4.1) rfl D3 Eh (.some _ _ _ _ c11.1) (.none _) ⟨rfl, tv⟩ tv c11.2.1 (by rw [zA3]; exact c11.2.2) (zA3 _) rfl ?_
   have w13 : (Iu v4.1 ((v4.2).toNat) (zA6 ((v4.1.length - (v4.2).toNat)) ((Am.mk 0 0 0)))).length = v4.1.length := IN (by rw [List.length_replicate]; exact w12)
   refine NU Az v4.1 ((Am.mk 0 0 0)) rfl rfl (KC Az _ _ ((v4.2).toNat) ((v4.1.length - (v4.2).toNat)) v4.1 w12) rfl D3 JT rfl rfl rfl rfl ?_
   refine Aa (wq rfl (qw 2 rfl ?_))
   obtain ⟨c14, h⟩ := FL h
   have w15 : 0 + ((v4.2).toNat) ≤ (Iu v4.1 ((v4.2).toNat) (zA6 ((v4.1.length - (v4.2).toNat)) ((Am.mk 0 0 0)))).length := by have := c14.2.1; have := c14.2.2; omega
   refine Ig Az (Iu v4.1 ((v4.2).toNat) (zA6 ((v4.1.length - (v4.2).toNat)) ((Am.mk 0 0 0)))) (.p rfl) rfl (HN Az _ _ (Iu v4.1 ((v4.2).toNat) (zA6 ((v4.1.length - (v4.2).toNat)) ((Am.mk 0 0 0))))) rfl D3 Eh (.none _) (.some _ _ _ _ c14.1) tv ⟨rfl, tv⟩ c14.2.1 (by rw [zA3]; exact c14.2.2) (zA3 _) rfl ?_
   refine qa rfl (Aa ?_)
   obtain rfl := sj h
   refine Ac (sm [] [(4, oD (.view 90000 3 0 ((v4.2).toNat)))] [(90000, .vec 3 ((Iu v4.1 ((v4.2).toNat) (zA6 ((v4.1.length - (v4.2).toNat)) ((Am.mk 0 0 0)))).map Az))] rfl rfl) (Al ?_)
   exact ⟨⟨[_], tm, rfl⟩, ⟨rfl, tv⟩, tv⟩
theorem I6 (N : Nat) (p0 : Ae) (p1 : Ao) (r : (List Am) × Int) (h : FW N p0 p1 = some r) : Ak zA0 87 [.e (.agg (Ai p0)), .e (.agg (AR p1))] [(3, r.1.map Az)] (.tup [.one (.own 0), .one (iC r.2)]) := by
 unfold FW at h
 refine cw (n := 17) (rs := [.tmp 4, .tmp 5]) Tryz.func87 fun w0 S0 => ?_
 refine wq rfl (qb rfl (qb rfl (qa rfl (qa rfl (Aa (wp rfl (qL CS Cq rfl (qL Co Bh rfl ?_))))))))
 refine Bg h fun v1 a1 h => As [] (HV N p0 p1 v1 a1) OH rfl (qa rfl (Aa (wq rfl (qm rfl (BJ rfl (Aa ?_))))))
 refine A0 h (fun h => ?_) fun h => ?_
 ·refine wq rfl (qm rfl (qa rfl (qe rfl ?_)))
  obtain rfl := sj h
  refine Ac ((Bc 4 2001 3 rfl rfl rfl).trans (sm [(1000, 2001)] [(4, oD (.own 1000)), (5, iD v1)] [(1000, .vec 3 ((([] : List Am)).map Az))] rfl rfl)) (Al ?_)
  exact ⟨⟨[_, _], ⟨.tmp _ _ rfl, tm⟩, rfl⟩, ⟨rfl, tv⟩⟩
 ·refine Ag (wq rfl (qL CS Cq rfl ?_))
  refine Bg h fun v3 a3 h => As [2002] (Ok N p0 v3 a3) T1 rfl (C3 (GC 2 [.sl (p0.fa.map Aq), .sl (p0.fk.map Aq), .sl (p0.fo.map Aq), .sl (p0.fb.map AO)] rfl rfl) (C3 (GC 3 [.sl (p1.fe.map Aq), .sl (p1.fc.map Aq), .sl (p1.ff.map EC)] rfl rfl) ?_))
  refine GP (capD := [_, _]) (A9 (I0 true Az) tB ((fun (x : Am) => D2 N x p0.fa p0.fk p0.fo p0.fb p1.fe p1.fc p1.ff))) (.p rfl) T0 rfl ⟨rfl, rfl, tv⟩ rfl (fun ar t ht => by obtain ⟨x, r, rfl, hq, rfl⟩ := Fn ht; exact KJ N x p0.fa p0.fk p0.fo p0.fb p1.fe p1.fc p1.ff r hq) ?_
  obtain ⟨v4, a4, h⟩ := bind_some h
  obtain ⟨c5, h⟩ := FL h
  have w6 : 0 + v4.1 ≤ v4.2.length := by rw [zA3]; exact c5
  refine Cl (ds0 := [_, _]) [2002] [] [true] (Fk N v3 ((fun (x : Am) => D2 N x p0.fa p0.fk p0.fo p0.fb p1.fe p1.fc p1.ff)) v4 a4) (.p rfl) TL rfl ⟨rfl, rfl, tv⟩ rfl rfl (by decide) ⟨rfl, tv⟩ rfl (AU rfl) tv ⟨(fun h => by cases h), tv⟩ rfl rfl rfl ?_
  refine C3 (PY Az v4.2 16 2002 2003 3 v4.1 rfl rfl rfl rfl rfl c5) (qa rfl (qe rfl ?_))
  obtain rfl := sj h
  refine Ac (sm [(1000, 2003)] [(4, oD (.own 1000)), (5, iD 0)] [(1000, .vec 3 ((v4.2.take v4.1).map Az))] rfl rfl) (Al ?_)
  exact ⟨⟨[_, _], ⟨.tmp _ _ rfl, tm⟩, rfl⟩, ⟨rfl, tv⟩⟩
theorem Na (N : Nat) (p0 : Am) (r : Bool) (h : H2 N p0 = some r) : Ak zA0 162 [.e (.agg (D9 p0))] [] (bD r) := by
 unfold H2 at h
 refine cw (n := 27) (rs := [.tmp 2]) Tryz.func162 fun w0 S0 => ?_
 refine wq rfl (qb rfl (qa rfl (Aa (Ay ?_))))
 refine AG h (fun v1 => mk [(1, oD (.ptr 1 0)), (18, bD v1)] [(1, .box (D9 p0))]) (fun j1 h => ?_) (fun v1 h => ?_)
 ·refine Ad Ap rfl (qf FP rfl (ql C2 rfl (qf JC rfl (ql C2 rfl ?_))))
  refine Ta (.p rfl) rfl rfl ?_
  refine AN rfl (qm rfl ?_)
  refine DE 9 h rfl (fun h => ?_) fun h => ?_
  ·refine qw 3 rfl (qp rfl (qw 4 rfl (qp rfl (Aa ?_))))
   exact sn [] h
  ·refine qf Iy rfl (ql C2 rfl (AN rfl (qp rfl (qm rfl ?_))))
   refine DE 14 h rfl (fun h => ?_) fun h => ?_
   ·refine qw 3 rfl (qp rfl (Aa ?_))
    exact sn [] h
   ·refine qf Iy rfl (ql C2 rfl (DK rfl (qp rfl (Aa ?_))))
    exact sn [] h
 ·refine A0 h (fun h => ?_) fun h => ?_
  ·refine wq rfl (qe rfl ?_)
   obtain rfl := sj h
   refine Ac (sm [] [(2, bD false)] [] rfl rfl) (Al ?_)
   exact ⟨⟨[_], tm, rfl⟩, tv⟩
  ·refine Ag ?_
   refine AG h (fun v5 => mk [(2, bD v5)] []) (fun j5 h => ?_) (fun v5 h => ?_)
   ·refine Ad Ap rfl (qf Iy rfl (ql C2 rfl (BW rfl (qm rfl ?_))))
    refine DE 22 h rfl (fun h => ?_) fun h => ?_
    ·refine qw 3 rfl (qp rfl (qe rfl ?_))
     exact sn [] h
    ·refine qf JC rfl (ql C2 rfl (BW rfl (qp rfl (qe rfl ?_))))
     exact sn [] h
   ·obtain rfl := sj h
    refine Ac (sm [] [(2, bD v5)] [] rfl rfl) (Al ?_)
    exact ⟨⟨[_], tm, rfl⟩, tv⟩
theorem LW (N : Nat) (p0 : Ae) (p1 : Am) (r : Bool) (h : HF N p0 p1 = some r) : Ak zA0 163 [.e (.agg (Ai p0)), .e (.agg (D9 p1))] [] (bD r) := by
 unfold HF at h
 refine cw (n := 36) (rs := [.tmp 4]) Tryz.func163 fun w0 S0 => ?_
 refine wq rfl (qb rfl (qb rfl (qa rfl (Aa (wp rfl (qf Iy rfl (ql C2 rfl (BW rfl (Aa ?_)))))))))
 refine A0 h (fun h => ?_) fun h => ?_
 ·refine wq rfl (qf FP rfl (ql C2 rfl (qf CC rfl (ql Hr rfl (AD Dv rfl (AN rfl (qe rfl ?_)))))))
  obtain rfl := sj h
  refine Ac (sm [] [(4, bD ((decide (p1.fm < (p0.fb.length : Int)))))] [] rfl rfl) (Al ?_)
  exact ⟨⟨[_], tm, rfl⟩, tv⟩
 ·refine Ag ?_
  refine AG h (fun v2 => mk [(4, bD v2)] []) (fun j2 h => ?_) (fun v2 h => ?_)
  ·refine Ad Ap rfl (qf FP rfl (ql C2 rfl (qf B4 rfl (ql Bx rfl (AD AC rfl (AN rfl (qm rfl ?_)))))))
   refine DE 20 h rfl (fun h => ?_) fun h => ?_
   ·refine qf Iy rfl (ql C2 rfl (BJ rfl (qm rfl ?_)))
    refine DE 24 h rfl (fun h => ?_) fun h => ?_
    ·refine qw 9 rfl (qp rfl (qp rfl (qa rfl (AF (by kernel_rfl) ?_))))
     exact sn [] h
    ·refine qf JC rfl (ql C2 rfl (qf B4 rfl (ql Bx rfl (qf FP rfl (ql C2 rfl ?_)))))
     refine A8 h fun v5 a5 b5 h => qi AC DS a5 (Ab b5) rfl (qk C2 rfl (AN rfl (qp rfl (qp rfl (qa rfl (AF (by kernel_rfl) ?_))))))
     exact sn [] h
   ·refine qw 4 rfl (qu rfl (qu rfl (qu rfl (qu rfl (qu rfl (qu rfl (qu rfl (qu rfl (qu rfl (qn rfl (qp rfl (qa rfl (AF (by kernel_rfl) ?_)))))))))))))
    exact sn [] h
  ·obtain rfl := sj h
   refine Ac (sm [] [(4, bD v2)] [] rfl rfl) (Al ?_)
   exact ⟨⟨[_], tm, rfl⟩, tv⟩
theorem MU (N : Nat) (p0 : Ae) (p1 : Ao) (p2 : Am) (r : Ao × Int) (h : H7 N p0 p1 p2 = some r) : Ak zA0 128 [.e (.agg (Ai p0)), .e (.agg (AR p1)), .e (.agg (D9 p2))] [(1, r.1.fe.map Aq), (1, r.1.fc.map Aq), (1, r.1.ff.map EC)] (.tup [.agg [.own 0, .own 1, .own 2], .one (iC r.2)]) := by
 unfold H7 at h
 refine cw (n := 32) (rs := [.cell 6 49, .tmp 7]) Tryz.func128 fun w0 S0 => ?_
 refine wq rfl (qb rfl (qb rfl (qb rfl (qz F1 rfl (qa rfl (Aa (Ay (AA (wq rfl (qL I1 Eh rfl ?_))))))))))
 refine Bg h fun v1 a1 h => As [] (Na N p2 v1 a1) Uc rfl (BN rfl (qe rfl ?_))
 refine A0 h (fun h => ?_) fun h => ?_
 ·refine wq rfl (CD F1 L0 rfl (qs Bh rfl (qe rfl ?_)))
  obtain rfl := sj h
  refine Ac ((AQ 6 0 2001 1 _ rfl rfl rfl rfl).trans ((AQ 6 1 2002 1 _ rfl rfl rfl rfl).trans ((AQ 6 2 2003 1 _ rfl rfl rfl rfl).trans (sm [(1000, 2001), (1001, 2002), (1002, 2003)] [(6, oD (.ptr 6 0)), (7, iD 1)] [(6, .box [.own 1000, .own 1001, .own 1002]), (1000, .vec 1 ((([] : List Int)).map Aq)), (1001, .vec 1 ((([] : List Int)).map Aq)), (1002, .vec 1 ((([] : List Int)).map EC))] rfl rfl)))) (Al ?_)
  exact ⟨⟨[_, _], ⟨.cellN _ _ _ _ _ _ _ rfl rfl Co Bh rfl rfl (K2 rfl), tm⟩, rfl⟩, ⟨rfl, rfl, rfl, tv⟩⟩
 ·refine wq rfl (qL CS Cq rfl (qL I1 Eh rfl ?_))
  refine Bg h fun v3 a3 h => As [] (LW N p0 p2 v3 a3) S6 rfl (BN rfl (qe rfl ?_))
  refine A0 h (fun h => ?_) fun h => ?_
  ·refine wq rfl (CD F1 L0 rfl (qs Bh rfl (qe rfl ?_)))
   obtain rfl := sj h
   refine Ac ((AQ 6 0 2004 1 _ rfl rfl rfl rfl).trans ((AQ 6 1 2005 1 _ rfl rfl rfl rfl).trans ((AQ 6 2 2006 1 _ rfl rfl rfl rfl).trans (sm [(1000, 2004), (1001, 2005), (1002, 2006)] [(6, oD (.ptr 6 0)), (7, iD 4)] [(6, .box [.own 1000, .own 1001, .own 1002]), (1000, .vec 1 ((([] : List Int)).map Aq)), (1001, .vec 1 ((([] : List Int)).map Aq)), (1002, .vec 1 ((([] : List Int)).map EC))] rfl rfl)))) (Al ?_)
   exact ⟨⟨[_, _], ⟨.cellN _ _ _ _ _ _ _ rfl rfl Co Bh rfl rfl (K2 rfl), tm⟩, rfl⟩, ⟨rfl, rfl, rfl, tv⟩⟩
  ·refine Ag (wq rfl (qL CS Cq rfl (qL Co Bh rfl (qL I1 Eh rfl ?_))))
   refine Bg h fun v5 a5 h => As [2007, 2008, 2009] (J1 N p0 p1 p2 v5 a5) Rt rfl (qm rfl (qx rfl (qx rfl (qz F1 rfl (qs Bh rfl (qa rfl (Aa (wp rfl (qm rfl (BN rfl (Aa ?_)))))))))))
   refine A0 h (fun h => ?_) fun h => ?_
   ·refine wq rfl (CD F1 L0 rfl (qs Bh rfl (qe rfl ?_)))
    obtain rfl := sj h
    refine Ac ((AQ 6 0 2010 1 _ rfl rfl rfl rfl).trans ((AQ 6 1 2011 1 _ rfl rfl rfl rfl).trans ((AQ 6 2 2012 1 _ rfl rfl rfl rfl).trans (sm [(1000, 2010), (1001, 2011), (1002, 2012)] [(6, oD (.ptr 6 0)), (7, iD 11)] [(6, .box [.own 1000, .own 1001, .own 1002]), (1000, .vec 1 ((([] : List Int)).map Aq)), (1001, .vec 1 ((([] : List Int)).map Aq)), (1002, .vec 1 ((([] : List Int)).map EC))] rfl rfl)))) (Al ?_)
    exact ⟨⟨[_, _], ⟨.cellN _ _ _ _ _ _ _ rfl rfl Co Bh rfl rfl (K2 rfl), tm⟩, rfl⟩, ⟨rfl, rfl, rfl, tv⟩⟩
   ·refine Ag (wq rfl (qL Co Bh rfl (qs Bh rfl (qe rfl ?_))))
    obtain rfl := sj h
    refine Ac (sm [(1000, 2007), (1001, 2008), (1002, 2009)] [(6, oD (.ptr 6 0)), (7, iD 0)] [(6, .box [.own 1000, .own 1001, .own 1002]), (1000, .vec 1 (v5.1.fe.map Aq)), (1001, .vec 1 (v5.1.fc.map Aq)), (1002, .vec 1 (v5.1.ff.map EC))] rfl rfl) (Al ?_)
    exact ⟨⟨[_, _], ⟨.cellN _ _ _ _ _ _ _ rfl rfl Co Bh rfl rfl (K2 rfl), tm⟩, rfl⟩, ⟨rfl, rfl, rfl, tv⟩⟩
theorem Ks (N : Nat) (p0 : Ae) (p1 : Ao) (p2 : Am) (r : Ao × Int) (h : G1 N p0 p1 p2 = some r) : Ak zA0 88 [.e (.agg (Ai p0)), .e (.agg (AR p1)), .e (.agg (D9 p2))] [(1, r.1.fe.map Aq), (1, r.1.fc.map Aq), (1, r.1.ff.map EC)] (.tup [.agg [.own 0, .own 1, .own 2], .one (iC r.2)]) := by
 unfold G1 at h
 refine cw (n := 22) (rs := [.cell 6 49, .tmp 7]) Tryz.func88 fun w0 S0 => ?_
 refine wq rfl (qb rfl (qb rfl (qb rfl (qz F1 rfl (qa rfl (Aa (wp rfl (qL CS Cq rfl (qL Co Bh rfl ?_)))))))))
 refine Bg h fun v1 a1 h => As [] (HV N p0 p1 v1 a1) OH rfl (qa rfl (Aa (wq rfl (qm rfl (BJ rfl (Aa ?_))))))
 refine A0 h (fun h => ?_) fun h => ?_
 ·refine wq rfl (CD F1 L0 rfl (qm rfl (qs Bh rfl (qe rfl ?_))))
  obtain rfl := sj h
  refine Ac ((AQ 6 0 2001 1 _ rfl rfl rfl rfl).trans ((AQ 6 1 2002 1 _ rfl rfl rfl rfl).trans ((AQ 6 2 2003 1 _ rfl rfl rfl rfl).trans (sm [(1000, 2001), (1001, 2002), (1002, 2003)] [(6, oD (.ptr 6 0)), (7, iD v1)] [(6, .box [.own 1000, .own 1001, .own 1002]), (1000, .vec 1 ((([] : List Int)).map Aq)), (1001, .vec 1 ((([] : List Int)).map Aq)), (1002, .vec 1 ((([] : List Int)).map EC))] rfl rfl)))) (Al ?_)
  exact ⟨⟨[_, _], ⟨.cellN _ _ _ _ _ _ _ rfl rfl Co Bh rfl rfl (K2 rfl), tm⟩, rfl⟩, ⟨rfl, rfl, rfl, tv⟩⟩
 ·refine Ag (wq rfl (qL CS Cq rfl (qL Co Bh rfl (qL I1 Eh rfl ?_))))
  refine Bg h fun v3 a3 h => As [2004, 2005, 2006] (MU N p0 p1 p2 v3 a3) SW rfl (qx rfl (qx rfl (qs Bh rfl (qe rfl ?_))))
  obtain rfl := sj h
  refine Ac (sm [(1000, 2004), (1001, 2005), (1002, 2006)] [(6, oD (.ptr 6 0)), (7, iD v3.2)] [(6, .box [.own 1000, .own 1001, .own 1002]), (1000, .vec 1 (v3.1.fe.map Aq)), (1001, .vec 1 (v3.1.fc.map Aq)), (1002, .vec 1 (v3.1.ff.map EC))] rfl rfl) (Al ?_)
  exact ⟨⟨[_, _], ⟨.cellN _ _ _ _ _ _ _ rfl rfl Co Bh rfl rfl (K2 rfl), tm⟩, rfl⟩, ⟨rfl, rfl, rfl, tv⟩⟩
theorem L9 (N : Nat) (p0 : Ae) (p1 : Ao) (r : (List AM) × Int) (h : HL N p0 p1 = some r) : Ak zA0 106 [.e (.agg (Ai p0)), .e (.agg (AR p1))] [] (.tup [.one (sC (r.1.map AX)), .one (iC r.2)]) := by
 unfold HL at h
 refine cw (n := 119) (rs := [.tmp 4, .tmp 5]) Tryz.func106 fun w0 S0 => ?_
 refine wq rfl (qb rfl (qb rfl (qa rfl (qa rfl (Aa (wq rfl (qL Co Bh rfl (CD Np RI rfl ?_))))))))
 refine JH [(0, .tmp 21, _)] (.p rfl) rfl ⟨rfl, tv⟩ rfl Fz IW Np rfl rfl (CH rfl) rfl rfl ?_
 refine C3 (MC 22 8 [.s, .s, .s, .s, .s, .s, .s, .x 1 []] _ ((([(AM.mk p1 ((-1)) ((Am.mk 0 0 0)) (([] : List Int)))] : List AM)).map AX) rfl rfl) (qa rfl (Aa (wq rfl ?_)))
 refine Pm (.p rfl) rfl ?_
 refine qL Co Bh rfl ?_
 refine Bg h fun v1 a1 h => As [] (Ly N p1 v1 a1) Ru rfl ?_
 refine Lh (kv := Value.string) (vt := By) (m := ([] : List (ByteArray × Int))) (k := v1) (v := 0) rfl (.inr rfl) rfl rfl rfl rfl (KG MS Sn) rfl ?_
 refine qm rfl (qa rfl (Aa (wp rfl (qe rfl ?_))))
 refine Av (L := E0 N p0) h (fun v2 => mk [(2, oD (.ptr 2 0)), (6, oD (.own 2001)), (7, oD (.mref 2002)), (8, iD v2.2.2)] [(2, .box (Ai p0)), (2001, .dvec 8 [.s, .s, .s, .s, .s, .s, .s, .x 1 []] (v2.1.map AX)), (2002, .mp (Em Value.string By v2.2.1))]) (fun v3 => mk [(6, oD (.own 2003))] [(2003, .dvec 8 [.s, .s, .s, .s, .s, .s, .s, .x 1 []] (v3.map AX))]) (fun _ _ => rfl) (sm [(2001, 22), (2002, 23)] _ _ rfl rfl) (fun j2 n2 v2 h => ?_) (fun v3 s h hs => ?_)
 ·unfold E0 at h
  refine wp rfl (qw 2 rfl ?_)
  refine Ou (.p rfl) rfl rfl (Jy AX v2.1 _ _) Fz ?_
  refine AN rfl (Aa ?_)
  refine A0 h (fun h => ?_) fun h => ?_
  ·refine Ag (Ay (AA (wq rfl (qL CS Cq rfl (qw 2 rfl ?_)))))
   refine A8 h fun v5 a5 b5 h => Kg (.p rfl) rfl rfl rfl (Jy AX v2.1 _ _) Fz IW a5 (Au b5) ?_
   refine qh LE rfl ?_
   refine NJ (.p rfl) rfl Co Bh rfl (Ab b5) rfl rfl (by decide) rfl ?_
   refine Bg h fun v6 a6 h => As [2004] (I6 N p0 ((Ao.mk v5.fp.fe v5.fp.fc v5.fp.ff)) v6 a6) Uo rfl (qm rfl (qx rfl (qx rfl (qa rfl (qa rfl (AF (by kernel_rfl) (wp rfl (qm rfl (BJ rfl (Aa ?_))))))))))
   refine A0 h (fun h => ?_) fun h => ?_
   ·refine wq rfl (qm rfl (qa rfl (qe rfl ?_)))
    obtain rfl := sj h
    refine Ac ((Js 4 _ rfl).trans (sm [] [(4, pD (.sl ((([] : List AM)).map AX))), (5, iD v6.2)] [] rfl rfl)) (Al ?_)
    exact ⟨⟨[_, _], ⟨.tmp _ _ rfl, tm⟩, rfl⟩, tv⟩
   ·refine Ag (wq rfl (qm rfl (Eu D3 rfl (qm rfl (Aa ?_)))))
    refine Av (L := EZ N p0 v2 v6) h (fun v8 => mk [(2, oD (.ptr 2 0)), (6, oD (.own 2005)), (7, oD (.mref 2006)), (8, iD v2.2.2), (46, oD (.own 2007)), (47, iD ((v6.1.length : Int))), (48, iD v8.2.2)] [(2, .box (Ai p0)), (2005, .dvec 8 [.s, .s, .s, .s, .s, .s, .s, .x 1 []] (v8.1.map AX)), (2006, .mp (Em Value.string By v8.2.1)), (2007, .vec 3 (v6.1.map Az))]) (fun v9 => mk [(2, oD (.ptr 2 0)), (6, oD (.own 2008)), (7, oD (.mref 2009)), (8, iD v2.2.2)] [(2, .box (Ai p0)), (2008, .dvec 8 [.s, .s, .s, .s, .s, .s, .s, .x 1 []] (v9.1.map AX)), (2009, .mp (Em Value.string By v9.2))]) (fun _ _ => rfl) (sm [(2005, 2001), (2006, 2002), (2007, 2004)] _ _ rfl rfl) (fun j8 n8 v8 h => ?_) (fun v9 s h hs => ?_)
    ·unfold EZ at h
     refine wq rfl (AN rfl (Aa (Ay ?_)))
     refine A0 h (fun h => ?_) fun h => ?_
     ·refine Ag (Ay (AA (wq rfl ?_)))
      refine A8 h fun v11 a11 b11 h => qI D3 Eh a11 (Ab b11) rfl (qJ I1 Eh (Ab b11) rfl (qz JT rfl (qs Eh rfl (Aa (wq rfl (qL CS Cq rfl (qw 2 rfl ?_)))))))
      refine A8 h fun v12 a12 b12 h => Kg (.p rfl) rfl rfl rfl (Jy AX v8.1 _ _) Fz IW a12 (Au b12) ?_
      refine qh LE rfl ?_
      refine NJ (.p rfl) rfl Co Bh rfl (Ab b12) rfl rfl (by decide) rfl ?_
      refine qL I1 Eh rfl ?_
      refine Bg h fun v13 a13 h => As [2010, 2011, 2012] (Ks N p0 ((Ao.mk v12.fp.fe v12.fp.fc v12.fp.ff)) v11 v13 a13) SP rfl (qm rfl (qx rfl (qx rfl (qz F1 rfl (qs Bh rfl (qa rfl (AF (by kernel_rfl) (wp rfl (qm rfl (BJ rfl (Aa ?_)))))))))))
      refine A0 h (fun h => ?_) fun h => ?_
      ·refine wq rfl (qm rfl (qa rfl (qe rfl ?_)))
       obtain rfl := sj h
       refine Ac ((Js 4 _ rfl).trans (sm [] [(4, pD (.sl ((([] : List AM)).map AX))), (5, iD v13.2)] [] rfl rfl)) (Al ?_)
       exact ⟨⟨[_, _], ⟨.tmp _ _ rfl, tm⟩, rfl⟩, tv⟩
      ·refine Ag (wq rfl (qL Co Bh rfl ?_))
       refine Bg h fun v15 a15 h => CX [] [2010, 2011, 2012] (Ly N v13.1 v15 a15) Ru BO rfl (qa rfl (Aa (wq rfl (qw 2 rfl ?_))))
       refine Qc (kv := Value.string) (vt := By) (m := v8.2.1) (dv := 0) (.p rfl) rfl rfl rfl (KG MS Sn) (by rw [MS]; rfl) KL rfl rfl rfl ?_
       refine qm rfl (qx rfl (qx rfl (qa rfl (qe rfl ?_))))
       refine AG h (fun v16 => mk [(2, oD (.ptr 2 0)), (6, oD (.own 2013)), (7, oD (.mref 2014)), (8, iD v2.2.2), (16, iD v16.2.2), (46, oD (.own 2015)), (47, iD ((v6.1.length : Int))), (48, iD v8.2.2)] [(2, .box (Ai p0)), (2013, .dvec 8 [.s, .s, .s, .s, .s, .s, .s, .x 1 []] (v16.1.map AX)), (2014, .mp (Em Value.string By v16.2.1)), (2015, .vec 3 (v6.1.map Az))]) (fun j16 h => ?_) (fun v16 h => ?_)
       ·refine wq rfl (qm rfl (BN rfl (Aa ?_)))
        refine A0 h (fun h => ?_) fun h => ?_
        ·refine AG h (fun v18 => mk [(2, oD (.ptr 2 0)), (6, oD (.own 2016)), (7, oD (.mref 2017)), (8, iD v2.2.2), (15, pD (.val (.string v15))), (16, iD v18.2), (46, oD (.own 2018)), (47, iD ((v6.1.length : Int))), (48, iD v8.2.2)] [(2, .box (Ai p0)), (2016, .dvec 8 [.s, .s, .s, .s, .s, .s, .s, .x 1 []] (v18.1.map AX)), (2017, .mp (Em Value.string By v8.2.1)), (2018, .vec 3 (v6.1.map Az))]) (fun j18 h => ?_) (fun v18 h => ?_)
         ·refine wq rfl (qL CS Cq rfl (qL Co Bh rfl ?_))
          refine Bg h fun v19 a19 h => CX [] [2010, 2011, 2012] (Gs N p0 v13.1 v19 a19) PU BO rfl (qm rfl (qx rfl (qx rfl (qa rfl (qe rfl ?_)))))
          refine AG h (fun v20 => mk [(2, oD (.ptr 2 0)), (6, oD (.own 2022)), (7, oD (.mref 2023)), (8, iD v2.2.2), (12, oD (.ptr 12 0)), (13, oD (.ptr 13 0)), (15, pD (.val (.string v15))), (46, oD (.own 2024)), (47, iD ((v6.1.length : Int))), (48, iD v8.2.2), (87, bD v20)] [(2, .box (Ai p0)), (12, .box (D9 v11)), (13, .box [.own 2019, .own 2020, .own 2021]), (2019, .vec 1 (v13.1.fe.map Aq)), (2020, .vec 1 (v13.1.fc.map Aq)), (2021, .vec 1 (v13.1.ff.map EC)), (2022, .dvec 8 [.s, .s, .s, .s, .s, .s, .s, .x 1 []] (v8.1.map AX)), (2023, .mp (Em Value.string By v8.2.1)), (2024, .vec 3 (v6.1.map Az))]) (fun j20 h => ?_) (fun v20 h => ?_)
          ·refine Ad Ap rfl (qm rfl (BJ rfl (qm rfl ?_)))
           refine DE 84 h rfl (fun h => ?_) fun h => ?_
           ·refine qw 2 rfl (qp rfl (Aa ?_))
            exact sn [(2019, 2010), (2020, 2011), (2021, 2012), (2022, 2005), (2023, 2006), (2024, 2007)] h
           ·refine qm rfl (BN rfl (qp rfl (Aa ?_)))
            exact sn [(2019, 2010), (2020, 2011), (2021, 2012), (2022, 2005), (2023, 2006), (2024, 2007)] h
          ·refine A0 h (fun h => ?_) fun h => ?_
           ·refine Ad Ap rfl (qe rfl ?_)
            exact sn [(2016, 2022), (2017, 2023), (2018, 2024)] h
           ·refine wq rfl (qm rfl ?_)
            refine Ou (.p rfl) rfl rfl (Jy AX v8.1 _ _) Fz ?_
            refine qa rfl (Aa (Ad Ap rfl (qm rfl (qL Co Bh rfl (qm rfl (qL I1 Eh rfl (CD Np RI rfl (C3 (BQ 2019 _ _ rfl rfl) (C3 (BQ 2020 _ _ rfl rfl) (C3 (BQ 2021 _ _ rfl rfl) ?_))))))))))
            refine JH [(0, .tmp 94, _)] (.p rfl) rfl ⟨rfl, tv⟩ rfl Fz IW Np rfl rfl (CH rfl) rfl rfl ?_
            refine C3 (MC 95 8 [.s, .s, .s, .s, .s, .s, .s, .x 1 []] _ ((([(AM.mk v13.1 v2.2.2 v11 (([] : List Int)))] : List AM)).map AX) rfl rfl) ?_
            refine Il h fun c23 h => O0 (.p rfl) rfl rfl rfl rfl rfl (by decide) Fz Fz IW R8 (CH rfl) Np rfl (QF (f := AX) (g := AX) (xs := v8.1) (ys := (([(AM.mk v13.1 v2.2.2 v11 (([] : List Int)))] : List AM))) c23) (QY AX v8.1 (([(AM.mk v13.1 v2.2.2 v11 (([] : List Int)))] : List AM))) rfl rfl ?_
            refine qa rfl (Aa ?_)
            exact sn [(2016, 96), (2017, 2023), (2018, 2024)] h
         ·refine Ad Ap rfl (qw 3 rfl ?_)
          refine Lh (kv := Value.string) (vt := By) (m := v8.2.1) (k := v15) (v := v18.2) rfl (.inl rfl) rfl rfl rfl rfl (KG MS Sn) rfl ?_
          refine Aa ?_
          exact sn [(2013, 2016), (2014, 2017), (2015, 2018)] h
        ·refine Ag ?_
         exact sn [(2013, 2005), (2014, 2006), (2015, 2007)] h
       ·refine AG h (fun v24 => mk [(2, oD (.ptr 2 0)), (6, oD (.own 2025)), (7, oD (.mref 2026)), (8, iD v2.2.2), (46, oD (.own 2027)), (47, iD ((v6.1.length : Int))), (48, iD v8.2.2)] [(2, .box (Ai p0)), (2025, .dvec 8 [.s, .s, .s, .s, .s, .s, .s, .x 1 []] (v24.map AX)), (2026, .mp (Em Value.string By v16.2.1)), (2027, .vec 3 (v6.1.map Az))]) (fun j24 h => ?_) (fun v24 h => ?_)
        ·refine wq rfl (qm rfl (CT rfl (Aa ?_)))
         refine A0 h (fun h => ?_) fun h => ?_
         ·refine Ad Ap rfl (qw 4 rfl ?_)
          refine A8 h fun v26 a26 b26 h => Kg (.p rfl) rfl rfl rfl (Jy AX v16.1 _ _) Fz IW a26 (Au b26) ?_
          refine qh NP rfl ?_
          refine Sk (.p rfl) rfl Bx rfl (Ab b26) rfl rfl rfl rfl ?_
          refine qm rfl (ED AC DS KL rfl ?_)
          refine Il h fun c27 h => EQ (f := Aq) AC AC DS Ns KL c27 rfl ?_
          refine A8 h fun v28 a28 b28 h => Kg (.p rfl) rfl rfl rfl (Sv AX v16.1 _ _ _ _ _) Fz IW a28 (Au b28) ?_
          refine qh NP rfl ?_
          refine P8 rfl rfl rfl rfl (rows2 := (v26.fc ++ (([v16.2.2] : List Int))).map Aq) (cols2 := []) rfl rfl (Ab b28) (by decide) LO rfl rfl (AT AX v16.1 _ ((AM.mk ((Ao.mk v28.fp.fe v28.fp.fc v28.fp.ff)) v28.fg ((Am.mk v28.ft.fd v28.ft.fm v28.ft.fr)) (v26.fc ++ (([v16.2.2] : List Int)))))) ?_
          refine Aa ?_
          exact sn [(2025, 2013), (2026, 2014), (2027, 2015)] h
         ·refine Ag ?_
          exact sn [(2025, 2013), (2026, 2014), (2027, 2015)] h
        ·refine wq rfl (qm rfl ?_)
         refine Ou (.p rfl) rfl rfl (Jy AX v24 _ _) Fz ?_
         refine DK rfl (Aa ?_)
         refine A0 h (fun h => ?_) fun h => ?_
         ·refine wq rfl (qa rfl (qe rfl ?_))
          obtain rfl := sj h
          refine Ac ((Js 4 _ rfl).trans (sm [] [(4, pD (.sl ((([] : List AM)).map AX))), (5, iD 3)] [] rfl rfl)) (Al ?_)
          exact ⟨⟨[_, _], ⟨.tmp _ _ rfl, tm⟩, rfl⟩, tv⟩
         ·refine Ag (Ad Ap rfl (AE rfl (qm rfl (Aa ?_))))
          exact sn [(2005, 2025), (2006, 2026), (2007, 2027)] h
     ·refine AJ ?_
      exact sn [(2008, 2005), (2009, 2006)] h
    ·refine Ac hs (Ad Ap rfl (qm rfl (AE rfl (qe rfl ?_))))
     exact sn [(2001, 2008), (2002, 2009)] h
  ·refine AJ ?_
   exact sn [(2003, 2001)] h
 ·refine Ac hs (wq rfl (qm rfl (qa rfl (qe rfl ?_))))
  obtain rfl := sj h
  refine Ac ((O4 2003 _ _ _ rfl rfl).trans (sm [] [(4, pD (.sl (v3.map AX))), (5, iD 0)] [] rfl rfl)) (Al ?_)
  exact ⟨⟨[_, _], ⟨.tmp _ _ rfl, tm⟩, rfl⟩, tv⟩
theorem IP (N : Nat) (p0 : List Int) (p1 : List Int) (r : Bool) (h : Ex N p0 p1 = some r) : Ak zA0 25 [pD (.sl (p0.map Aq)), pD (.sl (p1.map Aq))] [] (bD r) := by
 unfold Ex at h
 refine cw (n := 26) (rs := [.tmp 4]) Tryz.func25 fun w0 S0 => ?_
 refine wq rfl (qa rfl (Aa (wp rfl (qm rfl (AD AC rfl (qm rfl (AD AC rfl (BJ rfl (Aa ?_)))))))))
 refine A0 h (fun h => ?_) fun h => ?_
 ·refine wq rfl (qe rfl ?_)
  obtain rfl := sj h
  refine Ac (sm [] [(4, bD false)] [] rfl rfl) (Al ?_)
  exact ⟨⟨[_], tm, rfl⟩, tv⟩
 ·refine Ag (wp rfl (qm rfl (AD AC rfl (qm rfl (Aa ?_)))))
  refine Av (L := CW N p0 p1) h (fun v2 => mk [(0, pD (.sl (p0.map Aq))), (1, pD (.sl (p1.map Aq))), (12, iD ((p0.length : Int))), (13, iD v2)] []) (fun v3 => mk [] []) (fun _ _ => rfl) (sm [] _ _ rfl rfl) (fun j2 n2 v2 h => ?_) (fun v3 s h hs => ?_)
  ·unfold CW at h
   refine wq rfl (AN rfl (Aa (Ay ?_)))
   refine A0 h (fun h => ?_) fun h => ?_
   ·refine Ag (Ay (AA (wq rfl (qm rfl (qa rfl (Aa (wq rfl (qw 2 rfl ?_))))))))
    refine A8 h fun v5 a5 b5 h => qi AC DS a5 (Ab b5) rfl (qk C2 rfl (qw 2 rfl ?_))
    refine A8 h fun v6 a6 b6 h => qi AC DS a6 (Ab b6) rfl (qk C2 rfl (BJ rfl (AF (by kernel_rfl) ?_)))
    refine A0 h (fun h => ?_) fun h => ?_
    ·refine wq rfl (qe rfl ?_)
     obtain rfl := sj h
     refine Ac (sm [] [(4, bD false)] [] rfl rfl) (Al ?_)
     exact ⟨⟨[_], tm, rfl⟩, tv⟩
    ·refine Ag (Ad Ap rfl (AE rfl (qm rfl (Aa ?_))))
     exact sn [] h
   ·refine AJ ?_
    exact sn [] h
  ·refine Ac hs (wq rfl (qe rfl ?_))
   obtain rfl := sj h
   refine Ac (sm [] [(4, bD true)] [] rfl rfl) (Al ?_)
   exact ⟨⟨[_], tm, rfl⟩, tv⟩
theorem HI (N : Nat) (p0 : List Int) (p1 : Int → Option Bool) (r : Int) (h : Dx N p0 p1 = some r) : Ak zA0 157 [pD (.sl (p0.map Aq)), oD (.clo (A9 (I0 false Aq) tB p1))] [] (iD r) := by
 unfold Dx at h
 refine cw (n := 19) (rs := [.tmp 4]) Tryz.func157 fun w0 S0 => ?_
 refine wq rfl (qa rfl (Aa (wp rfl (qm rfl (AD AC rfl (qm rfl (Aa ?_)))))))
 refine Av (L := Ck N p0 p1) h (fun v1 => mk [(0, pD (.sl (p0.map Aq))), (1, oD (.clo (A9 (I0 false Aq) tB p1))), (7, iD ((p0.length : Int))), (8, iD v1)] []) (fun v2 => mk [] []) (fun _ _ => rfl) (sm [] _ _ rfl rfl) (fun j1 n1 v1 h => ?_) (fun v2 s h hs => ?_)
 ·unfold Ck at h
  refine wq rfl (AN rfl (Aa (Ay ?_)))
  refine A0 h (fun h => ?_) fun h => ?_
  ·refine Ag (Ay (AA (wq rfl (qm rfl (qa rfl (Aa (wq rfl (qw 3 rfl ?_))))))))
   refine A8 h fun v4 a4 b4 h => qi AC DS a4 (Ab b4) rfl (qk C2 rfl ?_)
   refine Bg h fun v5 a5 h => CV (ds0 := [_]) (ar := (I0 false Aq) v4) (.p rfl) rfl rfl ⟨rfl, tv⟩ rfl rfl rfl (C0 (IE _ _ Kv) a5) ?_
   refine Aa ?_
   refine A0 h (fun h => ?_) fun h => ?_
   ·refine wq rfl (qm rfl (qe rfl ?_))
    obtain rfl := sj h
    refine Ac (sm [] [(4, iD v1)] [] rfl rfl) (Al ?_)
    exact ⟨⟨[_], tm, rfl⟩, tv⟩
   ·refine Ag (Ad Ap rfl (AE rfl (qm rfl (Aa ?_))))
    exact sn [] h
  ·refine AJ ?_
   exact sn [] h
 ·refine Ac hs (wq rfl (qe rfl ?_))
  obtain rfl := sj h
  refine Ac (sm [] [(4, iD ((-1)))] [] rfl rfl) (Al ?_)
  exact ⟨⟨[_], tm, rfl⟩, tv⟩
theorem G8 (N : Nat) (p0 : List Int) (p1 : Int → Option Bool) (r : Bool) (h : Dc N p0 p1 = some r) : Ak zA0 121 [pD (.sl (p0.map Aq)), oD (.clo (A9 (I0 false Aq) tB p1))] [] (bD r) := by
 unfold Dc at h
 refine cw (n := 9) (rs := [.tmp 4]) Tryz.func121 fun w0 S0 => ?_
 refine wq rfl (qa rfl (Aa (wq rfl (qw 2 rfl ?_))))
 refine Bg h fun v1 a1 h => As [] (HI N p0 p1 v1 a1) T9 rfl (CT rfl (qe rfl ?_))
 obtain rfl := sj h
 refine Ac (sm [] [(4, bD ((decide (0 ≤ v1))))] [] rfl rfl) (Al ?_)
 exact ⟨⟨[_], tm, rfl⟩, tv⟩
theorem Ng (N : Nat) (p0 : Int) (r : Bool) (h : GX N p0 = some r) : Ak zA0 122 [iD p0] [] (bD r) := by
 unfold GX at h
 refine cw (n := 5) (rs := [.tmp 2]) Tryz.func122 fun w0 S0 => ?_
 refine wq rfl (qa rfl (Aa (wq rfl (qm rfl (CT rfl (qe rfl ?_))))))
 obtain rfl := sj h
 refine Ac (sm [] [(2, bD ((decide (0 ≤ p0))))] [] rfl rfl) (Al ?_)
 exact ⟨⟨[_], tm, rfl⟩, tv⟩
theorem Lz (N : Nat) (p0 : Ae) (p1 : Ao) (r : Bool) (h : H1 N p0 p1 = some r) : Ak zA0 85 [.e (.agg (Ai p0)), .e (.agg (AR p1))] [] (bD r) := by
 unfold H1 at h
 refine cw (n := 22) (rs := [.tmp 4]) Tryz.func85 fun w0 S0 => ?_
 refine wq rfl (qb rfl (qb rfl (qe rfl ?_)))
 refine AG h (fun v1 => mk [(4, bD v1)] []) (fun j1 h => ?_) (fun v1 h => ?_)
 ·refine Ad Ap rfl (qL CS Cq rfl (qL Co Bh rfl ?_))
  refine Bg h fun v2 a2 h => As [] (HV N p0 p1 v2 a2) OH rfl (BW rfl (qm rfl ?_))
  refine DE 9 h rfl (fun h => ?_) fun h => ?_
  ·refine qf DZ rfl (ql Bx rfl (qf GY rfl (ql Bx rfl ?_)))
   refine Bg h fun v4 a4 h => As [] (IP N p1.fe p0.fo v4 a4) U5 rfl (qp rfl (qm rfl ?_))
   refine DE 16 h rfl (fun h => ?_) fun h => ?_
   ·refine qf Dn rfl (ql Bx rfl ?_)
    refine Bg h fun v6 a6 h => As [] (Ak.weak (ds' := [pD (.sl (p1.fc.map Aq)), oD (.fnc 122)]) (G8 N p1.fc ((fun (x : Int) => GX N x)) v6 a6) ⟨(fun _ _ _ hh => hh), (fun _ _ _ hh => MY Tv (fun ar t ht => by obtain ⟨x, r, rfl, hq, rfl⟩ := Fn ht; exact Ng N x r hq) hh), tv⟩) TJ rfl ?_
    refine BN rfl (qp rfl (qe rfl ?_))
    exact sn [] h
   ·refine qw 4 rfl (qp rfl (qe rfl ?_))
    exact sn [] h
  ·refine qw 5 rfl (qp rfl (qw 5 rfl (qp rfl (qe rfl ?_))))
   exact sn [] h
 ·obtain rfl := sj h
  refine Ac (sm [] [(4, bD v1)] [] rfl rfl) (Al ?_)
  exact ⟨⟨[_], tm, rfl⟩, tv⟩
theorem Ma (N : Nat) (p0 : AM) (p1 : List Int) (p2 : List Int) (p3 : List Int) (p4 : List Aw) (r : Bool) (h : E6 N p0 p1 p2 p3 p4 = some r) : Ak zA0 108 [.e (.agg (Pb p0)), oD (.rop [.sl (p1.map Aq), .sl (p2.map Aq), .sl (p3.map Aq), .sl (p4.map AO)])] [] (bD r) := by
 unfold E6 at h
 refine cw (n := 8) (rs := [.tmp 3]) Tryz.func108 fun w0 S0 => ?_
 refine wq rfl (qb rfl (qa rfl (Aa (wq rfl (qK CS Cq rfl (qf LE rfl (qL Co Bh rfl ?_)))))))
 refine Bg h fun v1 a1 h => As [] (Lz N ((Ae.mk p1 p2 p3 p4)) ((Ao.mk p0.fp.fe p0.fp.fc p0.fp.ff)) v1 a1) SV rfl (qe rfl ?_)
 obtain rfl := sj h
 refine Ac (sm [] [(3, bD v1)] [] rfl rfl) (Al ?_)
 exact ⟨⟨[_], tm, rfl⟩, tv⟩
theorem E7 (N : Nat) (p0 : List AM) (p1 : AM → Option Bool) (r : Int) (h : B9 N p0 p1 = some r) : Ak zA0 107 [pD (.sl (p0.map AX)), oD (.clo (A9 (I0 true AX) tB p1))] [] (iD r) := by
 unfold B9 at h
 refine cw (n := 19) (rs := [.tmp 4]) Tryz.func107 fun w0 S0 => ?_
 refine wq rfl (qa rfl (Aa (wp rfl (qm rfl (AD Fz rfl (qm rfl (Aa ?_)))))))
 refine Av (L := Bn N p0 p1) h (fun v1 => mk [(0, pD (.sl (p0.map AX))), (1, oD (.clo (A9 (I0 true AX) tB p1))), (7, iD ((p0.length : Int))), (8, iD v1)] []) (fun v2 => mk [] []) (fun _ _ => rfl) (sm [] _ _ rfl rfl) (fun j1 n1 v1 h => ?_) (fun v2 s h hs => ?_)
 ·unfold Bn at h
  refine wq rfl (AN rfl (Aa (Ay ?_)))
  refine A0 h (fun h => ?_) fun h => ?_
  ·refine Ag (Ay (AA (wq rfl (qm rfl (qa rfl (Aa (wq rfl (qw 3 rfl ?_))))))))
   refine A8 h fun v4 a4 b4 h => qi Fz IW a4 (Ab b4) rfl (qK To IW rfl ?_)
   refine Bg h fun v5 a5 h => CV (ds0 := [_]) (ar := (I0 true AX) ((AM.mk ((Ao.mk v4.fp.fe v4.fp.fc v4.fp.ff)) v4.fg ((Am.mk v4.ft.fd v4.ft.fm v4.ft.fr)) v4.fc))) (.p rfl) rfl rfl ⟨rfl, tv⟩ rfl rfl rfl (C0 (IE _ _ N0) a5) ?_
   refine Aa ?_
   refine A0 h (fun h => ?_) fun h => ?_
   ·refine wq rfl (qm rfl (qe rfl ?_))
    obtain rfl := sj h
    refine Ac (sm [] [(4, iD v1)] [] rfl rfl) (Al ?_)
    exact ⟨⟨[_], tm, rfl⟩, tv⟩
   ·refine Ag (Ad Ap rfl (AE rfl (qm rfl (Aa ?_))))
    exact sn [] h
  ·refine AJ ?_
   exact sn [] h
 ·refine Ac hs (wq rfl (qe rfl ?_))
  obtain rfl := sj h
  refine Ac (sm [] [(4, iD ((-1)))] [] rfl rfl) (Al ?_)
  exact ⟨⟨[_], tm, rfl⟩, tv⟩
theorem F2 (N : Nat) (p0 : List Am) (r : (List Am)) (h : Cy N p0 = some r) : Bi zA0 139 [oD (.own 90000)] [(.vec 3 (p0.map Az), .vec 3 (r.map Az))] [] (.tup []) := by
 unfold Cy at h
 refine A3 (n := 28) (rs := []) Tryz.func139 rfl rfl rfl (CH rfl) (CH rfl) rfl rfl (CH rfl) rfl (CH rfl) fun w0 S0 GL => KV ?_
 refine Ac (sm [] [(0, oD (.own 90000))] [(90000, .vec 3 (p0.map Az))] rfl rfl) (wq rfl (qm rfl (Eu D3 rfl (BP rfl (qa rfl (qe rfl ?_))))))
 refine Av (L := BD N) h (fun v1 => mk [(0, oD (.own 90000)), (2, iD v1.2.1), (3, iD v1.2.2)] [(90000, .vec 3 (v1.1.map Az))]) (fun v2 => mk [] [(90000, .vec 3 (v2.map Az))]) (fun _ _ => rfl) (sm [] _ _ rfl rfl) (fun j1 n1 v1 h => ?_) (fun v2 s h hs => ?_)
 ·unfold BD at h
  refine wp rfl (qw 2 rfl (AN rfl (Aa ?_)))
  refine A0 h (fun h => ?_) fun h => ?_
  ·refine Ag (Ay (AA (Ad Ap rfl (qw 6 rfl ?_))))
   refine A8 h fun v4 a4 b4 h => qI D3 Eh a4 (Ab b4) rfl (qJ I1 Eh (Ab b4) rfl (qw 2 rfl ?_))
   refine A8 h fun v5 a5 b5 h => qI D3 Eh a5 (Ab b5) rfl (qJ I1 Eh (Ab b5) rfl ?_)
   refine A8 h fun v6 a6 b6 h => qI D3 Eh a6 (Ab b6) rfl ?_
   refine AV rfl rfl rfl rfl (Ab b6) rfl Eh rfl (CH rfl) (AT Az v1.1 _ v4) ?_
   refine A8 h fun v7 a7 b7 h => qI D3 Eh a7 (Ab b7) rfl ?_
   refine AV rfl rfl rfl rfl (Ab b7) rfl Eh rfl (CH rfl) (AT Az (v1.1.set ((v1.2.1).toNat) v4) _ v5) ?_
   refine AF (by kernel_rfl) (Ad Ap rfl (qm rfl (AE rfl (qm rfl (BP rfl (qa rfl (qe rfl ?_)))))))
   exact sn [] h
  ·refine AJ ?_
   exact sn [] h
 ·obtain rfl := sj h
  refine ⟨_, hs.trans (sm [] [] [(90000, .vec 3 (v2.map Az))] rfl rfl), ?_⟩
  exact ⟨⟨[], tv, rfl⟩, ⟨rfl, tv⟩, tv⟩
theorem Oe (N : Nat) (p0 : List AM) (p1 : Int) (r : (List Am)) (h : Jv N p0 p1 = some r) : Ak zA0 109 [pD (.sl (p0.map AX)), iD p1] [(3, r.map Az)] (oD (.own 0)) := by
 unfold Jv at h
 refine cw (n := 28) (rs := [.tmp 4]) Tryz.func109 fun w0 S0 => ?_
 refine wq rfl (qa rfl (Aa (wq rfl (qa rfl (Aa (Ay ?_))))))
 refine Av (L := Gq N p0) h (fun v1 => mk [(0, pD (.sl (p0.map AX))), (1, iD v1.1), (5, oD (.own 2001))] [(2001, .vec 3 (v1.2.map Az))]) (fun v2 => mk [(5, oD (.own 2002))] [(2002, .vec 3 (v2.map Az))]) (fun _ _ => rfl) ((Bc 5 2003 3 rfl rfl rfl).trans (sm [(2001, 2003)] _ _ rfl rfl)) (fun j1 n1 v1 h => ?_) (fun v2 s h hs => ?_)
 ·unfold Gq at h
  refine wp rfl (qw 2 rfl ?_)
  refine A8 h fun v3 a3 b3 h => qi Fz IW a3 (Ab b3) rfl (qg NN rfl (qk C2 rfl (CT rfl (Aa ?_))))
  refine A0 h (fun h => ?_) fun h => ?_
  ·refine Ag (Ay (AA (Ad Ap rfl (qw 3 rfl ?_))))
   refine A8 h fun v5 a5 b5 h => qi Fz IW a5 (Ab b5) rfl (qg PV rfl (qK I1 Eh rfl (ED D3 Eh JT rfl ?_)))
   refine Il h fun c6 h => EQ (f := Az) D3 D3 Eh OJ JT c6 rfl (qa rfl (Aa (Ad Ap rfl (qw 2 rfl ?_))))
   refine A8 h fun v7 a7 b7 h => qi Fz IW a7 (Ab b7) rfl (qg NN rfl (qk C2 rfl (qe rfl ?_)))
   exact sn [(2001, 24)] h
  ·refine AJ ?_
   exact sn [(2002, 2001)] h
 ·refine Ac hs (wq rfl (qm rfl ?_))
  refine Bg h fun v8 a8 h => Cl (ds0 := [_]) [2002] [] [true] (F2 N v2 v8 a8) (.p rfl) TW rfl ⟨rfl, tv⟩ rfl rfl (by decide) ⟨rfl, tv⟩ rfl (AU rfl) tv ⟨(fun h => by cases h), tv⟩ rfl rfl rfl ?_
  refine Aa (wq rfl (qm rfl (qe rfl ?_)))
  obtain rfl := sj h
  refine Ac (sm [(1000, 2002)] [(4, oD (.own 1000))] [(1000, .vec 3 (v8.map Az))] rfl rfl) (Al ?_)
  exact ⟨⟨[_], tm, rfl⟩, ⟨rfl, tv⟩⟩
theorem Nv (N : Nat) (p0 : Ae) (p1 : Ao) (r : (List Am) × Int) (h : Ix N p0 p1 = some r) : Ak zA0 75 [.e (.agg (Ai p0)), .e (.agg (AR p1))] [(3, r.1.map Az)] (.tup [.one (.own 0), .one (iC r.2)]) := by
 unfold Ix at h
 refine cw (n := 38) (rs := [.tmp 4, .tmp 5]) Tryz.func75 fun w0 S0 => ?_
 refine wq rfl (qb rfl (qb rfl (qa rfl (qa rfl (Aa (wq rfl (qL CS Cq rfl (qL Co Bh rfl ?_))))))))
 refine Bg h fun v1 a1 h => As [] (Gs N p0 p1 v1 a1) PU rfl (qm rfl (qx rfl (qx rfl (qa rfl (qa rfl (Aa (wp rfl (qm rfl (BJ rfl (Aa ?_))))))))))
 refine A0 h (fun h => ?_) fun h => ?_
 ·refine wq rfl (qm rfl (qa rfl (qe rfl ?_)))
  obtain rfl := sj h
  refine Ac ((Bc 4 2001 3 rfl rfl rfl).trans (sm [(1000, 2001)] [(4, oD (.own 1000)), (5, iD v1.2)] [(1000, .vec 3 ((([] : List Am)).map Az))] rfl rfl)) (Al ?_)
  exact ⟨⟨[_, _], ⟨.tmp _ _ rfl, tm⟩, rfl⟩, ⟨rfl, tv⟩⟩
 ·refine Ag (wp rfl (qm rfl (BN rfl (Aa ?_))))
  refine A0 h (fun h => ?_) fun h => ?_
  ·refine wq rfl (qa rfl (qe rfl ?_))
   obtain rfl := sj h
   refine Ac ((Bc 4 2002 3 rfl rfl rfl).trans (sm [(1000, 2002)] [(4, oD (.own 1000)), (5, iD 13)] [(1000, .vec 3 ((([] : List Am)).map Az))] rfl rfl)) (Al ?_)
   exact ⟨⟨[_, _], ⟨.tmp _ _ rfl, tm⟩, rfl⟩, ⟨rfl, tv⟩⟩
  ·refine Ag (wq rfl (qL CS Cq rfl (qL Co Bh rfl ?_)))
   refine Bg h fun v4 a4 h => As [] (L9 N p0 p1 v4 a4) S3 rfl (qm rfl (qx rfl (qx rfl (qa rfl (qa rfl (Aa (wp rfl (qm rfl (BJ rfl (Aa ?_))))))))))
   refine A0 h (fun h => ?_) fun h => ?_
   ·refine wq rfl (qm rfl (qa rfl (qe rfl ?_)))
    obtain rfl := sj h
    refine Ac ((Bc 4 2003 3 rfl rfl rfl).trans (sm [(1000, 2003)] [(4, oD (.own 1000)), (5, iD v4.2)] [(1000, .vec 3 ((([] : List Am)).map Az))] rfl rfl)) (Al ?_)
    exact ⟨⟨[_, _], ⟨.tmp _ _ rfl, tm⟩, rfl⟩, ⟨rfl, tv⟩⟩
   ·refine Ag (wq rfl (qm rfl (C3 (GC 2 [.sl (p0.fa.map Aq), .sl (p0.fk.map Aq), .sl (p0.fo.map Aq), .sl (p0.fb.map AO)] rfl rfl) ?_)))
    refine GP (capD := [_]) (A9 (I0 true AX) tB ((fun (x : AM) => E6 N x p0.fa p0.fk p0.fo p0.fb))) (.p rfl) SX rfl ⟨rfl, tv⟩ rfl (fun ar t ht => by obtain ⟨x, r, rfl, hq, rfl⟩ := Fn ht; exact Ma N x p0.fa p0.fk p0.fo p0.fb r hq) ?_
    refine Bg h fun v6 a6 h => As [] (E7 N v4.1 ((fun (x : AM) => E6 N x p0.fa p0.fk p0.fo p0.fb)) v6 a6) S5 rfl (qa rfl (Aa (wp rfl (qm rfl (AN rfl (Aa ?_))))))
    refine A0 h (fun h => ?_) fun h => ?_
    ·refine wq rfl (qa rfl (qe rfl ?_))
     obtain rfl := sj h
     refine Ac ((Bc 4 2004 3 rfl rfl rfl).trans (sm [(1000, 2004)] [(4, oD (.own 1000)), (5, iD 14)] [(1000, .vec 3 ((([] : List Am)).map Az))] rfl rfl)) (Al ?_)
     exact ⟨⟨[_, _], ⟨.tmp _ _ rfl, tm⟩, rfl⟩, ⟨rfl, tv⟩⟩
    ·refine Ag (wq rfl (qw 2 rfl ?_))
     refine Bg h fun v8 a8 h => As [2005] (Oe N v4.1 v6 v8 a8) Un rfl (qa rfl (qe rfl ?_))
     obtain rfl := sj h
     refine Ac (sm [(1000, 2005)] [(4, oD (.own 1000)), (5, iD 0)] [(1000, .vec 3 (v8.map Az))] rfl rfl) (Al ?_)
     exact ⟨⟨[_, _], ⟨.tmp _ _ rfl, tm⟩, rfl⟩, ⟨rfl, tv⟩⟩
theorem NT (N : Nat) (p0 : Ae) (r : (List Am) × Int) (h : Iw N p0 = some r) : Ak zA0 40 [.e (.agg (Ai p0))] [(3, r.1.map Az)] (.tup [.one (.own 0), .one (iC r.2)]) := by
 unfold Iw at h
 refine cw (n := 19) (rs := [.tmp 2, .tmp 3]) Tryz.func40 fun w0 S0 => ?_
 refine wq rfl (qb rfl (qa rfl (qa rfl (Aa (wq rfl (qL CS Cq rfl ?_))))))
 refine Bg h fun v1 a1 h => As [2001, 2002, 2003] (K0 N p0 v1 a1) Ui rfl (qm rfl (qx rfl (qx rfl (qz F1 rfl (qs Bh rfl (qa rfl (Aa (wp rfl (qm rfl (BJ rfl (Aa ?_)))))))))))
 refine A0 h (fun h => ?_) fun h => ?_
 ·refine wq rfl (qm rfl (qa rfl (qe rfl ?_)))
  obtain rfl := sj h
  refine Ac ((Bc 2 2004 3 rfl rfl rfl).trans (sm [(1000, 2004)] [(2, oD (.own 1000)), (3, iD v1.2)] [(1000, .vec 3 ((([] : List Am)).map Az))] rfl rfl)) (Al ?_)
  exact ⟨⟨[_, _], ⟨.tmp _ _ rfl, tm⟩, rfl⟩, ⟨rfl, tv⟩⟩
 ·refine Ag (wq rfl (qL CS Cq rfl (qL Co Bh rfl ?_)))
  refine Bg h fun v3 a3 h => CX [2005] [2001, 2002, 2003] (Nv N p0 v1.1 v3 a3) U2 (HO (fun _ => rfl) BO) rfl (qx rfl (qx rfl (qa rfl (qe rfl ?_))))
  obtain rfl := sj h
  refine Ac (sm [(1000, 2005)] [(2, oD (.own 1000)), (3, iD v3.2)] [(1000, .vec 3 (v3.1.map Az))] rfl rfl) (Al ?_)
  exact ⟨⟨[_, _], ⟨.tmp _ _ rfl, tm⟩, rfl⟩, ⟨rfl, tv⟩⟩
theorem Ib (N : Nat) (p0 : Ae) (p1 : List Int) (r : Bool × Int) (h : DI N p0 p1 = some r) : Ak zA0 12 [.e (.agg (Ai p0)), pD (.sl (p1.map Aq))] [] (.tup [.one (.pure (.val (.bool r.1))), .one (iC r.2)]) := by
 unfold DI at h
 refine cw (n := 36) (rs := [.tmp 4, .tmp 5]) Tryz.func12 fun w0 S0 => ?_
 refine wq rfl (qb rfl (qa rfl (qa rfl (Aa (wp rfl (qL CS Cq rfl ?_))))))
 refine Bg h fun v1 a1 h => As [] (Dg N p0 v1 a1) Qf rfl (qa rfl (Aa (wq rfl (qm rfl (BJ rfl (Aa ?_))))))
 refine A0 h (fun h => ?_) fun h => ?_
 ·refine wq rfl (qm rfl (qa rfl (qe rfl ?_)))
  obtain rfl := sj h
  refine Ac (sm [] [(4, bD false), (5, iD v1)] [] rfl rfl) (Al ?_)
  exact ⟨⟨[_, _], ⟨.tmp _ _ rfl, tm⟩, rfl⟩, tv⟩
 ·refine Ag (wq rfl (qL CS Cq rfl (qm rfl ?_)))
  refine Bg h fun v3 a3 h => As [2001, 2002, 2003, 2004] (In N p0 p1 v3 a3) Uf rfl (qm rfl (qx rfl (qx rfl (qz M6 rfl (qs Cq rfl (qa rfl (Aa (wp rfl (qm rfl (BJ rfl (Aa ?_)))))))))))
  refine A0 h (fun h => ?_) fun h => ?_
  ·refine wq rfl (qm rfl (qa rfl (qe rfl ?_)))
   obtain rfl := sj h
   refine Ac (sm [] [(4, bD false), (5, iD v3.2)] [] rfl rfl) (Al ?_)
   exact ⟨⟨[_, _], ⟨.tmp _ _ rfl, tm⟩, rfl⟩, tv⟩
  ·refine Ag (wp rfl (qL CS Cq rfl ?_))
   refine Bg h fun v5 a5 h => CX [2005] [2001, 2002, 2003, 2004] (NT N v3.1 v5 a5) UT (HO (fun _ => rfl) BO) rfl (qm rfl (qx rfl (qx rfl (qa rfl (qa rfl (Aa (wq rfl (qm rfl (Aa (AA (wq rfl (BW rfl (qe rfl ?_)))))))))))))
   refine A0 h (fun h => ?_) fun h => ?_
   ·refine wq rfl (qa rfl (qe rfl ?_))
    obtain rfl := sj h
    refine Ac (sm [] [(4, bD false), (5, iD 0)] [] rfl rfl) (Al ?_)
    exact ⟨⟨[_, _], ⟨.tmp _ _ rfl, tm⟩, rfl⟩, tv⟩
   ·refine wq rfl (BW rfl (qe rfl ?_))
    refine A0 h (fun h => ?_) fun h => ?_
    ·refine wq rfl (qm rfl (qa rfl (qe rfl ?_)))
     obtain rfl := sj h
     refine Ac (sm [] [(4, bD false), (5, iD v5.2)] [] rfl rfl) (Al ?_)
     exact ⟨⟨[_, _], ⟨.tmp _ _ rfl, tm⟩, rfl⟩, tv⟩
    ·refine Ag (wq rfl (qa rfl (qe rfl ?_)))
     obtain rfl := sj h
     refine Ac (sm [] [(4, bD true), (5, iD 0)] [] rfl rfl) (Al ?_)
     exact ⟨⟨[_, _], ⟨.tmp _ _ rfl, tm⟩, rfl⟩, tv⟩
theorem L6 (N : Nat) (p0 : Ae) (p1 : Int) (r : Bool × Int) (h : Hx N p0 p1 = some r) : Ak zA0 79 [.e (.agg (Ai p0)), pD (.val (.int .u64 p1))] [] (.tup [.one (.pure (.val (.bool r.1))), .one (iC r.2)]) := by
 unfold Hx at h
 refine cw (n := 12) (rs := [.tmp 4, .tmp 5]) Tryz.func79 fun w0 S0 => ?_
 refine wq rfl (qb rfl (qa rfl (qa rfl (Aa (wq rfl (qL CS Cq rfl (qm rfl ?_)))))))
 refine Bg h fun v1 a1 h => As [2001] (Fb N p1 v1 a1) PJ rfl ?_
 refine Bg h fun v2 a2 h => CX [] [2001] (Ib N p0 v1 v2 a2) Sc BO rfl (qx rfl (qx rfl (qa rfl (qa rfl (AF (by kernel_rfl) ?_)))))
 obtain rfl := sj h
 refine Ac (sm [] [(4, bD v2.1), (5, iD v2.2)] [] rfl rfl) (Al ?_)
 exact ⟨⟨[_, _], ⟨.tmp _ _ rfl, tm⟩, rfl⟩, tv⟩
theorem II (N : Nat) (p0 : Ae) (r : (List Int) × (List (Int × Bool)) × Int) (h : Eb N p0 = some r) : Ak zA0 42 [.e (.agg (Ai p0))] [(1, r.1.map Aj)] (.tup [.one (.own 0), .one (.pure (.mp (Em (Value.int .u64) tB r.2.1))), .one (iC r.2.2)]) := by
 unfold Eb at h
 refine cw (n := 56) (rs := [.tmp 2, .tmp 3, .tmp 4]) Tryz.func42 fun w0 S0 => ?_
 refine wq rfl (qb rfl (qa rfl (qa rfl (qa rfl (Aa (wp rfl (qL CS Cq rfl ?_)))))))
 refine Bg h fun v1 a1 h => As [] (Dg N p0 v1 a1) Qf rfl (qa rfl (Aa (wq rfl (qm rfl (BJ rfl (Aa ?_))))))
 refine A0 h (fun h => ?_) fun h => ?_
 ·refine wq rfl (qm rfl (qa rfl (qa rfl (qe rfl ?_))))
  obtain rfl := sj h
  refine Ac ((Bc 2 2001 1 rfl rfl rfl).trans (sm [(1000, 2001)] [(2, oD (.own 1000)), (3, pD (.mp (Em (Value.int .u64) tB (([] : List (Int × Bool)))))), (4, iD v1)] [(1000, .vec 1 ((([] : List Int)).map Aj))] rfl rfl)) (Al ?_)
  exact ⟨⟨[_, _, _], ⟨.tmp _ _ rfl, ⟨.tmp _ _ rfl, tm⟩⟩, rfl⟩, ⟨rfl, tv⟩⟩
 ·refine Ag (wq rfl (qa rfl (Aa (wp rfl (qf B4 rfl (ql Bx rfl (AD AC rfl ?_)))))))
  refine Il h fun c3 h => IT rfl c3 (qm rfl (Aa ?_))
  refine Av (L := Fp N p0) h (fun v4 => mk [(1, oD (.ptr 1 0)), (6, oD (.own 2002)), (21, pD (.val (.int .u64 ((DJ .u64 1 ((p0.fa.length : Int))))))), (22, pD (.val (.int .u64 v4.2)))] [(1, .box (Ai p0)), (2002, .vec 1 (v4.1.map Aj))]) (fun v5 => mk [(1, oD (.ptr 1 0)), (6, oD (.own 2003))] [(1, .box (Ai p0)), (2003, .vec 1 (v5.map Aj))]) (fun _ _ => rfl) ((Bc 6 2004 1 rfl rfl rfl).trans (sm [(2002, 2004)] _ _ rfl rfl)) (fun j4 n4 v4 h => ?_) (fun v5 s h hs => ?_)
  ·unfold Fp at h
   refine wq rfl (AN rfl (Aa (Ay ?_)))
   refine A0 h (fun h => ?_) fun h => ?_
   ·refine Ag (Ay (AA (wq rfl (qm rfl (qa rfl (Aa (Ad Ap rfl (qw 2 rfl (ED AK AS NQ rfl ?_)))))))))
    refine Il h fun c7 h => EQ (f := Aj) AK AK AS PX NQ c7 rfl (qa rfl (Aa (Ad Ap rfl (AE rfl (qm rfl (Aa ?_))))))
    exact sn [(2002, 28)] h
   ·refine AJ ?_
    exact sn [(2003, 2002)] h
  ·refine Ac hs (wq rfl (qm rfl ?_))
   refine Bg h fun v8 a8 h => Cl (ds0 := [_, _]) [2003] [] [true] (Bi.weak (ds' := [_, oD (.fnc 78)]) (Hu N v5 ((fun (x : Int × Int) => FN N x.1 x.2)) v8 a8) ⟨(fun _ _ _ hh => hh), (fun _ _ _ hh => Qr UE (fun ar t ht => by obtain ⟨x, r, rfl, hq, rfl⟩ := Fn ht; exact LH N x.1 x.2 r hq) hh), tv⟩) (.p rfl) U9 rfl ⟨rfl, rfl, tv⟩ rfl rfl (by decide) ⟨rfl, tv⟩ rfl (AU rfl) tv ⟨(fun h => by cases h), tv⟩ rfl rfl rfl ?_
   refine Aa (wq rfl (qm rfl (Eu AK rfl ?_)))
   refine Of (.p rfl) rfl KM rfl ?_
   refine qa rfl (Aa (wp rfl (qm rfl (Eu AK rfl (qm rfl (Aa ?_))))))
   refine Av (L := Fr N p0 v8) h (fun v9 => mk [(1, oD (.ptr 1 0)), (6, oD (.own 2005)), (8, oD (.mref 2006)), (35, oD (.own 2005)), (36, iD ((v8.length : Int))), (37, iD v9.2)] [(1, .box (Ai p0)), (2005, .vec 1 (v8.map Aj)), (2006, .mp (Em (Value.int .u64) tB v9.1))]) (fun v10 => mk [(6, oD (.own 2007)), (8, oD (.mref 2008))] [(2007, .vec 1 (v8.map Aj)), (2008, .mp (Em (Value.int .u64) tB v10))]) (fun _ _ => rfl) (sm [(2005, 2003), (2006, 34)] _ _ rfl rfl) (fun j9 n9 v9 h => ?_) (fun v10 s h hs => ?_)
   ·unfold Fr at h
    refine wq rfl (AN rfl (Aa (Ay ?_)))
    refine A0 h (fun h => ?_) fun h => ?_
    ·refine Ag (Ay (AA (wq rfl ?_)))
     refine A8 h fun v12 a12 b12 h => qI AK AS a12 (Ab b12) rfl (qj Ch (Ab b12) rfl (qa rfl (Aa (wq rfl (qL CS Cq rfl (qm rfl ?_))))))
     refine Bg h fun v13 a13 h => As [] (L6 N p0 v12 v13 a13) US rfl (qm rfl (qx rfl (qx rfl (qa rfl (qa rfl (Aa (wp rfl (qm rfl (BJ rfl (Aa ?_))))))))))
     refine A0 h (fun h => ?_) fun h => ?_
     ·refine wq rfl (qm rfl (qa rfl (qa rfl (qe rfl ?_))))
      obtain rfl := sj h
      refine Ac ((Bc 2 2009 1 rfl rfl rfl).trans (sm [(1000, 2009)] [(2, oD (.own 1000)), (3, pD (.mp (Em (Value.int .u64) tB (([] : List (Int × Bool)))))), (4, iD v13.2)] [(1000, .vec 1 ((([] : List Int)).map Aj))] rfl rfl)) (Al ?_)
      exact ⟨⟨[_, _, _], ⟨.tmp _ _ rfl, ⟨.tmp _ _ rfl, tm⟩⟩, rfl⟩, ⟨rfl, tv⟩⟩
     ·refine Ag (Ad Ap rfl (qw 3 rfl ?_))
      refine Lh (kv := (Value.int .u64)) (vt := tB) (m := v9.1) (k := v12) (v := v13.1) rfl (.inl rfl) rfl rfl rfl rfl (Jz KM OU) rfl ?_
      refine Aa (Ad Ap rfl (AE rfl (qm rfl (Aa ?_))))
      exact sn [] h
    ·refine AJ ?_
     exact sn [(2007, 2005), (2008, 2006)] h
   ·refine Ac hs (wq rfl (qw 2 rfl (qa rfl (qa rfl (qe rfl ?_)))))
    obtain rfl := sj h
    refine Ac ((O6 2008 _ rfl rfl).trans (sm [(1000, 2007)] [(2, oD (.own 1000)), (3, pD (.mp (Em (Value.int .u64) tB v10))), (4, iD 0)] [(1000, .vec 1 (v8.map Aj))] rfl rfl)) (Al ?_)
    exact ⟨⟨[_, _, _], ⟨.tmp _ _ rfl, ⟨.tmp _ _ rfl, tm⟩⟩, rfl⟩, ⟨rfl, tv⟩⟩
theorem KI (N : Nat) (p0 : Int) (p1 : Int) (r : Bool) (h : D1 N p0 p1 = some r) : Ak zA0 81 [pD (.val (.int .u64 p0)), oD (.rop [.val (.int .u64 p1)])] [] (bD r) := by
 unfold D1 at h
 refine cw (n := 8) (rs := [.tmp 3]) Tryz.func81 fun w0 S0 => ?_
 refine wq rfl (qa rfl (Aa (wq rfl (qm rfl (qk Ch rfl (Jk rfl (BW rfl (qe rfl ?_))))))))
 obtain rfl := sj h
 refine Ac (sm [] [(3, bD (((GV .u64 p0 p1) == 0)))] [] rfl rfl) (Al ?_)
 exact ⟨⟨[_], tm, rfl⟩, tv⟩
theorem ET (N : Nat) (p0 : List Int) (p1 : Int → Option Bool) (r : Int) (h : Ct N p0 p1 = some r) : Ak zA0 80 [pD (.sl (p0.map Aj)), oD (.clo (A9 (I0 false Aj) tB p1))] [] (iD r) := by
 unfold Ct at h
 refine cw (n := 19) (rs := [.tmp 4]) Tryz.func80 fun w0 S0 => ?_
 refine wq rfl (qa rfl (Aa (wp rfl (qm rfl (AD AK rfl (qm rfl (Aa ?_)))))))
 refine Av (L := B5 N p0 p1) h (fun v1 => mk [(0, pD (.sl (p0.map Aj))), (1, oD (.clo (A9 (I0 false Aj) tB p1))), (7, iD ((p0.length : Int))), (8, iD v1)] []) (fun v2 => mk [] []) (fun _ _ => rfl) (sm [] _ _ rfl rfl) (fun j1 n1 v1 h => ?_) (fun v2 s h hs => ?_)
 ·unfold B5 at h
  refine wq rfl (AN rfl (Aa (Ay ?_)))
  refine A0 h (fun h => ?_) fun h => ?_
  ·refine Ag (Ay (AA (wq rfl (qm rfl (qa rfl (Aa (wq rfl (qw 3 rfl ?_))))))))
   refine A8 h fun v4 a4 b4 h => qi AK AS a4 (Ab b4) rfl (qk Ch rfl ?_)
   refine Bg h fun v5 a5 h => CV (ds0 := [_]) (ar := (I0 false Aj) v4) (.p rfl) rfl rfl ⟨rfl, tv⟩ rfl rfl rfl (C0 (IE _ _ CP) a5) ?_
   refine Aa ?_
   refine A0 h (fun h => ?_) fun h => ?_
   ·refine wq rfl (qm rfl (qe rfl ?_))
    obtain rfl := sj h
    refine Ac (sm [] [(4, iD v1)] [] rfl rfl) (Al ?_)
    exact ⟨⟨[_], tm, rfl⟩, tv⟩
   ·refine Ag (Ad Ap rfl (AE rfl (qm rfl (Aa ?_))))
    exact sn [] h
  ·refine AJ ?_
   exact sn [] h
 ·refine Ac hs (wq rfl (qe rfl ?_))
  obtain rfl := sj h
  refine Ac (sm [] [(4, iD ((-1)))] [] rfl rfl) (Al ?_)
  exact ⟨⟨[_], tm, rfl⟩, tv⟩
theorem El (N : Nat) (p0 : List Int) (p1 : Int → Option Bool) (r : Bool) (h : B6 N p0 p1 = some r) : Ak zA0 46 [pD (.sl (p0.map Aj)), oD (.clo (A9 (I0 false Aj) tB p1))] [] (bD r) := by
 unfold B6 at h
 refine cw (n := 9) (rs := [.tmp 4]) Tryz.func46 fun w0 S0 => ?_
 refine wq rfl (qa rfl (Aa (wq rfl (qw 2 rfl ?_))))
 refine Bg h fun v1 a1 h => As [] (ET N p0 p1 v1 a1) S8 rfl (CT rfl (qe rfl ?_))
 obtain rfl := sj h
 refine Ac (sm [] [(4, bD ((decide (0 ≤ v1))))] [] rfl rfl) (Al ?_)
 exact ⟨⟨[_], tm, rfl⟩, tv⟩
theorem I2 (N : Nat) (p0 : List Int) (p1 : List (Int × Bool)) (r : (List Int)) (h : FV N p0 p1 = some r) : Ak zA0 51 [pD (.sl (p0.map Aj)), pD (.mp (Em (Value.int .u64) tB p1))] [(1, r.map Aj)] (oD (.own 0)) := by
 unfold FV at h
 refine cw (n := 29) (rs := [.tmp 4]) Tryz.func51 fun w0 S0 => ?_
 refine wq rfl (qa rfl (Aa (wq rfl (qa rfl (Aa (wp rfl (qm rfl (AD AK rfl (qm rfl (Aa ?_))))))))))
 refine Av (L := EK N p0 p1) h (fun v1 => mk [(1, pD (.mp (Em (Value.int .u64) tB p1))), (5, oD (.own 2001)), (8, pD (.sl (p0.map Aj))), (9, iD ((p0.length : Int))), (10, iD v1.2)] [(2001, .vec 1 (v1.1.map Aj))]) (fun v2 => mk [(5, oD (.own 2002))] [(2002, .vec 1 (v2.map Aj))]) (fun _ _ => rfl) ((Bc 5 2005 1 rfl rfl rfl).trans (sm [(2001, 2005)] _ _ rfl rfl)) (fun j1 n1 v1 h => ?_) (fun v2 s h hs => ?_)
 ·unfold EK at h
  refine wq rfl (AN rfl (Aa (Ay ?_)))
  refine A0 h (fun h => ?_) fun h => ?_
  ·refine Ag ?_
   refine AG h (fun v4 => mk [(1, pD (.mp (Em (Value.int .u64) tB p1))), (5, oD (.own 2003)), (8, pD (.sl (p0.map Aj))), (9, iD ((p0.length : Int))), (10, iD v1.2)] [(2003, .vec 1 (v4.map Aj))]) (fun j4 h => ?_) (fun v4 h => ?_)
   ·refine AA (wq rfl ?_)
    refine A8 h fun v5 a5 b5 h => qi AK AS a5 (Ab b5) rfl (qk Ch rfl (qz NQ rfl (qs AS rfl (Aa ?_))))
    refine AG h (fun v6 => mk [(1, pD (.mp (Em (Value.int .u64) tB p1))), (5, oD (.own 2004)), (7, oD (.rop [.val (.int .u64 v5)])), (8, pD (.sl (p0.map Aj))), (9, iD ((p0.length : Int))), (10, iD v1.2), (22, bD v6)] [(2004, .vec 1 (v1.1.map Aj))]) (fun j6 h => ?_) (fun v6 h => ?_)
    ·refine Ad Ap rfl (qm rfl (ql Ch rfl ?_))
     refine KD (kv := (Value.int .u64)) (vt := tB) (m := p1) (dv := false) (.p rfl) rfl rfl (Jz KM OU) (by rw [KM]; rfl) RD rfl rfl rfl ?_
     refine qm rfl ?_
     refine DE 17 h rfl (fun h => ?_) fun h => ?_
     ·refine qm rfl (C3 (GC 7 [.val (.int .u64 v5)] rfl rfl) ?_)
      refine GP (capD := [_]) (A9 (I0 false Aj) tB ((fun (x : Int) => D1 N x v5))) (.g rfl rfl) UF rfl ⟨rfl, tv⟩ rfl (fun ar t ht => by obtain ⟨x, r, rfl, hq, rfl⟩ := Fn ht; exact KI N x v5 r hq) ?_
      refine Bg h fun v8 a8 h => CX [] [2001] (El N v1.1 ((fun (x : Int) => D1 N x v5)) v8 a8) T3 BO rfl (BN rfl (qp rfl (Aa ?_)))
      exact sn [(2004, 2001)] h
     ·refine qw 4 rfl (qp rfl (Aa ?_))
      exact Sy _ h ((GC 7 [.val (.int .u64 v5)] rfl rfl).trans (sm [(2004, 2001)] _ _ rfl rfl))
    ·refine A0 h (fun h => ?_) fun h => ?_
     ·refine Ad Ap rfl (qm rfl (qk Ch rfl (ED AK AS NQ rfl ?_)))
      refine Il h fun c10 h => EQ (f := Aj) AK AK AS PX NQ c10 rfl (qe rfl ?_)
      exact sn [(2003, 26)] h
     ·refine Ag ?_
      exact sn [(2003, 2004)] h
   ·refine Ad Ap rfl (AE rfl (qm rfl (Aa ?_)))
    exact sn [(2001, 2003)] h
  ·refine AJ ?_
   exact sn [(2002, 2001)] h
 ·refine Ac hs (wq rfl (qm rfl (qe rfl ?_)))
  obtain rfl := sj h
  refine Ac (sm [(1000, 2002)] [(4, oD (.own 1000))] [(1000, .vec 1 (v2.map Aj))] rfl rfl) (Al ?_)
  exact ⟨⟨[_], tm, rfl⟩, ⟨rfl, tv⟩⟩
theorem J7 (N : Nat) (p0 : List Int) (r : (List (List Int))) (h : G5 N p0 = some r) : Ak zA0 48 [pD (.sl (p0.map Aj))] [(1, r.map (GD Aq))] (oD (.own 0)) := by
 unfold G5 at h
 refine cw (n := 19) (rs := [.tmp 2]) Tryz.func48 fun w0 S0 => ?_
 refine wq rfl (qa rfl (Aa (wq rfl (qa rfl (Aa (wp rfl (qm rfl (AD AK rfl (qm rfl (Aa ?_))))))))))
 refine Av (L := Fi N p0) h (fun v1 => mk [(3, oD (.own 2001)), (6, pD (.sl (p0.map Aj))), (7, iD ((p0.length : Int))), (8, iD v1.2)] [(2001, .vec 1 (v1.1.map (GD Aq)))]) (fun v2 => mk [(3, oD (.own 2002))] [(2002, .vec 1 (v2.map (GD Aq)))]) (fun _ _ => rfl) ((Bc 3 2004 1 rfl rfl rfl).trans (sm [(2001, 2004)] _ _ rfl rfl)) (fun j1 n1 v1 h => ?_) (fun v2 s h hs => ?_)
 ·unfold Fi at h
  refine wq rfl (AN rfl (Aa (Ay ?_)))
  refine A0 h (fun h => ?_) fun h => ?_
  ·refine Ag (Ay (AA (wq rfl ?_)))
   refine A8 h fun v4 a4 b4 h => qi AK AS a4 (Ab b4) rfl (qk Ch rfl (qa rfl (Aa (Ad Ap rfl (qw 2 rfl ?_)))))
   refine Bg h fun v5 a5 h => As [2003] (Fb N v4 v5 a5) PJ rfl (C3 (BQ 2003 _ _ rfl rfl) (ED HS LO Rc rfl ?_))
   refine Il h fun c6 h => EQ (f := (GD Aq)) HS HS LO Ub Rc c6 rfl (qa rfl (Aa (Ad Ap rfl (AE rfl (qm rfl (Aa ?_))))))
   exact sn [(2001, 16)] h
  ·refine AJ ?_
   exact sn [(2002, 2001)] h
 ·refine Ac hs (wq rfl (qm rfl (qe rfl ?_)))
  obtain rfl := sj h
  refine Ac (sm [(1000, 2002)] [(2, oD (.own 1000))] [(1000, .vec 1 (v2.map (GD Aq)))] rfl rfl) (Al ?_)
  exact ⟨⟨[_], tm, rfl⟩, ⟨rfl, tv⟩⟩
theorem JS (N : Nat) (p0 : Ae) (r : (List (List Int)) × Int) (h : Fc N p0 = some r) : Ak zA0 18 [.e (.agg (Ai p0))] [(1, r.1.map (GD Aq))] (.tup [.one (.own 0), .one (iC r.2)]) := by
 unfold Fc at h
 refine cw (n := 20) (rs := [.tmp 2, .tmp 3]) Tryz.func18 fun w0 S0 => ?_
 refine wq rfl (qb rfl (qa rfl (qa rfl (Aa (wq rfl (qL CS Cq rfl ?_))))))
 refine Bg h fun v1 a1 h => As [2001] (II N p0 v1 a1) R7 rfl (qm rfl (qx rfl (qx rfl (qx rfl (qa rfl (qa rfl (qa rfl (Aa (wp rfl (qm rfl (BJ rfl (Aa ?_))))))))))))
 refine A0 h (fun h => ?_) fun h => ?_
 ·refine wq rfl (qm rfl (qa rfl (qe rfl ?_)))
  obtain rfl := sj h
  refine Ac ((Bc 2 2002 1 rfl rfl rfl).trans (sm [(1000, 2002)] [(2, oD (.own 1000)), (3, iD v1.2.2)] [(1000, .vec 1 ((([] : List (List Int))).map (GD Aq)))] rfl rfl)) (Al ?_)
  exact ⟨⟨[_, _], ⟨.tmp _ _ rfl, tm⟩, rfl⟩, ⟨rfl, tv⟩⟩
 ·refine Ag (wq rfl (qw 2 rfl ?_))
  refine Bg h fun v3 a3 h => CX [2003] [2001] (I2 N v1.1 v1.2.1 v3 a3) TS (HO (fun _ => rfl) BO) rfl (C3 (BQ 2003 _ _ rfl rfl) ?_)
  refine Bg h fun v4 a4 h => As [2004] (J7 N v3 v4 a4) TP rfl (qa rfl (qe rfl ?_))
  obtain rfl := sj h
  refine Ac (sm [(1000, 2004)] [(2, oD (.own 1000)), (3, iD 0)] [(1000, .vec 1 (v4.map (GD Aq)))] rfl rfl) (Al ?_)
  exact ⟨⟨[_, _], ⟨.tmp _ _ rfl, tm⟩, rfl⟩, ⟨rfl, tv⟩⟩
theorem Ia (N : Nat) (p0 : List Int) (r : (List Int)) (h : DX N p0 = some r) : Ak zA0 44 [pD (.sl (p0.map Aj))] [(1, r.map Aj)] (oD (.own 0)) := by
 unfold DX at h
 refine cw (n := 8) (rs := [.tmp 2]) Tryz.func44 fun w0 S0 => ?_
 refine wq rfl (qa rfl (Aa (wp rfl (qm rfl ?_))))
 refine Kc (.p rfl) rfl AK ?_
 refine Aa ?_
 refine Kk rfl (fun c2 => ?_) ?_
 ·have c2 := zF2.1 c2
  rw [c2] at h
  have h : (some (([] : List Int))) = some r := h
  refine wq rfl (qe rfl ?_)
  obtain rfl := sj h
  refine Ac ((Bc 2 2001 1 rfl rfl rfl).trans (sm [(1000, 2001)] [(2, oD (.own 1000))] [(1000, .vec 1 ((([] : List Int)).map Aj))] rfl rfl)) (Al ?_)
  exact ⟨⟨[_], tm, rfl⟩, ⟨rfl, tv⟩⟩
 ·refine Ag (wq rfl (ED AK AS NQ rfl (qm rfl ?_)))
  refine Il h fun c1 h => LJ (f := Aj) AK AK AS PX NQ (fun _ => rfl) c1 rfl (qe rfl ?_)
  obtain rfl := sj h
  refine Ac (sm [(1000, 7)] [(2, oD (.own 1000))] [(1000, .vec 1 (((([] : List Int)) ++ p0).map Aj))] rfl rfl) (Al ?_)
  exact ⟨⟨[_], tm, rfl⟩, ⟨rfl, tv⟩⟩
theorem K4 (N : Nat) (p0 : Int) (p1 : List (Int × Bool)) (p2 : Int) (r : Bool) (h : Ez N p0 p1 p2 = some r) : Ak zA0 47 [pD (.val (.int .u64 p0)), oD (.rop [.mp (Em (Value.int .u64) tB p1)]), oD (.rop [.val (.int .u64 p2)])] [] (bD r) := by
 unfold Ez at h
 refine cw (n := 20) (rs := [.tmp 4]) Tryz.func47 fun w0 S0 => ?_
 refine wq rfl (qe rfl ?_)
 refine AG h (fun v1 => mk [(4, bD v1)] []) (fun j1 h => ?_) (fun v1 h => ?_)
 ·refine Ad Ap rfl (qk Ul rfl (qm rfl ?_))
  refine KD (kv := (Value.int .u64)) (vt := tB) (m := p1) (dv := false) (.p rfl) rfl rfl (Jz KM OU) (by rw [KM]; rfl) RD rfl rfl rfl ?_
  refine BN rfl (qm rfl ?_)
  refine DE 9 h rfl (fun h => ?_) fun h => ?_
  ·refine qm rfl (qk Ch rfl (BJ rfl (qp rfl (qm rfl ?_))))
   refine DE 14 h rfl (fun h => ?_) fun h => ?_
   ·refine qk Ch rfl (qm rfl (Jk rfl (BW rfl (qp rfl (qe rfl ?_)))))
    exact sn [] h
   ·refine qw 4 rfl (qp rfl (qe rfl ?_))
    exact sn [] h
  ·refine qw 3 rfl (qp rfl (qw 5 rfl (qp rfl (qe rfl ?_))))
   exact sn [] h
 ·obtain rfl := sj h
  refine Ac (sm [] [(4, bD v1)] [] rfl rfl) (Al ?_)
  exact ⟨⟨[_], tm, rfl⟩, tv⟩
theorem LZ (N : Nat) (p0 : Int) (p1 : List (Int × Bool)) (p2 : List Int) (r : Bool) (h : Fh N p0 p1 p2 = some r) : Ak zA0 45 [pD (.val (.int .u64 p0)), oD (.rop [.mp (Em (Value.int .u64) tB p1)]), oD (.rop [.sl (p2.map Aj)])] [] (bD r) := by
 unfold Fh at h
 refine cw (n := 13) (rs := [.tmp 4]) Tryz.func45 fun w0 S0 => ?_
 refine wq rfl (qb rfl (qe rfl ?_))
 refine AG h (fun v1 => mk [(4, bD v1)] []) (fun j1 h => ?_) (fun v1 h => ?_)
 ·refine Ad Ap rfl (qk Ul rfl (ql Ch rfl ?_))
  refine KD (kv := (Value.int .u64)) (vt := tB) (m := p1) (dv := false) (.p rfl) rfl rfl (Jz KM OU) (by rw [KM]; rfl) RD rfl rfl rfl ?_
  refine qm rfl ?_
  refine DE 8 h rfl (fun h => ?_) fun h => ?_
  ·refine qw 3 rfl (qp rfl (qe rfl ?_))
   exact sn [] h
  ·refine qk SN rfl (C3 (GC 3 [.val (.int .u64 p0)] rfl rfl) ?_)
   refine GP (capD := [_, _]) (A9 (I0 false Aj) tB ((fun (x : Int) => Ez N x p1 p0))) (.g rfl rfl) UV rfl ⟨rfl, rfl, tv⟩ rfl (fun ar t ht => by obtain ⟨x, r, rfl, hq, rfl⟩ := Fn ht; exact K4 N x p1 p0 r hq) ?_
   refine Bg h fun v3 a3 h => As [] (El N p2 ((fun (x : Int) => Ez N x p1 p0)) v3 a3) T3 rfl (qp rfl (qe rfl ?_))
   exact sn [] h
 ·obtain rfl := sj h
  refine Ac (sm [] [(4, bD v1)] [] rfl rfl) (Al ?_)
  exact ⟨⟨[_], tm, rfl⟩, tv⟩
theorem Ha (N : Nat) (p0 : List Int) (p1 : Int → Option Bool) (r : Nat × (List Int)) (h : Db N p0 p1 = some r) : Bi zA0 43 [oD (.own 90000), oD (.clo (A9 (I0 false Aj) tB p1))] [(.vec 1 (p0.map Aj), .vec 1 (r.2.map Aj))] [] (oD (.view 90000 1 0 r.1)) := by
 unfold Db at h
 refine A3 (n := 42) (rs := [.tmp 4]) Tryz.func43 rfl rfl rfl (CH rfl) (CH rfl) rfl rfl (CH rfl) rfl (CH rfl) fun w0 S0 GL => ?_
 refine Ac (sm [] [(0, oD (.own 90000)), (1, oD (.clo (A9 (I0 false Aj) tB p1)))] [(90000, .vec 1 (p0.map Aj))] rfl rfl) (wq rfl (qa rfl (Aa (wq rfl (qw 2 rfl ?_)))))
 refine Bg h fun v1 a1 h => CX [] [90000] (ET N p0 p1 v1 a1) S8 BO rfl (qa rfl (Aa (wp rfl (qm rfl (BW rfl (Aa ?_))))))
 refine A0 h (fun h => ?_) fun h => ?_
 ·refine wq rfl (qm rfl (qe rfl ?_))
  obtain rfl := sj h
  refine Ac ((OI Aj p0 4 90000 1 rfl rfl).trans (sm [] [(4, oD (.view 90000 1 0 p0.length))] [(90000, .vec 1 (p0.map Aj))] rfl rfl)) (Al ?_)
  exact ⟨⟨[_], tm, rfl⟩, ⟨rfl, tv⟩, tv⟩
 ·refine Ag (wp rfl (qm rfl (AE rfl (qe rfl ?_))))
  refine Av (L := B1 N p1) h (fun v3 => mk [(0, oD (.own 90000)), (1, oD (.clo (A9 (I0 false Aj) tB p1))), (5, iD v3.2.1), (6, iD v3.2.2)] [(90000, .vec 1 (v3.1.map Aj))]) (fun v4 => mk [(0, oD (.own 90000)), (5, iD v4.2)] [(90000, .vec 1 (v4.1.map Aj))]) (fun _ _ => rfl) (sm [] _ _ rfl rfl) (fun j3 n3 v3 h => ?_) (fun v4 s h hs => ?_)
  ·unfold B1 at h
   refine wp rfl (qw 2 rfl (Eu AK rfl (AN rfl (Aa ?_))))
   refine A0 h (fun h => ?_) fun h => ?_
   ·refine Ag ?_
    refine AG h (fun v6 => mk [(0, oD (.own 90000)), (1, oD (.clo (A9 (I0 false Aj) tB p1))), (5, iD v6.2), (6, iD v3.2.2)] [(90000, .vec 1 (v6.1.map Aj))]) (fun j6 h => ?_) (fun v6 h => ?_)
    ·refine AA (wq rfl (qw 2 rfl ?_))
     refine A8 h fun v7 a7 b7 h => qI AK AS a7 (Ab b7) rfl (qj Ch (Ab b7) rfl (qa rfl (Aa (wq rfl (qw 2 rfl ?_)))))
     refine Bg h fun v8 a8 h => CV (ds0 := [_]) (ar := (I0 false Aj) v7) (.p rfl) rfl rfl ⟨rfl, tv⟩ rfl rfl rfl (C0 (IE _ _ CP) a8) ?_
     refine BN rfl (Aa ?_)
     refine A0 h (fun h => ?_) fun h => ?_
     ·refine wq rfl (qw 3 rfl ?_)
      refine A8 h fun v10 a10 b10 h => qI AK AS a10 (Ab b10) rfl ?_
      refine AV rfl rfl rfl rfl (Ab b10) rfl AS rfl (CH rfl) (AT Aj v3.1 _ v7) ?_
      refine Aa (Ad Ap rfl (qm rfl (AE rfl (qe rfl ?_))))
      exact sn [] h
     ·refine Ag ?_
      exact sn [] h
    ·refine Ad Ap rfl (qm rfl (AE rfl (qe rfl ?_)))
     exact sn [] h
   ·refine AJ ?_
    exact sn [] h
  ·refine Ac hs (wq rfl (qw 2 rfl ?_))
   obtain ⟨c11, h⟩ := FL h
   have w12 : ((v4.2).toNat) + ((v4.1.length - (v4.2).toNat)) ≤ v4.1.length := by have := c11.2.1; have := c11.2.2; omega
   refine Ig Aj v4.1 (.p rfl) rfl (HN Aj _ _ v4.1) rfl AK AS (.some _ _ _ _ c11.1) (.none _) ⟨rfl, tv⟩ tv c11.2.1 (by rw [zA3]; exact c11.2.2) (zA3 _) rfl ?_
   have w13 : (Iu v4.1 ((v4.2).toNat) (zA6 ((v4.1.length - (v4.2).toNat)) ((0 : Int)))).length = v4.1.length := IN (by rw [List.length_replicate]; exact w12)
   refine NU Aj v4.1 ((0 : Int)) rfl rfl (KC Aj _ _ ((v4.2).toNat) ((v4.1.length - (v4.2).toNat)) v4.1 w12) rfl AK NQ rfl rfl rfl rfl ?_
   refine Aa (wq rfl (qw 2 rfl ?_))
   obtain ⟨c14, h⟩ := FL h
   have w15 : 0 + ((v4.2).toNat) ≤ (Iu v4.1 ((v4.2).toNat) (zA6 ((v4.1.length - (v4.2).toNat)) ((0 : Int)))).length := by have := c14.2.1; have := c14.2.2; omega
   refine Ig Aj (Iu v4.1 ((v4.2).toNat) (zA6 ((v4.1.length - (v4.2).toNat)) ((0 : Int)))) (.p rfl) rfl (HN Aj _ _ (Iu v4.1 ((v4.2).toNat) (zA6 ((v4.1.length - (v4.2).toNat)) ((0 : Int))))) rfl AK AS (.none _) (.some _ _ _ _ c14.1) tv ⟨rfl, tv⟩ c14.2.1 (by rw [zA3]; exact c14.2.2) (zA3 _) rfl ?_
   refine qa rfl (Aa ?_)
   obtain rfl := sj h
   refine Ac (sm [] [(4, oD (.view 90000 1 0 ((v4.2).toNat)))] [(90000, .vec 1 ((Iu v4.1 ((v4.2).toNat) (zA6 ((v4.1.length - (v4.2).toNat)) ((0 : Int)))).map Aj))] rfl rfl) (Al ?_)
   exact ⟨⟨[_], tm, rfl⟩, ⟨rfl, tv⟩, tv⟩
theorem KO (N : Nat) (p0 : Ae) (r : (List (List Int)) × Int) (h : Fl N p0 = some r) : Ak zA0 15 [.e (.agg (Ai p0))] [(1, r.1.map (GD Aq))] (.tup [.one (.own 0), .one (iC r.2)]) := by
 unfold Fl at h
 refine cw (n := 23) (rs := [.tmp 2, .tmp 3]) Tryz.func15 fun w0 S0 => ?_
 refine wq rfl (qb rfl (qa rfl (qa rfl (Aa (wq rfl (qL CS Cq rfl ?_))))))
 refine Bg h fun v1 a1 h => As [2001] (II N p0 v1 a1) R7 rfl (qm rfl (qx rfl (qx rfl (qx rfl (qz Vc rfl (qz U8 rfl (qs U4 rfl (qs UB rfl (qa rfl (Aa (wp rfl (qm rfl (BJ rfl (Aa ?_))))))))))))))
 refine A0 h (fun h => ?_) fun h => ?_
 ·refine wq rfl (qm rfl (qa rfl (qe rfl ?_)))
  obtain rfl := sj h
  refine Ac ((Bc 2 2002 1 rfl rfl rfl).trans (sm [(1000, 2002)] [(2, oD (.own 1000)), (3, iD v1.2.2)] [(1000, .vec 1 ((([] : List (List Int))).map (GD Aq)))] rfl rfl)) (Al ?_)
  exact ⟨⟨[_, _], ⟨.tmp _ _ rfl, tm⟩, rfl⟩, ⟨rfl, tv⟩⟩
 ·refine Ag (Ay (Ac (BQ 2001 _ _ rfl rfl) (Ad Ap rfl (ql SN rfl ?_))))
  refine Bg h fun v3 a3 h => As [2003] (Ia N v1.1 v3 a3) UN rfl (C3 (GC 5 [.mp (Em (Value.int .u64) tB v1.2.1)] rfl rfl) (C3 (GC 4 [.sl (v1.1.map Aj)] rfl rfl) ?_))
  refine GP (capD := [_, _]) (A9 (I0 false Aj) tB ((fun (x : Int) => Fh N x v1.2.1 v1.1))) (.p rfl) Uz rfl ⟨rfl, rfl, tv⟩ rfl (fun ar t ht => by obtain ⟨x, r, rfl, hq, rfl⟩ := Fn ht; exact LZ N x v1.2.1 v1.1 r hq) ?_
  obtain ⟨v4, a4, h⟩ := bind_some h
  obtain ⟨c5, h⟩ := FL h
  have w6 : 0 + v4.1 ≤ v4.2.length := by rw [zA3]; exact c5
  refine Cl (ds0 := [_, _]) [2003] [] [true] (Ha N v3 ((fun (x : Int) => Fh N x v1.2.1 v1.1)) v4 a4) (.p rfl) U0 rfl ⟨rfl, rfl, tv⟩ rfl rfl (by decide) ⟨rfl, tv⟩ rfl (AU rfl) tv ⟨(fun h => by cases h), tv⟩ rfl rfl rfl ?_
  refine C3 (PY Aj v4.2 20 2003 2004 1 v4.1 rfl rfl rfl rfl rfl c5) (qa rfl (Aa (wq rfl (qm rfl (C3 (BQ 2004 _ _ rfl rfl) ?_)))))
  refine Bg h fun v7 a7 h => As [2005] (J7 N (v4.2.take v4.1) v7 a7) TP rfl (qa rfl (qe rfl ?_))
  obtain rfl := sj h
  refine Ac (sm [(1000, 2005)] [(2, oD (.own 1000)), (3, iD 0)] [(1000, .vec 1 (v7.map (GD Aq)))] rfl rfl) (Al ?_)
  exact ⟨⟨[_, _], ⟨.tmp _ _ rfl, tm⟩, rfl⟩, ⟨rfl, tv⟩⟩
theorem JY (N : Nat) (p0 : List Int) (p1 : List Int) (r : Bool) (h : FA N p0 p1 = some r) : Ak zA0 50 [pD (.sl (p0.map Aq)), pD (.sl (p1.map Aq))] [] (bD r) := by
 unfold FA at h
 refine cw (n := 26) (rs := [.tmp 4]) Tryz.func50 fun w0 S0 => ?_
 refine wq rfl (qa rfl (Aa (wp rfl (qm rfl (AD AC rfl (qm rfl (AD AC rfl (BJ rfl (Aa ?_)))))))))
 refine A0 h (fun h => ?_) fun h => ?_
 ·refine wq rfl (qe rfl ?_)
  obtain rfl := sj h
  refine Ac (sm [] [(4, bD false)] [] rfl rfl) (Al ?_)
  exact ⟨⟨[_], tm, rfl⟩, tv⟩
 ·refine Ag (wp rfl (qe rfl ?_))
  refine Av (L := Dw N p0 p1) h (fun v2 => mk [(0, pD (.sl (p0.map Aq))), (1, pD (.sl (p1.map Aq))), (5, iD v2)] []) (fun v3 => mk [] []) (fun _ _ => rfl) (sm [] _ _ rfl rfl) (fun j2 n2 v2 h => ?_) (fun v3 s h hs => ?_)
  ·unfold Dw at h
   refine wp rfl (qw 2 rfl (AD AC rfl (AN rfl (Aa ?_))))
   refine A0 h (fun h => ?_) fun h => ?_
   ·refine Ag (Ay (AA (wq rfl (qw 2 rfl ?_))))
    refine A8 h fun v5 a5 b5 h => qi AC DS a5 (Ab b5) rfl (qk C2 rfl (qw 2 rfl ?_))
    refine A8 h fun v6 a6 b6 h => qi AC DS a6 (Ab b6) rfl (qk C2 rfl (BJ rfl (AF (by kernel_rfl) ?_)))
    refine A0 h (fun h => ?_) fun h => ?_
    ·refine wq rfl (qe rfl ?_)
     obtain rfl := sj h
     refine Ac (sm [] [(4, bD false)] [] rfl rfl) (Al ?_)
     exact ⟨⟨[_], tm, rfl⟩, tv⟩
    ·refine Ag (Ad Ap rfl (qm rfl (AE rfl (qe rfl ?_))))
     exact sn [] h
   ·refine AJ ?_
    exact sn [] h
  ·refine Ac hs (wq rfl (qe rfl ?_))
   obtain rfl := sj h
   refine Ac (sm [] [(4, bD true)] [] rfl rfl) (Al ?_)
   exact ⟨⟨[_], tm, rfl⟩, tv⟩
theorem Hj (N : Nat) (p0 : List (List Int)) (p1 : List (List Int)) (r : Bool) (h : D4 N p0 p1 = some r) : Ak zA0 17 [pD (.sl (p0.map (GD Aq))), pD (.sl (p1.map (GD Aq)))] [] (bD r) := by
 unfold D4 at h
 refine cw (n := 27) (rs := [.tmp 4]) Tryz.func17 fun w0 S0 => ?_
 refine wq rfl (qa rfl (Aa (wp rfl (qm rfl (AD HS rfl (qm rfl (AD HS rfl (BJ rfl (Aa ?_)))))))))
 refine A0 h (fun h => ?_) fun h => ?_
 ·refine wq rfl (qe rfl ?_)
  obtain rfl := sj h
  refine Ac (sm [] [(4, bD false)] [] rfl rfl) (Al ?_)
  exact ⟨⟨[_], tm, rfl⟩, tv⟩
 ·refine Ag (wp rfl (qe rfl ?_))
  refine Av (L := Dm N p0 p1) h (fun v2 => mk [(0, pD (.sl (p0.map (GD Aq)))), (1, pD (.sl (p1.map (GD Aq)))), (5, iD v2)] []) (fun v3 => mk [] []) (fun _ _ => rfl) (sm [] _ _ rfl rfl) (fun j2 n2 v2 h => ?_) (fun v3 s h hs => ?_)
  ·unfold Dm at h
   refine wp rfl (qw 2 rfl (AD HS rfl (AN rfl (Aa ?_))))
   refine A0 h (fun h => ?_) fun h => ?_
   ·refine Ag (Ay (AA (wq rfl (qw 2 rfl ?_))))
    refine A8 h fun v5 a5 b5 h => qi HS LO a5 (Ab b5) rfl (qk Bx rfl (qw 2 rfl ?_))
    refine A8 h fun v6 a6 b6 h => qi HS LO a6 (Ab b6) rfl (qk Bx rfl ?_)
    refine Bg h fun v7 a7 h => As [] (JY N v5 v6 v7 a7) UW rfl (BN rfl (AF (by kernel_rfl) ?_))
    refine A0 h (fun h => ?_) fun h => ?_
    ·refine wq rfl (qe rfl ?_)
     obtain rfl := sj h
     refine Ac (sm [] [(4, bD false)] [] rfl rfl) (Al ?_)
     exact ⟨⟨[_], tm, rfl⟩, tv⟩
    ·refine Ag (Ad Ap rfl (qm rfl (AE rfl (qe rfl ?_))))
     exact sn [] h
   ·refine AJ ?_
    exact sn [] h
  ·refine Ac hs (wq rfl (qe rfl ?_))
   obtain rfl := sj h
   refine Ac (sm [] [(4, bD true)] [] rfl rfl) (Al ?_)
   exact ⟨⟨[_], tm, rfl⟩, tv⟩
theorem Hn (N : Nat) (r : Bool) (h : Df N = some r) : Ak zA0 11 [] [] (bD r) := by
 unfold Df at h
 refine cw (n := 63) (rs := [.tmp 0]) Tryz.func11 fun w0 S0 => ?_
 refine wq rfl (qa rfl (Aa (wp rfl (ED GK Qu RD rfl ?_))))
 refine PI (.p rfl) rfl (.own _ _ _) ⟨rfl, tv⟩ rfl GK ?_
 refine qm rfl (Aa ?_)
 refine Av (L := Dl N) h (fun v1 => mk [(9, oD (.own 2001)), (10, iD (((([false, true] : List Bool)).length : Int))), (11, iD v1)] [(2001, .vec 1 ((([false, true] : List Bool)).map eB))]) (fun v2 => mk [] []) (fun _ _ => rfl) (sm [(2001, 9)] _ _ rfl rfl) (fun j1 n1 v1 h => ?_) (fun v2 s h hs => ?_)
 ·unfold Dl at h
  refine wq rfl (AN rfl (Aa (Ay ?_)))
  refine A0 h (fun h => ?_) fun h => ?_
  ·refine Ag (Ay (AA (wq rfl ?_)))
   refine A8 h fun v4 a4 b4 h => qI GK Qu a4 (Ab b4) rfl (qj QC (Ab b4) rfl (qa rfl (Aa (wq rfl (qm rfl ?_)))))
   refine Bg h fun v5 a5 h => As [2002, 2003, 2004, 2005] (EY N v4 v5 a5) RV rfl (C3 (BQ 2002 _ _ rfl rfl) (C3 (BQ 2003 _ _ rfl rfl) (C3 (BQ 2004 _ _ rfl rfl) (C3 (BQ 2005 _ _ rfl rfl) ?_))))
   refine Bg h fun v6 a6 h => As [2006] (JS N v5 v6 a6) R3 rfl (qm rfl (qx rfl (qx rfl (qa rfl (qa rfl (Aa (wq rfl (qm rfl ?_))))))))
   refine Bg h fun v7 a7 h => As [2007, 2008, 2009, 2010] (EY N v4 v7 a7) RV rfl (C3 (BQ 2007 _ _ rfl rfl) (C3 (BQ 2008 _ _ rfl rfl) (C3 (BQ 2009 _ _ rfl rfl) (C3 (BQ 2010 _ _ rfl rfl) ?_))))
   refine Bg h fun v8 a8 h => As [2011] (KO N v7 v8 a8) TA rfl (qm rfl (qx rfl (qx rfl (qa rfl (qa rfl (Aa (wq rfl (qm rfl ?_))))))))
   refine Bg h fun v9 a9 h => As [2012, 2013, 2014, 2015] (EY N v4 v9 a9) RV rfl (ED AC DS KL rfl ?_)
   refine Bg h fun v10 a10 h => CX [] [2012, 2013, 2014, 2015, 30] (Ib N v9 (([0, 2] : List Int)) v10 a10) Sc BO rfl (qm rfl (qx rfl (qx rfl (qa rfl (qe rfl ?_)))))
   refine AG h (fun v11 => mk [(9, oD (.own 2016)), (10, iD (((([false, true] : List Bool)).length : Int))), (11, iD v1), (61, bD v11)] [(2016, .vec 1 ((([false, true] : List Bool)).map eB))]) (fun j11 h => ?_) (fun v11 h => ?_)
   ·refine Ad Ap rfl (qm rfl (BJ rfl (qm rfl ?_)))
    refine DE 36 h rfl (fun h => ?_) fun h => ?_
    ·refine qw 2 rfl (qp rfl (qw 3 rfl (qp rfl (qw 2 rfl (qp rfl (qw 6 rfl (qp rfl (qw 7 rfl (qp rfl (Aa ?_))))))))))
     exact sn [(2016, 2001)] h
    ·refine qm rfl (BJ rfl (qp rfl (qm rfl ?_)))
     refine DE 40 h rfl (fun h => ?_) fun h => ?_
     ·refine qw 2 rfl (qp rfl (qw 2 rfl (qp rfl (qw 6 rfl (qp rfl (qw 7 rfl (qp rfl (Aa ?_))))))))
      exact sn [(2016, 2001)] h
     ·refine qm rfl (BJ rfl (qp rfl (qm rfl ?_)))
      refine DE 44 h rfl (fun h => ?_) fun h => ?_
      ·refine qn rfl (qp rfl (qw 6 rfl (qp rfl (qw 7 rfl (qp rfl (Aa ?_))))))
       exact sn [(2016, 2001)] h
      ·refine qm rfl (qp rfl (qm rfl ?_))
       refine DE 47 h rfl (fun h => ?_) fun h => ?_
       ·refine qw 5 rfl (qp rfl (qw 7 rfl (qp rfl (Aa ?_))))
        exact sn [(2016, 2001)] h
       ·refine qm rfl (ED AC DS KL rfl (C3 (BQ 49 _ _ rfl rfl) (ED HS LO Rc rfl ?_)))
        refine Bg h fun v16 a16 h => CX [] [2006, 50] (Hj N v6.1 (([([0, 1] : List Int)] : List (List Int))) v16 a16) Tf BO rfl (BN rfl (qp rfl (qm rfl ?_)))
        refine DE 54 h rfl (fun h => ?_) fun h => ?_
        ·refine qw 6 rfl (qp rfl (Aa ?_))
         exact sn [(2016, 2001)] h
        ·refine qm rfl (ED AC DS KL rfl (ED AC DS KL rfl (C3 (BQ 56 _ _ rfl rfl) (C3 (BQ 57 _ _ rfl rfl) (ED HS LO Rc rfl ?_)))))
         refine Bg h fun v18 a18 h => CX [] [2011, 58] (Hj N v8.1 (([([0, 2] : List Int), ([1, 2] : List Int)] : List (List Int))) v18 a18) Tf BO rfl (BN rfl (qp rfl (Aa ?_)))
         exact sn [(2016, 2001)] h
   ·refine A0 h (fun h => ?_) fun h => ?_
    ·refine wq rfl (qe rfl ?_)
     obtain rfl := sj h
     refine Ac (sm [] [(0, bD false)] [] rfl rfl) (Al ?_)
     exact ⟨⟨[_], tm, rfl⟩, tv⟩
    ·refine Ag (Ad Ap rfl (AE rfl (qm rfl (Aa ?_))))
     exact sn [(2001, 2016)] h
  ·refine AJ ?_
   exact sn [] h
 ·refine Ac hs (wq rfl (qe rfl ?_))
  obtain rfl := sj h
  refine Ac (sm [] [(0, bD true)] [] rfl rfl) (Al ?_)
  exact ⟨⟨[_], tm, rfl⟩, tv⟩
theorem Ki (N : Nat) (p0 : Ae) (r : Bool) (h : DH N p0 = some r) : Ak zA0 34 [.e (.agg (Ai p0))] [] (bD r) := by
 unfold DH at h
 refine cw (n := 97) (rs := [.tmp 2]) Tryz.func34 fun w0 S0 => ?_
 refine wq rfl (qb rfl (qa rfl (Aa (Ay ?_))))
 refine AG h (fun v1 => mk [(1, oD (.ptr 1 0)), (27, bD v1)] [(1, .box (Ai p0))]) (fun j1 h => ?_) (fun v1 h => ?_)
 ·refine Ad Ap rfl (qf B4 rfl (ql Bx rfl (AD AC rfl (DK rfl (qm rfl ?_)))))
  refine DE 10 h rfl (fun h => ?_) fun h => ?_
  ·refine qw 4 rfl (qp rfl (qw 5 rfl (qp rfl (qw 5 rfl (qp rfl (Aa ?_))))))
   exact sn [] h
  ·refine qf FU rfl (ql Bx rfl (AD AC rfl (DK rfl (qp rfl (qm rfl ?_)))))
   refine DE 16 h rfl (fun h => ?_) fun h => ?_
   ·refine qw 4 rfl (qp rfl (qw 5 rfl (qp rfl (Aa ?_))))
    exact sn [] h
   ·refine qf GY rfl (ql Bx rfl (AD AC rfl (DK rfl (qp rfl (qm rfl ?_)))))
    refine DE 22 h rfl (fun h => ?_) fun h => ?_
    ·refine qw 4 rfl (qp rfl (Aa ?_))
     exact sn [] h
    ·refine qf CC rfl (ql Hr rfl (AD Dv rfl (DK rfl (qp rfl (Aa ?_)))))
     exact sn [] h
 ·refine A0 h (fun h => ?_) fun h => ?_
  ·refine wq rfl (qe rfl ?_)
   obtain rfl := sj h
   refine Ac (sm [] [(2, bD false)] [] rfl rfl) (Al ?_)
   exact ⟨⟨[_], tm, rfl⟩, tv⟩
  ·refine Ag (wp rfl (qe rfl ?_))
   refine Av (L := Cw N p0) h (fun v6 => mk [(1, oD (.ptr 1 0)), (3, iD v6)] [(1, .box (Ai p0))]) (fun v7 => mk [] []) (fun _ _ => rfl) (sm [] _ _ rfl rfl) (fun j6 n6 v6 h => ?_) (fun v7 s h hs => ?_)
   ·unfold Cw at h
    refine wp rfl (qm rfl (qf CC rfl (ql Hr rfl (AD Dv rfl (AN rfl (Aa ?_))))))
    refine A0 h (fun h => ?_) fun h => ?_
    ·refine Ag (Ay (AA (Ay ?_)))
     refine AG h (fun v9 => mk [(1, oD (.ptr 1 0)), (3, iD v6), (52, bD v9)] [(1, .box (Ai p0))]) (fun j9 h => ?_) (fun v9 h => ?_)
     ·refine Ad Ap rfl (qf CC rfl (ql Hr rfl (qm rfl ?_)))
      refine A8 h fun v10 a10 b10 h => qi Dv DT a10 (Ab b10) rfl (qg FT rfl (qk GF rfl (AD DD rfl (DK rfl (qm rfl ?_)))))
      refine DE 43 h rfl (fun h => ?_) fun h => ?_
      ·refine qw 8 rfl (qp rfl (Aa ?_))
       exact sn [] h
      ·refine qf CC rfl (ql Hr rfl (qm rfl ?_))
       refine A8 h fun v12 a12 b12 h => qi Dv DT a12 (Ab b12) rfl (qg DN rfl (qk GF rfl (AD DD rfl (DK rfl (qp rfl (Aa ?_))))))
       exact sn [] h
     ·refine A0 h (fun h => ?_) fun h => ?_
      ·refine wq rfl (qe rfl ?_)
       obtain rfl := sj h
       refine Ac (sm [] [(2, bD false)] [] rfl rfl) (Al ?_)
       exact ⟨⟨[_], tm, rfl⟩, tv⟩
      ·refine Ag (wp rfl (qe rfl ?_))
       refine Av (L := BB N p0 v6) h (fun v14 => mk [(1, oD (.ptr 1 0)), (3, iD v6), (4, iD v14)] [(1, .box (Ai p0))]) (fun v15 => mk [(1, oD (.ptr 1 0)), (3, iD v6)] [(1, .box (Ai p0))]) (fun _ _ => rfl) (sm [] _ _ rfl rfl) (fun j14 n14 v14 h => ?_) (fun v15 s h hs => ?_)
       ·unfold BB at h
        refine wp rfl (qm rfl (qf CC rfl (ql Hr rfl (qm rfl ?_))))
        refine A8 h fun v16 a16 b16 h => qi Dv DT a16 (Ab b16) rfl (qg FT rfl (qk GF rfl (AD DD rfl (AN rfl (Aa ?_)))))
        refine A0 h (fun h => ?_) fun h => ?_
        ·refine Ag (Ay (AA (wq rfl (qf CC rfl (ql Hr rfl (qm rfl ?_))))))
         refine A8 h fun v18 a18 b18 h => qi Dv DT a18 (Ab b18) rfl (qg FT rfl (qk GF rfl (qm rfl ?_)))
         refine A8 h fun v19 a19 b19 h => qi DD I8 a19 (Ab b19) rfl (qk L4 rfl (AD GK rfl (DK rfl (Aa ?_))))
         refine A0 h (fun h => ?_) fun h => ?_
         ·refine wq rfl (qe rfl ?_)
          obtain rfl := sj h
          refine Ac (sm [] [(2, bD false)] [] rfl rfl) (Al ?_)
          exact ⟨⟨[_], tm, rfl⟩, tv⟩
         ·refine Ag (Ad Ap rfl (qm rfl (AE rfl (qe rfl ?_))))
          exact sn [] h
        ·refine AJ ?_
         exact sn [] h
       ·refine Ac hs (wq rfl (qe rfl ?_))
        refine Av (L := BE N p0 v6) h (fun v21 => mk [(1, oD (.ptr 1 0)), (3, iD v6), (5, iD v21)] [(1, .box (Ai p0))]) (fun v22 => mk [(1, oD (.ptr 1 0)), (3, iD v6)] [(1, .box (Ai p0))]) (fun _ _ => rfl) (sm [] _ _ rfl rfl) (fun j21 n21 v21 h => ?_) (fun v22 s h hs => ?_)
        ·unfold BE at h
         refine wp rfl (qm rfl (qf CC rfl (ql Hr rfl (qm rfl ?_))))
         refine A8 h fun v23 a23 b23 h => qi Dv DT a23 (Ab b23) rfl (qg DN rfl (qk GF rfl (AD DD rfl (AN rfl (Aa ?_)))))
         refine A0 h (fun h => ?_) fun h => ?_
         ·refine Ag (Ay (AA (wq rfl (qf CC rfl (ql Hr rfl (qm rfl ?_))))))
          refine A8 h fun v25 a25 b25 h => qi Dv DT a25 (Ab b25) rfl (qg DN rfl (qk GF rfl (qm rfl ?_)))
          refine A8 h fun v26 a26 b26 h => qi DD I8 a26 (Ab b26) rfl (qk L4 rfl (AD GK rfl (DK rfl (Aa ?_))))
          refine A0 h (fun h => ?_) fun h => ?_
          ·refine wq rfl (qe rfl ?_)
           obtain rfl := sj h
           refine Ac (sm [] [(2, bD false)] [] rfl rfl) (Al ?_)
           exact ⟨⟨[_], tm, rfl⟩, tv⟩
          ·refine Ag (Ad Ap rfl (qm rfl (AE rfl (qe rfl ?_))))
           exact sn [] h
         ·refine AJ ?_
          exact sn [] h
        ·refine Ac hs (Ad Ap rfl (qm rfl (AE rfl (qe rfl ?_))))
         exact sn [] h
    ·refine AJ ?_
     exact sn [] h
   ·refine Ac hs (wq rfl (qe rfl ?_))
    obtain rfl := sj h
    refine Ac (sm [] [(2, bD true)] [] rfl rfl) (Al ?_)
    exact ⟨⟨[_], tm, rfl⟩, tv⟩
theorem Nb (N : Nat) (p0 : Ae) (r : (List Int) × Int) (h : FH N p0 = some r) : Ak zA0 21 [.e (.agg (Ai p0))] [] (.tup [.one (sC (r.1.map Aq)), .one (iC r.2)]) := by
 unfold FH at h
 refine cw (n := 22) (rs := [.tmp 2, .tmp 3]) Tryz.func21 fun w0 S0 => ?_
 refine wq rfl (qb rfl (qa rfl (qa rfl (Aa (wq rfl (qL CS Cq rfl ?_))))))
 refine Bg h fun v1 a1 h => As [2001] (JS N p0 v1 a1) R3 rfl (qm rfl (qx rfl (qx rfl (qa rfl (qa rfl (Aa (Ay (AA (wq rfl (qm rfl (BJ rfl (qe rfl ?_))))))))))))
 refine A0 h (fun h => ?_) fun h => ?_
 ·refine wq rfl (qm rfl (qa rfl (qe rfl ?_)))
  obtain rfl := sj h
  refine Ac ((Js 2 _ rfl).trans (sm [] [(2, pD (.sl ((([] : List Int)).map Aq))), (3, iD v1.2)] [] rfl rfl)) (Al ?_)
  exact ⟨⟨[_, _], ⟨.tmp _ _ rfl, tm⟩, rfl⟩, tv⟩
 ·refine wq rfl (qm rfl (Eu HS rfl (BW rfl (qe rfl ?_))))
  refine A0 h (fun h => ?_) fun h => ?_
  ·refine wq rfl (qa rfl (qe rfl ?_))
   obtain rfl := sj h
   refine Ac ((Js 2 _ rfl).trans (sm [] [(2, pD (.sl ((([] : List Int)).map Aq))), (3, iD 15)] [] rfl rfl)) (Al ?_)
   exact ⟨⟨[_, _], ⟨.tmp _ _ rfl, tm⟩, rfl⟩, tv⟩
  ·refine Ag (wq rfl (qm rfl ?_))
   refine A8 h fun v4 a4 b4 h => qI HS LO a4 (Ab b4) rfl (qj Bx (Ab b4) rfl (qa rfl (qe rfl ?_)))
   obtain rfl := sj h
   refine Ac (sm [] [(2, pD (.sl (v4.map Aq))), (3, iD 0)] [] rfl rfl) (Al ?_)
   exact ⟨⟨[_, _], ⟨.tmp _ _ rfl, tm⟩, rfl⟩, tv⟩
theorem K3 (N : Nat) (p0 : Ae) (r : (List Int) × Int) (h : Et N p0 = some r) : Ak zA0 23 [.e (.agg (Ai p0))] [(1, r.1.map Aq)] (.tup [.one (.own 0), .one (iC r.2)]) := by
 unfold Et at h
 refine cw (n := 33) (rs := [.tmp 2, .tmp 3]) Tryz.func23 fun w0 S0 => ?_
 refine wq rfl (qb rfl (qa rfl (qa rfl (Aa (wq rfl (qL CS Cq rfl ?_))))))
 refine Bg h fun v1 a1 h => As [2001] (II N p0 v1 a1) R7 rfl (qm rfl (qx rfl (qx rfl (qx rfl (qa rfl (qa rfl (qa rfl (Aa (wp rfl (qm rfl (BJ rfl (Aa ?_))))))))))))
 refine A0 h (fun h => ?_) fun h => ?_
 ·refine wq rfl (qm rfl (qa rfl (qe rfl ?_)))
  obtain rfl := sj h
  refine Ac ((Bc 2 2002 1 rfl rfl rfl).trans (sm [(1000, 2002)] [(2, oD (.own 1000)), (3, iD v1.2.2)] [(1000, .vec 1 ((([] : List Int)).map Aq))] rfl rfl)) (Al ?_)
  exact ⟨⟨[_, _], ⟨.tmp _ _ rfl, tm⟩, rfl⟩, ⟨rfl, tv⟩⟩
 ·refine Ag (wq rfl (qa rfl (Aa (wp rfl (qw 2 rfl ?_)))))
  refine Bg h fun v3 a3 h => CX [2003] [2001] (I2 N v1.1 v1.2.1 v3 a3) TS (HO (fun _ => rfl) BO) rfl (Eu AK rfl (qm rfl (Aa ?_)))
  refine Av (L := Eq N v3) h (fun v4 => mk [(7, pD (.val (.int .u64 v4.1))), (21, oD (.own 2004)), (22, iD ((v3.length : Int))), (23, iD v4.2)] [(2004, .vec 1 (v3.map Aj))]) (fun v5 => mk [(7, pD (.val (.int .u64 v5)))] []) (fun _ _ => rfl) (sm [(2004, 2003)] _ _ rfl rfl) (fun j4 n4 v4 h => ?_) (fun v5 s h hs => ?_)
  ·unfold Eq at h
   refine wq rfl (AN rfl (Aa (Ay ?_)))
   refine A0 h (fun h => ?_) fun h => ?_
   ·refine Ag (Ay (AA (wq rfl ?_)))
    refine A8 h fun v7 a7 b7 h => qI AK AS a7 (Ab b7) rfl (qj Ch (Ab b7) rfl (qa rfl (Aa (Ad Ap rfl (qw 2 rfl (Qz rfl (qa rfl (Aa (Ad Ap rfl (AE rfl (qm rfl (Aa ?_))))))))))))
    exact sn [] h
   ·refine AJ ?_
    exact sn [] h
  ·refine Ac hs (wq rfl (qm rfl ?_))
   refine Bg h fun v8 a8 h => As [2005] (Fb N v5 v8 a8) PJ rfl (qa rfl (qe rfl ?_))
   obtain rfl := sj h
   refine Ac (sm [(1000, 2005)] [(2, oD (.own 1000)), (3, iD 0)] [(1000, .vec 1 (v8.map Aq))] rfl rfl) (Al ?_)
   exact ⟨⟨[_, _], ⟨.tmp _ _ rfl, tm⟩, rfl⟩, ⟨rfl, tv⟩⟩
theorem Hk (N : Nat) (p0 : Int) (r : Bool) (h : D0 N p0 = some r) : Ak zA0 175 [pD (.val (.int .u8 p0))] [] (bD r) := by
 unfold D0 at h
 refine cw (n := 6) (rs := [.tmp 2]) Tryz.func175 fun w0 S0 => ?_
 refine wq rfl (qa rfl (Aa (wq rfl (qw 2 rfl (BJ rfl (qe rfl ?_))))))
 obtain rfl := sj h
 refine Ac (sm [] [(2, bD ((p0 != p0)))] [] rfl rfl) (Al ?_)
 exact ⟨⟨[_], tm, rfl⟩, tv⟩
theorem IZ (N : Nat) (p0 : Int) (p1 : Int) (r : Int) (h : EL N p0 p1 = some r) : Ak zA0 155 [pD (.val (.int .u8 p0)), pD (.val (.int .u8 p1))] [] (iD r) := by
 unfold EL at h
 refine cw (n := 20) (rs := [.tmp 4]) Tryz.func155 fun w0 S0 => ?_
 refine wq rfl (qa rfl (Aa (wq rfl (qm rfl ?_))))
 refine Bg h fun v1 a1 h => As [] (Hk N p0 v1 a1) Rn rfl (qa rfl (Aa (wq rfl (qm rfl ?_))))
 refine Bg h fun v2 a2 h => As [] (Hk N p1 v2 a2) Rn rfl (qa rfl (Aa (wp rfl (qm rfl (Aa ?_)))))
 refine A0 h (fun h => ?_) fun h => ?_
 ·refine wp rfl (qm rfl (Aa ?_))
  refine A0 h (fun h => ?_) fun h => ?_
  ·refine wq rfl (qe rfl ?_)
   obtain rfl := sj h
   refine Ac (sm [] [(4, iD 0)] [] rfl rfl) (Al ?_)
   exact ⟨⟨[_], tm, rfl⟩, tv⟩
  ·refine Ag (wq rfl (qe rfl ?_))
   obtain rfl := sj h
   refine Ac (sm [] [(4, iD ((-1)))] [] rfl rfl) (Al ?_)
   exact ⟨⟨[_], tm, rfl⟩, tv⟩
 ·refine Ag (wp rfl (qm rfl (Aa ?_)))
  refine A0 h (fun h => ?_) fun h => ?_
  ·refine wq rfl (qe rfl ?_)
   obtain rfl := sj h
   refine Ac (sm [] [(4, iD 1)] [] rfl rfl) (Al ?_)
   exact ⟨⟨[_], tm, rfl⟩, tv⟩
  ·refine Ag (wp rfl (qw 2 rfl (AN rfl (Aa ?_))))
   refine A0 h (fun h => ?_) fun h => ?_
   ·refine wq rfl (qe rfl ?_)
    obtain rfl := sj h
    refine Ac (sm [] [(4, iD ((-1)))] [] rfl rfl) (Al ?_)
    exact ⟨⟨[_], tm, rfl⟩, tv⟩
   ·refine Ag (wp rfl (qw 2 rfl (DK rfl (Aa ?_))))
    refine A0 h (fun h => ?_) fun h => ?_
    ·refine wq rfl (qe rfl ?_)
     obtain rfl := sj h
     refine Ac (sm [] [(4, iD 1)] [] rfl rfl) (Al ?_)
     exact ⟨⟨[_], tm, rfl⟩, tv⟩
    ·refine Ag (wq rfl (qe rfl ?_))
     obtain rfl := sj h
     refine Ac (sm [] [(4, iD 0)] [] rfl rfl) (Al ?_)
     exact ⟨⟨[_], tm, rfl⟩, tv⟩
theorem Gm (N : Nat) (p0 : List Int) (p1 : List Int) (r : Int) (h : CR N p0 p1 = some r) : Ak zA0 119 [pD (.sl (p0.map EC)), pD (.sl (p1.map EC))] [] (iD r) := by
 unfold CR at h
 refine cw (n := 36) (rs := [.tmp 4]) Tryz.func119 fun w0 S0 => ?_
 refine wq rfl (qa rfl (Aa (wp rfl (qm rfl (AD E2 rfl (qm rfl (Aa ?_)))))))
 refine Av (L := BL N p0 p1) h (fun v1 => mk [(0, pD (.sl (p0.map EC))), (1, pD (.sl (p1.map EC))), (9, pD (.sl (p0.map EC))), (10, iD ((p0.length : Int))), (11, iD v1)] []) (fun v2 => mk [(0, pD (.sl (p0.map EC))), (1, pD (.sl (p1.map EC)))] []) (fun _ _ => rfl) (sm [] _ _ rfl rfl) (fun j1 n1 v1 h => ?_) (fun v2 s h hs => ?_)
 ·unfold BL at h
  refine wq rfl (AN rfl (Aa (Ay ?_)))
  refine A0 h (fun h => ?_) fun h => ?_
  ·refine Ag (Ay (AA (wq rfl (qm rfl ?_))))
   refine A8 h fun v4 a4 b4 h => qi E2 GN a4 (Ab b4) rfl (qk Kd rfl (qa rfl (qa rfl (Aa (wp rfl (qw 2 rfl (AD E2 rfl (CT rfl (Aa ?_)))))))))
   refine A0 h (fun h => ?_) fun h => ?_
   ·refine wq rfl (qe rfl ?_)
    obtain rfl := sj h
    refine Ac (sm [] [(4, iD 1)] [] rfl rfl) (Al ?_)
    exact ⟨⟨[_], tm, rfl⟩, tv⟩
   ·refine Ag (wq rfl (qw 2 rfl ?_))
    refine A8 h fun v6 a6 b6 h => qi E2 GN a6 (Ab b6) rfl (qk Kd rfl (qa rfl (Aa (wq rfl (qw 2 rfl ?_)))))
    refine Bg h fun v7 a7 h => As [] (IZ N v4 v6 v7 a7) TX rfl (qa rfl (Aa (wq rfl (qm rfl (BJ rfl (Aa ?_))))))
    refine A0 h (fun h => ?_) fun h => ?_
    ·refine wq rfl (qm rfl (qe rfl ?_))
     obtain rfl := sj h
     refine Ac (sm [] [(4, iD v7)] [] rfl rfl) (Al ?_)
     exact ⟨⟨[_], tm, rfl⟩, tv⟩
    ·refine Ag (Ad Ap rfl (AE rfl (qm rfl (Aa ?_))))
     exact sn [] h
  ·refine AJ ?_
   exact sn [] h
 ·refine Ac hs (wp rfl (qm rfl (AD E2 rfl (qm rfl (AD E2 rfl (AN rfl (Aa ?_)))))))
  refine A0 h (fun h => ?_) fun h => ?_
  ·refine wq rfl (qe rfl ?_)
   obtain rfl := sj h
   refine Ac (sm [] [(4, iD ((-1)))] [] rfl rfl) (Al ?_)
   exact ⟨⟨[_], tm, rfl⟩, tv⟩
  ·refine Ag (wq rfl (qe rfl ?_))
   obtain rfl := sj h
   refine Ac (sm [] [(4, iD 0)] [] rfl rfl) (Al ?_)
   exact ⟨⟨[_], tm, rfl⟩, tv⟩
theorem M5 (N : Nat) (p0 : List Int) (r : Int) (h : H5 N p0 = some r) : Ak zA0 118 [pD (.sl (p0.map Aq))] [] (iD r) := by
 unfold H5 at h
 refine cw (n := 18) (rs := [.tmp 2]) Tryz.func118 fun w0 S0 => ?_
 refine wq rfl (qa rfl (Aa (wq rfl (qa rfl (Aa (wp rfl (qm rfl (AD AC rfl (qm rfl (Aa ?_))))))))))
 refine Av (L := Ft N p0) h (fun v1 => mk [(3, iD 0), (6, pD (.sl (p0.map Aq))), (7, iD ((p0.length : Int))), (8, iD v1)] []) (fun v2 => mk [(3, iD 0)] []) (fun _ _ => rfl) (sm [] _ _ rfl rfl) (fun j1 n1 v1 h => ?_) (fun v2 s h hs => ?_)
 ·unfold Ft at h
  refine wq rfl (AN rfl (Aa (Ay ?_)))
  refine A0 h (fun h => ?_) fun h => ?_
  ·refine Ag (Ay (AA (wq rfl ?_)))
   refine A8 h fun v4 a4 b4 h => qi AC DS a4 (Ab b4) rfl (qk C2 rfl (qa rfl (Aa (wq rfl (qw 2 rfl (BJ rfl (Aa ?_)))))))
   refine A0 h (fun h => ?_) fun h => ?_
   ·refine wq rfl (qm rfl (qe rfl ?_))
    obtain rfl := sj h
    refine Ac (sm [] [(2, iD v4)] [] rfl rfl) (Al ?_)
    exact ⟨⟨[_], tm, rfl⟩, tv⟩
   ·refine Ag (Ad Ap rfl (AE rfl (qm rfl (Aa ?_))))
    exact sn [] h
  ·refine AJ ?_
   exact sn [] h
 ·refine Ac hs (wq rfl (qm rfl (qe rfl ?_)))
  obtain rfl := sj h
  refine Ac (sm [] [(2, iD 0)] [] rfl rfl) (Al ?_)
  exact ⟨⟨[_], tm, rfl⟩, tv⟩
theorem JL (N : Nat) (p0 : Ao) (p1 : Ao) (r : Int) (h : Fd N p0 p1 = some r) : Ak zA0 84 [.e (.agg (AR p0)), .e (.agg (AR p1))] [] (iD r) := by
 unfold Fd at h
 refine cw (n := 22) (rs := [.tmp 4]) Tryz.func84 fun w0 S0 => ?_
 refine wq rfl (qb rfl (qb rfl (qa rfl (Aa (wq rfl (qf DZ rfl (ql Bx rfl (qf DZ rfl (ql Bx rfl ?_)))))))))
 refine Bg h fun v1 a1 h => As [] (Ed N p0.fe p1.fe v1 a1) PL rfl (qf Dn rfl (ql Bx rfl (qf Dn rfl (ql Bx rfl ?_))))
 refine Bg h fun v2 a2 h => As [] (Ed N p0.fc p1.fc v2 a2) PL rfl (qf EP rfl (ql JP rfl (qf EP rfl (ql JP rfl ?_))))
 refine Bg h fun v3 a3 h => As [] (Gm N p0.ff p1.ff v3 a3) TH rfl (ED AC DS KL rfl ?_)
 refine Bg h fun v4 a4 h => CX [] [20] (M5 N (([v1, v2, v3] : List Int)) v4 a4) Ue BO rfl (qa rfl (AF (by kernel_rfl) ?_))
 obtain rfl := sj h
 refine Ac (sm [] [(4, iD v4)] [] rfl rfl) (Al ?_)
 exact ⟨⟨[_], tm, rfl⟩, tv⟩
theorem DR (N : Nat) (p0 : List Ao) (p1 : Ao) (p2 : (Ao × Ao) → Option Int) (r : Int × Bool) (h : Br N p0 p1 p2 = some r) : Ak zA0 123 [pD (.sl (p0.map A7)), .e (.agg (AR p1)), oD (.clo (A9 (Dz true A7 true A7) By p2))] [] (.tup [.one (iC r.1), .one (.pure (.val (.bool r.2)))]) := by
 unfold Br at h
 refine cw (n := 49) (rs := [.tmp 6, .tmp 7]) Tryz.func123 fun w0 S0 => ?_
 refine wq rfl (qb rfl (qa rfl (qa rfl (Aa (wq rfl (qm rfl (AD HZ rfl (qa rfl (Aa (wq rfl (qm rfl (qa rfl (qa rfl (Aa (Ay ?_)))))))))))))))
 refine Av (L := AP N p0 p1 p2) h (fun v1 => mk [(0, pD (.sl (p0.map A7))), (2, oD (.clo (A9 (Dz true A7 true A7) By p2))), (4, oD (.ptr 4 0)), (8, iD ((p0.length : Int))), (9, iD v1.1), (10, iD v1.2)] [(4, .box (AR p1))]) (fun v2 => mk [(0, pD (.sl (p0.map A7))), (2, oD (.clo (A9 (Dz true A7 true A7) By p2))), (4, oD (.ptr 4 0)), (8, iD ((p0.length : Int))), (9, iD v2)] [(4, .box (AR p1))]) (fun _ _ => rfl) (sm [] _ _ rfl rfl) (fun j1 n1 v1 h => ?_) (fun v2 s h hs => ?_)
 ·unfold AP at h
  refine wp rfl (qw 2 rfl (AN rfl (Aa ?_)))
  refine A0 h (fun h => ?_) fun h => ?_
  ·refine Ag (AA (wq rfl (qw 2 rfl (AE rfl (GG Ry Or rfl (ES rfl (by decide) (GG Oc RA rfl (qa rfl (Aa (wq rfl (qw 3 rfl ?_)))))))))))
   refine A8 h fun v4 a4 b4 h => qi HZ Bh a4 (Ab b4) rfl (qK Co Bh rfl (qL Co Bh rfl ?_))
   refine Bg h fun v5 a5 h => CV (ds0 := [_, _]) (ar := (Dz true A7 true A7) ((v4, p1))) (.p rfl) rfl rfl ⟨rfl, rfl, tv⟩ rfl rfl rfl (C0 (Ep _ _ _ _ JB JB) a5) ?_
   refine AN rfl (AF (by kernel_rfl) ?_)
   refine A0 h (fun h => ?_) fun h => ?_
   ·refine Ad Ap rfl (qm rfl (AE rfl (qe rfl ?_)))
    exact sn [] h
   ·refine Ad Ap rfl (qm rfl (qe rfl ?_))
    exact sn [] h
  ·refine AJ ?_
   exact sn [] h
 ·refine Ac hs ?_
  refine AG h (fun v7 => mk [(6, iD v2), (7, bD v7)] []) (fun j7 h => ?_) (fun v7 h => ?_)
  ·refine Ad Ap rfl (qw 3 rfl (AN rfl (qm rfl ?_)))
   refine DE 39 h rfl (fun h => ?_) fun h => ?_
   ·refine qw 3 rfl ?_
    refine A8 h fun v9 a9 b9 h => qi HZ Bh a9 (Ab b9) rfl (qK Co Bh rfl (qL Co Bh rfl ?_))
    refine Bg h fun v10 a10 h => CV (ds0 := [_, _]) (ar := (Dz true A7 true A7) ((v9, p1))) (.g rfl rfl) rfl rfl ⟨rfl, rfl, tv⟩ rfl rfl rfl (C0 (Ep _ _ _ _ JB JB) a10) ?_
    refine BW rfl (qp rfl (qa rfl (qa rfl (AF (by kernel_rfl) ?_))))
    exact sn [] h
   ·refine qw 8 rfl (qp rfl (qa rfl (qa rfl (AF (by kernel_rfl) ?_))))
    exact sn [] h
  ·obtain rfl := sj h
   refine Ac (sm [] [(6, iD v2), (7, bD v7)] [] rfl rfl) (Al ?_)
   exact ⟨⟨[_, _], ⟨.tmp _ _ rfl, tm⟩, rfl⟩, tv⟩
theorem IX (N : Nat) (p0 : List Ao) (p1 : Ao) (r : Bool) (h : Fu N p0 p1 = some r) : Ak zA0 86 [pD (.sl (p0.map A7)), .e (.agg (AR p1))] [] (bD r) := by
 unfold Fu at h
 refine cw (n := 14) (rs := [.tmp 4]) Tryz.func86 fun w0 S0 => ?_
 refine wq rfl (qb rfl (qa rfl (Aa (wq rfl (qm rfl (qL Co Bh rfl ?_))))))
 refine Bg h fun v1 a1 h => As [] (Ak.weak (ds' := [pD (.sl (p0.map A7)), .e (.agg (AR p1)), oD (.fnc 84)]) (DR N p0 p1 ((fun (x : Ao × Ao) => Fd N x.1 x.2)) v1 a1) ⟨(fun _ _ _ hh => hh), (fun _ _ _ hh => hh), (fun _ _ _ hh => MY Tx (fun ar t ht => by obtain ⟨x, r, rfl, hq, rfl⟩ := Fn ht; exact JL N x.1 x.2 r hq) hh), tv⟩) TD rfl ?_
 refine qm rfl (qx rfl (qx rfl (qa rfl (qa rfl (Aa (wq rfl (qm rfl (qe rfl ?_))))))))
 obtain rfl := sj h
 refine Ac (sm [] [(4, bD v1.2)] [] rfl rfl) (Al ?_)
 exact ⟨⟨[_], tm, rfl⟩, tv⟩
theorem Li (N : Nat) (p0 : Ae) (p1 : List Ao) (r : Bool) (h : Hb N p0 p1 = some r) : Ak zA0 53 [.e (.agg (Ai p0)), pD (.sl (p1.map A7))] [] (bD r) := by
 unfold Hb at h
 refine cw (n := 122) (rs := [.tmp 4]) Tryz.func53 fun w0 S0 => ?_
 refine wq rfl (qb rfl (qa rfl (Aa (wq rfl (qL CS Cq rfl ?_)))))
 refine Bg h fun v1 a1 h => As [2001, 2002, 2003] (K0 N p0 v1 a1) Ui rfl (qm rfl (qx rfl (qx rfl (qz F1 rfl (qs Bh rfl (qa rfl (Aa (wp rfl (qm rfl (BJ rfl (Aa ?_)))))))))))
 refine A0 h (fun h => ?_) fun h => ?_
 ·refine wq rfl (qe rfl ?_)
  obtain rfl := sj h
  refine Ac (sm [] [(4, bD false)] [] rfl rfl) (Al ?_)
  exact ⟨⟨[_], tm, rfl⟩, tv⟩
 ·refine Ag (wp rfl (qL CS Cq rfl (qL Co Bh rfl ?_)))
  refine Bg h fun v3 a3 h => CX [] [2001, 2002, 2003] (Gs N p0 v1.1 v3 a3) PU BO rfl (qm rfl (qx rfl (qx rfl (qa rfl (qa rfl (Aa (wq rfl (qm rfl (BN rfl (Aa ?_))))))))))
  refine A0 h (fun h => ?_) fun h => ?_
  ·refine wq rfl (qm rfl (AD HZ rfl (BW rfl (qe rfl ?_))))
   obtain rfl := sj h
   refine Ac (sm [] [(4, bD (((p1.length : Int) == 0)))] [] rfl rfl) (Al ?_)
   exact ⟨⟨[_], tm, rfl⟩, tv⟩
  ·refine Ag (wp rfl (qm rfl (AD HZ rfl (qm rfl (Aa ?_)))))
   refine Av (L := EI N p0 p1) h (fun v5 => mk [(1, pD (.sl (p1.map A7))), (2, oD (.ptr 2 0)), (5, oD (.ptr 5 0)), (41, pD (.sl (p1.map A7))), (42, iD ((p1.length : Int))), (43, iD v5)] [(2, .box (Ai p0)), (5, .box [.own 2004, .own 2005, .own 2006]), (2004, .vec 1 (v1.1.fe.map Aq)), (2005, .vec 1 (v1.1.fc.map Aq)), (2006, .vec 1 (v1.1.ff.map EC))]) (fun v6 => mk [(1, pD (.sl (p1.map A7))), (2, oD (.ptr 2 0)), (5, oD (.ptr 5 0))] [(2, .box (Ai p0)), (5, .box [.own 2007, .own 2008, .own 2009]), (2007, .vec 1 (v1.1.fe.map Aq)), (2008, .vec 1 (v1.1.fc.map Aq)), (2009, .vec 1 (v1.1.ff.map EC))]) (fun _ _ => rfl) (sm [(2004, 2001), (2005, 2002), (2006, 2003)] _ _ rfl rfl) (fun j5 n5 v5 h => ?_) (fun v6 s h hs => ?_)
   ·unfold EI at h
    refine wq rfl (AN rfl (Aa (Ay ?_)))
    refine A0 h (fun h => ?_) fun h => ?_
    ·refine Ag (Ay (AA (wq rfl (qm rfl ?_))))
     refine A8 h fun v8 a8 b8 h => qi HZ Bh a8 (Ab b8) rfl (qK Co Bh rfl (qz F1 rfl (qa rfl (qs Bh rfl (Aa (Ay ?_))))))
     refine AG h (fun v9 => mk [(1, pD (.sl (p1.map A7))), (2, oD (.ptr 2 0)), (5, oD (.ptr 5 0)), (10, oD (.ptr 10 0)), (41, pD (.sl (p1.map A7))), (42, iD ((p1.length : Int))), (43, iD v5), (59, bD v9)] [(2, .box (Ai p0)), (5, .box [.own 2010, .own 2011, .own 2012]), (10, .box (AR v8)), (2010, .vec 1 (v1.1.fe.map Aq)), (2011, .vec 1 (v1.1.fc.map Aq)), (2012, .vec 1 (v1.1.ff.map EC))]) (fun j9 h => ?_) (fun v9 h => ?_)
     ·refine Ad Ap rfl (qm rfl (DK rfl (qm rfl ?_)))
      refine DE 50 h rfl (fun h => ?_) fun h => ?_
      ·refine qw 2 rfl (BP rfl ?_)
       refine A8 h fun v11 a11 b11 h => qi HZ Bh a11 (Ab b11) rfl (qK Co Bh rfl (qL Co Bh rfl ?_))
       refine Bg h fun v12 a12 h => As [] (JL N v11 v8 v12 a12) Tx rfl (CT rfl (qp rfl (AF (by kernel_rfl) ?_)))
       exact sn [(2010, 2004), (2011, 2005), (2012, 2006)] h
      ·refine qw 8 rfl (qp rfl (AF (by kernel_rfl) ?_))
       exact sn [(2010, 2004), (2011, 2005), (2012, 2006)] h
     ·refine A0 h (fun h => ?_) fun h => ?_
      ·refine wq rfl (qe rfl ?_)
       obtain rfl := sj h
       refine Ac (sm [] [(4, bD false)] [] rfl rfl) (Al ?_)
       exact ⟨⟨[_], tm, rfl⟩, tv⟩
      ·refine Ag (wq rfl (qL CS Cq rfl (qL Co Bh rfl ?_)))
       refine Bg h fun v14 a14 h => As [] (Gs N p0 v8 v14 a14) PU rfl (qm rfl (qx rfl (qx rfl (qa rfl (qe rfl ?_)))))
       refine AG h (fun v15 => mk [(1, pD (.sl (p1.map A7))), (2, oD (.ptr 2 0)), (5, oD (.ptr 5 0)), (41, pD (.sl (p1.map A7))), (42, iD ((p1.length : Int))), (43, iD v5), (76, bD v15)] [(2, .box (Ai p0)), (5, .box [.own 2013, .own 2014, .own 2015]), (2013, .vec 1 (v1.1.fe.map Aq)), (2014, .vec 1 (v1.1.fc.map Aq)), (2015, .vec 1 (v1.1.ff.map EC))]) (fun j15 h => ?_) (fun v15 h => ?_)
       ·refine Ad Ap rfl (qm rfl (BN rfl (qm rfl ?_)))
        refine DE 68 h rfl (fun h => ?_) fun h => ?_
        ·refine qw 2 rfl (qp rfl (qw 4 rfl (qp rfl (Aa ?_))))
         exact sn [(2013, 2010), (2014, 2011), (2015, 2012)] h
        ·refine qm rfl (BJ rfl (qp rfl (qm rfl ?_)))
         refine DE 72 h rfl (fun h => ?_) fun h => ?_
         ·refine qw 3 rfl (qp rfl (Aa ?_))
          exact sn [(2013, 2010), (2014, 2011), (2015, 2012)] h
         ·refine qL CS Cq rfl (qL Co Bh rfl ?_)
          refine Bg h fun v18 a18 h => As [] (Lz N p0 v8 v18 a18) SV rfl (qp rfl (Aa ?_))
          exact sn [(2013, 2010), (2014, 2011), (2015, 2012)] h
       ·refine A0 h (fun h => ?_) fun h => ?_
        ·refine wq rfl (qe rfl ?_)
         obtain rfl := sj h
         refine Ac (sm [] [(4, bD false)] [] rfl rfl) (Al ?_)
         exact ⟨⟨[_], tm, rfl⟩, tv⟩
        ·refine Ag (Ad Ap rfl (AE rfl (qm rfl (Aa ?_))))
         exact sn [(2004, 2013), (2005, 2014), (2006, 2015)] h
    ·refine AJ ?_
     exact sn [(2007, 2004), (2008, 2005), (2009, 2006)] h
   ·refine Ac hs (wp rfl (qm rfl (qL Co Bh rfl ?_)))
    refine Bg h fun v20 a20 h => CX [] [2007, 2008, 2009] (IX N p1 v1.1 v20 a20) Tm BO rfl (BN rfl (Aa ?_))
    refine A0 h (fun h => ?_) fun h => ?_
    ·refine wq rfl (qe rfl ?_)
     obtain rfl := sj h
     refine Ac (sm [] [(4, bD false)] [] rfl rfl) (Al ?_)
     exact ⟨⟨[_], tm, rfl⟩, tv⟩
    ·refine Ag (wp rfl (qm rfl (AD HZ rfl (qm rfl (Aa ?_)))))
     refine Av (L := Eo N p0 p1) h (fun v22 => mk [(1, pD (.sl (p1.map A7))), (2, oD (.ptr 2 0)), (82, pD (.sl (p1.map A7))), (83, iD ((p1.length : Int))), (84, iD v22)] [(2, .box (Ai p0))]) (fun v23 => mk [] []) (fun _ _ => rfl) (sm [] _ _ rfl rfl) (fun j22 n22 v22 h => ?_) (fun v23 s h hs => ?_)
     ·unfold Eo at h
      refine wq rfl (AN rfl (Aa (Ay ?_)))
      refine A0 h (fun h => ?_) fun h => ?_
      ·refine Ag (Ay (AA (wq rfl ?_)))
       refine A8 h fun v25 a25 b25 h => qi HZ Bh a25 (Ab b25) rfl (qK Co Bh rfl (qz F1 rfl (qs Bh rfl (Aa (wq rfl (qL CS Cq rfl (qL Co Bh rfl ?_)))))))
       refine Bg h fun v26 a26 h => As [2016] (I6 N p0 v25 v26 a26) Uo rfl (qm rfl (qx rfl (qx rfl (qa rfl (qa rfl (Aa (wq rfl (qm rfl (Eu D3 rfl (qm rfl (Aa ?_)))))))))))
       refine Av (L := En N p0 p1 v25 v26) h (fun v27 => mk [(1, pD (.sl (p1.map A7))), (2, oD (.ptr 2 0)), (14, oD (.ptr 14 0)), (82, pD (.sl (p1.map A7))), (83, iD ((p1.length : Int))), (84, iD v22), (94, oD (.own 2017)), (95, iD ((v26.1.length : Int))), (96, iD v27)] [(2, .box (Ai p0)), (14, .box (AR v25)), (2017, .vec 3 (v26.1.map Az))]) (fun v28 => mk [(1, pD (.sl (p1.map A7))), (2, oD (.ptr 2 0)), (82, pD (.sl (p1.map A7))), (83, iD ((p1.length : Int))), (84, iD v22)] [(2, .box (Ai p0))]) (fun _ _ => rfl) (sm [(2017, 2016)] _ _ rfl rfl) (fun j27 n27 v27 h => ?_) (fun v28 s h hs => ?_)
       ·unfold En at h
        refine wq rfl (AN rfl (Aa (Ay ?_)))
        refine A0 h (fun h => ?_) fun h => ?_
        ·refine Ag (Ay (AA (wq rfl ?_)))
         refine A8 h fun v30 a30 b30 h => qI D3 Eh a30 (Ab b30) rfl (qJ I1 Eh (Ab b30) rfl (qz JT rfl (qs Eh rfl (Aa (wq rfl (qL CS Cq rfl (qL Co Bh rfl (qL I1 Eh rfl ?_))))))))
         refine Bg h fun v31 a31 h => As [2018, 2019, 2020] (Ks N p0 v25 v30 v31 a31) SP rfl (qm rfl (qx rfl (qx rfl (qz F1 rfl (qs Bh rfl (qa rfl (Aa (wq rfl (qL CS Cq rfl (qL Co Bh rfl ?_))))))))))
         refine Bg h fun v32 a32 h => CX [] [2018, 2019, 2020] (Gs N p0 v31.1 v32 a32) PU BO rfl (qm rfl (qx rfl (qx rfl (qa rfl (qe rfl ?_)))))
         refine AG h (fun v33 => mk [(1, pD (.sl (p1.map A7))), (2, oD (.ptr 2 0)), (14, oD (.ptr 14 0)), (82, pD (.sl (p1.map A7))), (83, iD ((p1.length : Int))), (84, iD v22), (94, oD (.own 2021)), (95, iD ((v26.1.length : Int))), (96, iD v27), (119, bD v33)] [(2, .box (Ai p0)), (14, .box (AR v25)), (2021, .vec 3 (v26.1.map Az))]) (fun j33 h => ?_) (fun v33 h => ?_)
         ·refine Ad Ap rfl (qw 2 rfl ?_)
          refine DE 114 h rfl (fun h => ?_) fun h => ?_
          ·refine qm rfl (qL Co Bh rfl ?_)
           refine Bg h fun v35 a35 h => CX [] [2018, 2019, 2020] (IX N p1 v31.1 v35 a35) Tm BO rfl (BN rfl (qp rfl (Aa ?_)))
           exact sn [(2021, 2017)] h
          ·refine qw 4 rfl (qp rfl (Aa ?_))
           exact sn [(2021, 2017)] h
         ·refine A0 h (fun h => ?_) fun h => ?_
          ·refine wq rfl (qe rfl ?_)
           obtain rfl := sj h
           refine Ac (sm [] [(4, bD false)] [] rfl rfl) (Al ?_)
           exact ⟨⟨[_], tm, rfl⟩, tv⟩
          ·refine Ag (Ad Ap rfl (AE rfl (qm rfl (Aa ?_))))
           exact sn [(2017, 2021)] h
        ·refine AJ ?_
         exact sn [] h
       ·refine Ac hs (Ad Ap rfl (AE rfl (qm rfl (Aa ?_))))
        exact sn [] h
      ·refine AJ ?_
       exact sn [] h
     ·refine Ac hs (wq rfl (qe rfl ?_))
      obtain rfl := sj h
      refine Ac (sm [] [(4, bD true)] [] rfl rfl) (Al ?_)
      exact ⟨⟨[_], tm, rfl⟩, tv⟩
theorem ML (N : Nat) (p0 : Ae) (p1 : List Int) (p2 : List Ao) (r : Bool) (h : FF N p0 p1 p2 = some r) : Ak zA0 27 [.e (.agg (Ai p0)), pD (.sl (p1.map Aq)), pD (.sl (p2.map A7))] [] (bD r) := by
 unfold FF at h
 refine cw (n := 22) (rs := [.tmp 6]) Tryz.func27 fun w0 S0 => ?_
 refine wq rfl (qb rfl (qa rfl (Aa (wq rfl (qL CS Cq rfl (qm rfl ?_))))))
 refine Bg h fun v1 a1 h => As [2001, 2002, 2003, 2004] (In N p0 p1 v1 a1) Uf rfl (qm rfl (qx rfl (qx rfl (qz M6 rfl (qs Cq rfl (qe rfl ?_))))))
 refine AG h (fun v2 => mk [(6, bD v2)] []) (fun j2 h => ?_) (fun v2 h => ?_)
 ·refine Ad Ap rfl (qm rfl (BW rfl (qm rfl ?_)))
  refine DE 17 h rfl (fun h => ?_) fun h => ?_
  ·refine qL CS Cq rfl (qm rfl ?_)
   refine Bg h fun v4 a4 h => CX [] [2001, 2002, 2003, 2004] (Li N v1.1 p2 v4 a4) UL BO rfl (qp rfl (qe rfl ?_))
   exact sn [] h
  ·refine qw 3 rfl (qp rfl (qe rfl ?_))
   exact sn [] h
 ·obtain rfl := sj h
  refine Ac (sm [] [(6, bD v2)] [] rfl rfl) (Al ?_)
  exact ⟨⟨[_], tm, rfl⟩, tv⟩
theorem H4 (N : Nat) (p0 : Ae) (r : Bool) (h : Cn N p0 = some r) : Ak zA0 9 [.e (.agg (Ai p0))] [] (bD r) := by
 unfold Cn at h
 refine cw (n := 99) (rs := [.tmp 2]) Tryz.func9 fun w0 S0 => ?_
 refine wq rfl (qb rfl (qa rfl (Aa (wq rfl (qL CS Cq rfl ?_)))))
 refine Bg h fun v1 a1 h => As [] (HM N p0 v1 a1) UH rfl (qa rfl (Aa (Ay ?_)))
 refine AG h (fun v2 => mk [(1, oD (.ptr 1 0)), (3, iD v1), (26, bD v2)] [(1, .box (Ai p0))]) (fun j2 h => ?_) (fun v2 h => ?_)
 ·refine Ad Ap rfl ?_
  refine Bg h fun v3 a3 h => As [] (Hn N v3 a3) TV rfl (BN rfl (qm rfl ?_))
  refine DE 18 h rfl (fun h => ?_) fun h => ?_
  ·refine qw 2 rfl (qp rfl (qw 4 rfl (qp rfl (Aa ?_))))
   exact sn [] h
  ·refine qm rfl (BW rfl (qp rfl (qm rfl ?_)))
   refine DE 22 h rfl (fun h => ?_) fun h => ?_
   ·refine qw 3 rfl (qp rfl (Aa ?_))
    exact sn [] h
   ·refine qL CS Cq rfl ?_
    refine Bg h fun v6 a6 h => As [] (Ki N p0 v6 a6) Vb rfl (BN rfl (qp rfl (Aa ?_)))
    exact sn [] h
 ·refine A0 h (fun h => ?_) fun h => ?_
  ·refine wq rfl ?_
   refine Bg h fun v8 a8 h => As [] (Hn N v8 a8) TV rfl (qe rfl ?_)
   obtain rfl := sj h
   refine Ac (sm [] [(2, bD v8)] [] rfl rfl) (Al ?_)
   exact ⟨⟨[_], tm, rfl⟩, tv⟩
  ·refine Ag (wq rfl (qL CS Cq rfl ?_))
   refine Bg h fun v9 a9 h => As [] (Ib N p0 (([] : List Int)) v9 a9) Sc rfl (qm rfl (qx rfl (qx rfl (qa rfl (qa rfl (Aa (wq rfl (qL CS Cq rfl ?_))))))))
   refine Bg h fun v10 a10 h => As [] (Nb N p0 v10 a10) UI rfl (qm rfl (qx rfl (qx rfl (qa rfl (qa rfl (Aa (wq rfl (qL CS Cq rfl ?_))))))))
   refine Bg h fun v11 a11 h => As [2001] (JS N p0 v11 a11) R3 rfl (qm rfl (qx rfl (qx rfl (qa rfl (qa rfl (Aa (wq rfl (qL CS Cq rfl ?_))))))))
   refine Bg h fun v12 a12 h => As [2002] (K3 N p0 v12 a12) U6 rfl (qm rfl (qx rfl (qx rfl (qa rfl (qa rfl (Aa (wq rfl (qL CS Cq rfl ?_))))))))
   refine Bg h fun v13 a13 h => As [2003] (KO N p0 v13 a13) TA rfl (qm rfl (qx rfl (qx rfl (qa rfl (qe rfl ?_)))))
   refine AG h (fun v14 => mk [(2, bD v14)] []) (fun j14 h => ?_) (fun v14 h => ?_)
   ·refine Ad Ap rfl (qw 2 rfl (BW rfl (qm rfl ?_)))
    refine DE 56 h rfl (fun h => ?_) fun h => ?_
    ·refine qw 2 rfl (BW rfl (qp rfl (qm rfl ?_)))
     refine DE 61 h rfl (fun h => ?_) fun h => ?_
     ·refine qw 2 rfl (BW rfl (qp rfl (qm rfl ?_)))
      refine DE 66 h rfl (fun h => ?_) fun h => ?_
      ·refine qw 2 rfl (BW rfl (qp rfl (qm rfl ?_)))
       refine DE 71 h rfl (fun h => ?_) fun h => ?_
       ·refine qw 2 rfl (BW rfl (qp rfl (qm rfl ?_)))
        refine DE 76 h rfl (fun h => ?_) fun h => ?_
        ·refine qm rfl (BN rfl (qp rfl (qm rfl ?_)))
         refine DE 80 h rfl (fun h => ?_) fun h => ?_
         ·refine qm rfl (AD AC rfl (qm rfl (Eu HS rfl (AE rfl (qm rfl (Eu AC rfl (AE rfl (qm rfl (Eu HS rfl (AE rfl (BW rfl (qp rfl (qm rfl ?_)))))))))))))
          refine DE 94 h rfl (fun h => ?_) fun h => ?_
          ·refine qL CS Cq rfl ?_
           refine Bg h fun v22 a22 h => As [] (ML N p0 (([] : List Int)) (([] : List Ao)) v22 a22) UZ rfl (BN rfl (qp rfl (qe rfl ?_)))
           exact sn [] h
          ·refine qw 3 rfl (qp rfl (qe rfl ?_))
           exact sn [] h
         ·refine qw 12 rfl (qp rfl (qw 4 rfl (qp rfl (qe rfl ?_))))
          exact sn [] h
        ·refine qw 2 rfl (qp rfl (qw 13 rfl (qp rfl (qw 4 rfl (qp rfl (qe rfl ?_))))))
         exact sn [] h
       ·refine qw 3 rfl (qp rfl (qw 3 rfl (qp rfl (qw 13 rfl (qp rfl (qw 4 rfl (qp rfl (qe rfl ?_))))))))
        exact sn [] h
      ·refine qw 3 rfl (qp rfl (qw 4 rfl (qp rfl (qw 3 rfl (qp rfl (qw 13 rfl (qp rfl (qw 4 rfl (qp rfl (qe rfl ?_))))))))))
       exact sn [] h
     ·refine qw 3 rfl (qp rfl (qw 4 rfl (qp rfl (qw 4 rfl (qp rfl (qw 3 rfl (qp rfl (qw 13 rfl (qp rfl (qw 4 rfl (qp rfl (qe rfl ?_))))))))))))
      exact sn [] h
    ·refine qw 3 rfl (qp rfl (qw 4 rfl (qp rfl (qw 4 rfl (qp rfl (qw 4 rfl (qp rfl (qw 3 rfl (qp rfl (qw 13 rfl (qp rfl (qw 3 rfl ?_))))))))))))
     refine qn rfl (qp rfl (qe rfl ?_))
     exact sn [] h
   ·obtain rfl := sj h
    refine Ac (sm [] [(2, bD v14)] [] rfl rfl) (Al ?_)
    exact ⟨⟨[_], tm, rfl⟩, tv⟩
end Go.Lift
