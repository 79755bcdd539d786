/- Lemmas for MixMoreSaid, which YtmmkocokfdheiaaFinMore proves. -/
import Derived.Test.YtmmkocokfdheiaaCode
namespace Go.Lift
open IntKind renaming wrap → wI
set_option maxRecDepth 10000
open Go.RowKit
open Go.Proofs
theorem EX (N : Nat) (p0 : List Int) (p1 : Int) (r : Int) (h : B3 N p0 p1 = some r) : Au Try.prog 37 [pD (.sl (p0.map EC)), iD p1] [] (iD r) := by
 unfold B3 at h
 refine cw (n := 14) (rs := [.tmp 4]) Try.func37 fun w0 S0 => ?_
 refine wq rfl (qa rfl (Ac (wp rfl (qw 2 rfl (AB Ip rfl (Bw rfl (Ac ?_)))))))
 refine CB h (fun h => ?_) fun h => ?_
 ·refine wq rfl (qw 2 rfl ?_)
  refine CT h fun v2 a2 b2 h => qi Ip QB a2 (Ai b2) rfl (qk Pz rfl (Kn PA O7 rfl (qe rfl ?_)))
  obtain rfl := sj h
  refine Aj (sm [] [(4, iD ((wI .i64 v2)))] [] rfl rfl) (Av ?_)
  exact ⟨⟨[_], tm, rfl⟩, tv⟩
 ·refine Ao (wq rfl (qe rfl ?_))
  obtain rfl := sj h
  refine Aj (sm [] [(4, iD 0)] [] rfl rfl) (Av ?_)
  exact ⟨⟨[_], tm, rfl⟩, tv⟩
theorem Di (N : Nat) (p0 : Ab) (r : Bool) (h : Bh N p0 = some r) : Au Try.prog 38 [.e (.agg (Bn p0))] [] (bD r) := by
 unfold Bh at h
 refine cw (n := 11) (rs := [.tmp 2]) Try.func38 fun w0 S0 => ?_
 refine wq rfl (qb rfl (qe rfl ?_))
 refine Bd h (fun v1 => mk [(2, bD v1)] []) (fun j1 h => ?_) (fun v1 h => ?_)
 ·refine Ak Aw rfl (qf D0 rfl (ql Dc rfl (Cy rfl (qm rfl ?_))))
  refine DD 6 h rfl (fun h => ?_) fun h => ?_
  ·refine qw 3 rfl (qp rfl (qe rfl ?_))
   exact sn [] h
  ·refine qf D0 rfl (ql Dc rfl (Cy rfl (qp rfl (qe rfl ?_))))
   exact sn [] h
 ·obtain rfl := sj h
  refine Aj (sm [] [(2, bD v1)] [] rfl rfl) (Av ?_)
  exact ⟨⟨[_], tm, rfl⟩, tv⟩
theorem E5 (N : Nat) (p0 : Int) (p1 : Int) (p2 : Int) (p3 : Bool) (r : (List (List Bool))) (h : B2 N p0 p1 p2 p3 = some r) : Au Try.prog 39 [iD p0, iD p1, pD (.val (.int .u16 p2)), bD p3] [(1, r.map (Ec eB))] (oD (.own 0)) := by
 unfold B2 at h
 refine cw (n := 47) (rs := [.tmp 8]) Try.func39 fun w0 S0 => ?_
 refine wq rfl (qa rfl (Ac (wq rfl (qa rfl (Ac (wp rfl (qe rfl ?_)))))))
 refine A2 (L := A8 N p0 p1 p2 p3) h (fun v1 => mk [(0, iD p0), (1, iD p1), (2, pD (.val (.int .u16 p2))), (3, bD p3), (9, oD (.own 2001)), (10, iD v1.2)] [(2001, .vec 1 (v1.1.map (Ec eB)))]) (fun v2 => mk [(9, oD (.own 2002))] [(2002, .vec 1 (v2.map (Ec eB)))]) (fun _ _ => rfl) ((Cw 9 2010 1 rfl rfl rfl).trans (sm [(2001, 2010)] _ _ rfl rfl)) (fun j1 n1 v1 h => ?_) (fun v2 s h hs => ?_)
 ·unfold A8 at h
  refine wp rfl (qw 2 rfl (Bw rfl (Ac ?_)))
  refine CB h (fun h => ?_) fun h => ?_
  ·refine Ao (A7 (Bf (wq rfl (qa rfl (Ac (wp rfl (qe rfl ?_)))))))
   refine A2 (L := Ba N p1 p2 p3 v1) h (fun v4 => mk [(0, iD p0), (1, iD p1), (2, pD (.val (.int .u16 p2))), (3, bD p3), (9, oD (.own 2003)), (10, iD v1.2), (11, oD (.own 2004)), (12, iD v4.2)] [(2003, .vec 1 (v1.1.map (Ec eB))), (2004, .vec 1 (v4.1.map eB))]) (fun v5 => mk [(0, iD p0), (1, iD p1), (2, pD (.val (.int .u16 p2))), (3, bD p3), (9, oD (.own 2005)), (10, iD v1.2), (11, oD (.own 2006))] [(2005, .vec 1 (v1.1.map (Ec eB))), (2006, .vec 1 (v5.map eB))]) (fun _ _ => rfl) ((Cw 11 2009 1 rfl rfl rfl).trans (sm [(2003, 2001), (2004, 2009)] _ _ rfl rfl)) (fun j4 n4 v4 h => ?_) (fun v5 s h hs => ?_)
   ·unfold Ba at h
    refine wp rfl (qw 2 rfl (Bw rfl (Ac ?_)))
    refine CB h (fun h => ?_) fun h => ?_
    ·refine Ao ?_
     refine Bd h (fun v7 => mk [(0, iD p0), (1, iD p1), (2, pD (.val (.int .u16 p2))), (3, bD p3), (9, oD (.own 2007)), (10, iD v1.2), (11, oD (.own 2008)), (12, iD v4.2)] [(2007, .vec 1 (v1.1.map (Ec eB))), (2008, .vec 1 (v7.map eB))]) (fun j7 h => ?_) (fun v7 h => ?_)
     ·refine Bf (Ak Aw rfl (qw 3 rfl ?_))
      refine DD 25 h rfl (fun h => ?_) fun h => ?_
      ·refine qw 2 rfl (Cy rfl (qp rfl (qm rfl ?_)))
       refine DD 30 h rfl (fun h => ?_) fun h => ?_
       ·refine qw 8 rfl (qp rfl (Df Dg Jq Nn rfl ?_))
        refine Ff h fun c10 h => DE (f := eB) Dg Dg Jq NY Nn c10 rfl (qe rfl ?_)
        exact sn [(2007, 2003), (2008, 41)] h
       ·refine qw 2 rfl (Mg rfl (qm rfl (B5 rfl ?_)))
        refine Ff h fun c11 h => Jh rfl c11 (Gq rfl (by decide) (Cy rfl (qp rfl (Df Dg Jq Nn rfl ?_))))
        refine Ff h fun c12 h => DE (f := eB) Dg Dg Jq NY Nn c12 rfl (qe rfl ?_)
        exact sn [(2007, 2003), (2008, 41)] h
      ·refine qw 3 rfl (qp rfl (qw 3 rfl (Mg rfl (qm rfl (B5 rfl ?_)))))
       refine Ff h fun c13 h => Jh rfl c13 (Gq rfl (by decide) (Cy rfl (qp rfl (Df Dg Jq Nn rfl ?_))))
       refine Ff h fun c14 h => DE (f := eB) Dg Dg Jq NY Nn c14 rfl (qe rfl ?_)
       exact sn [(2007, 2003), (2008, 41)] h
     ·refine Ak Aw rfl (qm rfl (B5 rfl (qe rfl ?_)))
      exact sn [(2003, 2007), (2004, 2008)] h
    ·refine Bv ?_
     exact sn [(2005, 2003), (2006, 2004)] h
   ·refine Aj hs (Ak Aw rfl (qw 2 rfl (DV (BB 2006 _ _ rfl rfl) (Df CU Hg ML rfl ?_))))
    refine Ff h fun c15 h => DE (f := (Ec eB)) CU CU Hg OO ML c15 rfl (qa rfl (Ac (Ak Aw rfl (qm rfl (B5 rfl (qe rfl ?_))))))
    exact sn [(2001, 45)] h
  ·refine Bv ?_
   exact sn [(2002, 2001)] h
 ·refine Aj hs (wq rfl (qm rfl (qe rfl ?_)))
  obtain rfl := sj h
  refine Aj (sm [(1000, 2002)] [(8, oD (.own 1000))] [(1000, .vec 1 (v2.map (Ec eB)))] rfl rfl) (Av ?_)
  exact ⟨⟨[_], tm, rfl⟩, ⟨rfl, tv⟩⟩
theorem Hy (N : Nat) (p0 : A4) (r : Aa × Bool) (h : Ck N p0 = some r) : Au Try.prog 11 [.e (.agg (Br p0))] [(1, r.1.fa.map An), (1, r.1.fk.map An), (1, r.1.fm.map An), (6, r.1.fb.map Ap)] (.tup [.agg [.own 0, .own 1, .own 2, .own 3], .one (.pure (.val (.bool r.2)))]) := by
 unfold Ck at h
 refine cw (n := 152) (rs := [.cell 2 31, .tmp 3]) Try.func11 fun w0 S0 => ?_
 refine wq rfl (qb rfl (qz H6 rfl (qa rfl (Ac (A7 ?_)))))
 refine Bd h (fun v1 => mk [(1, oD (.ptr 1 0)), (2, oD (.ptr 2 0)), (19, bD v1)] [(1, .box (Br p0)), (2, .box [.pure (.nil0), .pure (.nil0), .pure (.nil0), .pure (.nil0)])]) (fun j1 h => ?_) (fun v1 h => ?_)
 ·refine Ak Aw rfl (qf J5 rfl (ql I4 rfl (AB Ip rfl (EB rfl (qm rfl ?_)))))
  refine DD 14 h rfl (fun h => ?_) fun h => ?_
  ·refine qw 4 rfl (qp rfl (Ac ?_))
   exact sn [] h
  ·refine qf J3 rfl (ql Py rfl (AB M4 rfl (EB rfl (qp rfl (Ac ?_)))))
   exact sn [] h
 ·refine CB h (fun h => ?_) fun h => ?_
  ·refine wq rfl (Ch H6 MU rfl (qs Dh rfl (qe rfl ?_)))
   obtain rfl := sj h
   refine Aj ((A0 2 0 2001 1 _ rfl rfl rfl rfl).trans ((A0 2 1 2002 1 _ rfl rfl rfl rfl).trans ((A0 2 2 2003 1 _ rfl rfl rfl rfl).trans ((A0 2 3 2004 6 _ rfl rfl rfl rfl).trans (sm [(1000, 2001), (1001, 2002), (1002, 2003), (1003, 2004)] [(2, oD (.ptr 2 0)), (3, bD false)] [(2, .box [.own 1000, .own 1001, .own 1002, .own 1003]), (1000, .vec 1 ((([] : List Int)).map An)), (1001, .vec 1 ((([] : List Int)).map An)), (1002, .vec 1 ((([] : List Int)).map An)), (1003, .vec 6 ((([] : List Ab)).map Ap))] rfl rfl))))) (Av ?_)
   exact ⟨⟨[_, _], ⟨.cellN _ _ _ _ _ _ _ rfl rfl Ei Dh rfl rfl (Lx rfl), tm⟩, rfl⟩, ⟨rfl, rfl, rfl, rfl, tv⟩⟩
  ·refine Ao (wq rfl (qz H6 rfl (Ac (wp rfl (qe rfl ?_)))))
   refine A2 (L := Bk N p0) h (fun v4 => mk [(1, oD (.ptr 1 0)), (2, oD (.ptr 2 0)), (4, oD (.ptr 4 0)), (5, iD v4.2.2.2)] [(1, .box (Br p0)), (2, .box [.pure (.nil0), .pure (.nil0), .pure (.nil0), .pure (.nil0)]), (4, .box [.own 2005, .own 2006, .own 2007, .pure (.nil0)]), (2005, .vec 1 (v4.1.map An)), (2006, .vec 1 (v4.2.1.map An)), (2007, .vec 1 (v4.2.2.1.map An))]) (fun v5 => mk [(1, oD (.ptr 1 0)), (2, oD (.ptr 2 0)), (4, oD (.ptr 4 0))] [(1, .box (Br p0)), (2, .box [.pure (.nil0), .pure (.nil0), .pure (.nil0), .pure (.nil0)]), (4, .box [.own 2008, .own 2009, .own 2010, .pure (.nil0)]), (2008, .vec 1 (v5.1.map An)), (2009, .vec 1 (v5.2.1.map An)), (2010, .vec 1 (v5.2.2.map An))]) (fun _ _ => rfl) ((A0 4 0 2011 1 _ rfl rfl rfl rfl).trans ((A0 4 1 2012 1 _ rfl rfl rfl rfl).trans ((A0 4 2 2013 1 _ rfl rfl rfl rfl).trans (sm [(2005, 2011), (2006, 2012), (2007, 2013)] _ _ rfl rfl)))) (fun j4 n4 v4 h => ?_) (fun v5 s h hs => ?_)
   ·unfold Bk at h
    refine wp rfl (qm rfl (qf J5 rfl (ql I4 rfl (AB Ip rfl (Bw rfl (Ac ?_))))))
    refine CB h (fun h => ?_) fun h => ?_
    ·refine Ao (A7 (Bf (wq rfl (qf J5 rfl (ql I4 rfl (qm rfl ?_))))))
     refine CT h fun v7 a7 b7 h => qi Ip QB a7 (Ai b7) rfl (qk Pz rfl (Gq rfl (by decide) (Kn PA O7 rfl (B5 rfl (qa rfl (Ac (wq rfl (qf Bi rfl (ql Bx rfl (qm rfl (Df Ar Dp G9 rfl ?_)))))))))))
     refine Ff h fun c8 h => DE (f := An) Ar Ar Dp Ie G9 c8 rfl (qf Bi rfl (qs MS rfl (Ac (wq rfl (qf Fg rfl (ql Bx rfl (qf Ob rfl (ql I4 rfl (qm rfl ?_)))))))))
     refine De h fun v9 a9 h => AM [] (EX N p0.fk v4.2.2.2 v9 a9) P5 rfl (qm rfl ?_)
     refine Ff h fun c10 h => Gq rfl c10 (Df Ar Dp G9 rfl ?_)
     refine Ff h fun c11 h => DE (f := An) Ar Ar Dp Ie G9 c11 rfl (qf Fg rfl (qs MS rfl (BD (by kernel_rfl) (Ak Aw rfl (qf Fh rfl (ql Bx rfl (qf N6 rfl (ql I4 rfl (qm rfl ?_)))))))))
     refine De h fun v12 a12 h => AM [] (EX N p0.fm v4.2.2.2 v12 a12) P5 rfl (qm rfl ?_)
     refine Ff h fun c13 h => Gq rfl c13 (Df Ar Dp G9 rfl ?_)
     refine Ff h fun c14 h => DE (f := An) Ar Ar Dp Ie G9 c14 rfl (qf Fh rfl (qs MS rfl (BD (by kernel_rfl) (Ak Aw rfl (qm rfl (B5 rfl (qe rfl ?_)))))))
     exact sn [(2005, 40), (2006, 51), (2007, 62)] h
    ·refine Bv ?_
     exact sn [(2008, 2005), (2009, 2006), (2010, 2007)] h
   ·refine Aj hs (wp rfl (qe rfl ?_))
    refine A2 (L := AI N p0 v5) h (fun v15 => mk [(1, oD (.ptr 1 0)), (2, oD (.ptr 2 0)), (4, oD (.ptr 4 0)), (7, iD v15.2)] [(1, .box (Br p0)), (2, .box [.pure (.nil0), .pure (.nil0), .pure (.nil0), .pure (.nil0)]), (4, .box [.own 2014, .own 2015, .own 2016, .own 2017]), (2014, .vec 1 (v5.1.map An)), (2015, .vec 1 (v5.2.1.map An)), (2016, .vec 1 (v5.2.2.map An)), (2017, .vec 6 (v15.1.map Ap))]) (fun v16 => mk [(2, oD (.ptr 2 0)), (4, oD (.ptr 4 0))] [(2, .box [.pure (.nil0), .pure (.nil0), .pure (.nil0), .pure (.nil0)]), (4, .box [.own 2018, .own 2019, .own 2020, .own 2021]), (2018, .vec 1 (v5.1.map An)), (2019, .vec 1 (v5.2.1.map An)), (2020, .vec 1 (v5.2.2.map An)), (2021, .vec 6 (v16.map Ap))]) (fun _ _ => rfl) ((A0 4 3 2039 6 _ rfl rfl rfl rfl).trans (sm [(2014, 2008), (2015, 2009), (2016, 2010), (2017, 2039)] _ _ rfl rfl)) (fun j15 n15 v15 h => ?_) (fun v16 s h hs => ?_)
    ·unfold AI at h
     refine A7 ?_
     refine Bd h (fun v17 => mk [(1, oD (.ptr 1 0)), (2, oD (.ptr 2 0)), (4, oD (.ptr 4 0)), (7, iD v15.2), (74, bD v17)] [(1, .box (Br p0)), (2, .box [.pure (.nil0), .pure (.nil0), .pure (.nil0), .pure (.nil0)]), (4, .box [.own 2022, .own 2023, .own 2024, .own 2025]), (2022, .vec 1 (v5.1.map An)), (2023, .vec 1 (v5.2.1.map An)), (2024, .vec 1 (v5.2.2.map An)), (2025, .vec 6 (v15.1.map Ap))]) (fun j17 h => ?_) (fun v17 h => ?_)
     ·refine Ak Aw rfl (qm rfl (qf J3 rfl (ql Py rfl (AB M4 rfl (Bw rfl (qm rfl ?_))))))
      refine DD 69 h rfl (fun h => ?_) fun h => ?_
      ·refine qf Bi rfl (ql Bx rfl (FI Ar rfl (EB rfl (qp rfl (Ac ?_)))))
       exact sn [(2022, 2014), (2023, 2015), (2024, 2016), (2025, 2017)] h
      ·refine qw 4 rfl (qp rfl (Ac ?_))
       exact sn [(2022, 2014), (2023, 2015), (2024, 2016), (2025, 2017)] h
     ·refine CB h (fun h => ?_) fun h => ?_
      ·refine Ao (A7 (Bf (wq rfl (qf J3 rfl (ql Py rfl (qm rfl ?_))))))
       refine CT h fun v20 a20 b20 h => qi M4 Pk a20 (Ai b20) rfl (qK Qy Pk rfl (qz QI rfl (qs Pk rfl (Ac (wq rfl (qf N3 rfl (ql Pz rfl (Gq rfl (by decide) (Kn PA O7 rfl (B5 rfl (qf Ns rfl (ql Pz rfl (Kn PA O7 rfl (qf Bi rfl (ql Bx rfl (FI Ar rfl ?_))))))))))))))))
       refine Ff h fun c21 h => Gq rfl c21 (qf Oo rfl (ql Pz rfl (Kn PA O7 rfl (qf Bi rfl (ql Bx rfl (FI Ar rfl ?_))))))
       refine Ff h fun c22 h => Gq rfl c22 (Ch GM Px rfl (qz GM rfl (qs C6 rfl (BD (by kernel_rfl) ?_))))
       refine Bd h (fun v23 => mk [(1, oD (.ptr 1 0)), (2, oD (.ptr 2 0)), (4, oD (.ptr 4 0)), (7, iD v15.2), (8, oD (.ptr 8 0)), (9, oD (.ptr 9 0))] [(1, .box (Br p0)), (2, .box [.pure (.nil0), .pure (.nil0), .pure (.nil0), .pure (.nil0)]), (4, .box [.own 2026, .own 2027, .own 2028, .own 2029]), (8, .box (Hw v20)), (9, .box [iC ((wI .i64 (1 + (wI .i64 ((Int.tmod v20.fe 4)))))), iC ((Int.tmod ((wI .i64 v20.fd)) ((v5.1.length : Int)))), iC ((Int.tmod ((wI .i64 v20.fi)) ((v5.1.length : Int)))), .pure (.val (.bool v23)), .pure (.nil0), .pure (.nil0)]), (2026, .vec 1 (v5.1.map An)), (2027, .vec 1 (v5.2.1.map An)), (2028, .vec 1 (v5.2.2.map An)), (2029, .vec 6 (v15.1.map Ap))]) (fun j23 h => ?_) (fun v23 h => ?_)
       ·refine Ak Aw rfl (qf NX rfl (ql Np rfl (qm rfl ?_)))
        refine DD 104 h rfl (fun h => ?_) fun h => ?_
        ·refine qL GN C6 rfl ?_
         refine De h fun v25 a25 h => AM [] (Di N ((Ab.mk ((wI .i64 (1 + (wI .i64 ((Int.tmod v20.fe 4)))))) ((Int.tmod ((wI .i64 v20.fd)) ((v5.1.length : Int)))) ((Int.tmod ((wI .i64 v20.fi)) ((v5.1.length : Int)))) false (([] : List (List Bool))) (([] : List (List Bool))))) v25 a25) Ps rfl (CY rfl (qp rfl (qf FK rfl (qs Jq rfl (Ac ?_)))))
         exact sn [(2026, 2022), (2027, 2023), (2028, 2024), (2029, 2025)] h
        ·refine qw 3 rfl (qp rfl (qf FK rfl (qs Jq rfl (Ac ?_))))
         exact sn [(2026, 2022), (2027, 2023), (2028, 2024), (2029, 2025)] h
       ·refine wq rfl (qf Bi rfl (ql Bx rfl (qf CS rfl (ql Dc rfl ?_))))
        refine CT h fun v26 a26 b26 h => qI Ar Dp a26 (Ai b26) rfl (qj Dc (Ai b26) rfl (qf Bi rfl (ql Bx rfl (qf Fd rfl (ql Dc rfl ?_)))))
        refine CT h fun v27 a27 b27 h => qI Ar Dp a27 (Ai b27) rfl (qj Dc (Ai b27) rfl (qf Of rfl (ql Pj rfl ?_)))
        refine De h fun v28 a28 h => AM [2030] (E5 N v26 v27 v20.fu false v28 a28) PH rfl (qf En rfl (qs PF rfl (BD (by kernel_rfl) ?_)))
        refine Bd h (fun v29 => mk [(1, oD (.ptr 1 0)), (2, oD (.ptr 2 0)), (4, oD (.ptr 4 0)), (7, iD v15.2), (9, oD (.ptr 9 0))] [(1, .box (Br p0)), (2, .box [.pure (.nil0), .pure (.nil0), .pure (.nil0), .pure (.nil0)]), (4, .box [.own 2031, .own 2032, .own 2033, .own 2034]), (9, .box [iC ((wI .i64 (1 + (wI .i64 ((Int.tmod v20.fe 4)))))), iC ((Int.tmod ((wI .i64 v20.fd)) ((v5.1.length : Int)))), iC ((Int.tmod ((wI .i64 v20.fi)) ((v5.1.length : Int)))), .pure (.val (.bool v23)), .own 2035, .own 2036]), (2031, .vec 1 (v5.1.map An)), (2032, .vec 1 (v5.2.1.map An)), (2033, .vec 1 (v5.2.2.map An)), (2034, .vec 6 (v15.1.map Ap)), (2035, .vec 1 (v28.map (Ec eB))), (2036, .vec 1 (v29.map (Ec eB)))]) (fun j29 h => ?_) (fun v29 h => ?_)
        ·refine wq rfl (qf D0 rfl (ql Dc rfl (Cy rfl (Ac ?_))))
         refine CB h (fun h => ?_) fun h => ?_
         ·refine Ak Aw rfl (qf Bi rfl (ql Bx rfl (qf CS rfl (ql Dc rfl ?_))))
          refine CT h fun v31 a31 b31 h => qI Ar Dp a31 (Ai b31) rfl (qj Dc (Ai b31) rfl (qf Bi rfl (ql Bx rfl (qf CS rfl (ql Dc rfl ?_)))))
          refine CT h fun v32 a32 b32 h => qI Ar Dp a32 (Ai b32) rfl (qj Dc (Ai b32) rfl (qf N5 rfl (ql Pj rfl ?_)))
          refine De h fun v33 a33 h => AM [2037] (E5 N v31 v32 v20.fv true v33 a33) PH rfl (qf Ea rfl (qs PF rfl (BD (by kernel_rfl) ?_)))
          exact sn [(2031, 2026), (2032, 2027), (2033, 2028), (2034, 2029), (2035, 2030), (2036, 2037)] h
         ·refine Ao ?_
          exact OY _ h ((A0 9 5 2038 1 _ rfl rfl rfl rfl).trans (sm [(2031, 2026), (2032, 2027), (2033, 2028), (2034, 2029), (2035, 2030), (2036, 2038)] _ _ rfl rfl))
        ·refine Ak Aw rfl (qf BU rfl (ql Fp rfl (qL GN C6 rfl (DV (BB 2035 _ _ rfl rfl) (DV (BB 2036 _ _ rfl rfl) (Df CI C6 GM rfl ?_))))))
         refine Ff h fun c34 h => DE (f := Ap) CI CI C6 OR GM c34 rfl (qf BU rfl (qs PZ rfl (Ac (Ak Aw rfl (qm rfl (B5 rfl (qe rfl ?_)))))))
         exact sn [(2014, 2031), (2015, 2032), (2016, 2033), (2017, 149)] h
      ·refine Bv ?_
       exact sn [(2018, 2022), (2019, 2023), (2020, 2024), (2021, 2025)] h
    ·refine Aj hs (wq rfl (qL Ei Dh rfl (qs Dh rfl (qe rfl ?_))))
     obtain rfl := sj h
     refine Aj (sm [(1000, 2018), (1001, 2019), (1002, 2020), (1003, 2021)] [(2, oD (.ptr 2 0)), (3, bD true)] [(2, .box [.own 1000, .own 1001, .own 1002, .own 1003]), (1000, .vec 1 (v5.1.map An)), (1001, .vec 1 (v5.2.1.map An)), (1002, .vec 1 (v5.2.2.map An)), (1003, .vec 6 (v16.map Ap))] rfl rfl) (Av ?_)
     exact ⟨⟨[_, _], ⟨.cellN _ _ _ _ _ _ _ rfl rfl Ei Dh rfl rfl (Lx rfl), tm⟩, rfl⟩, ⟨rfl, rfl, rfl, rfl, tv⟩⟩
theorem B9 (N : Nat) (p0 : Bool) (r : Aa) (h : Bl N p0 = some r) : Au Try.prog 40 [bD p0] [(1, r.fa.map An), (1, r.fk.map An), (1, r.fm.map An), (6, r.fb.map Ap)] (.e (.agg [.own 0, .own 1, .own 2, .own 3])) := by
 unfold Bl at h
 refine cw (n := 15) (rs := [.cell 2 31]) Try.func40 fun w0 S0 => ?_
 refine wq rfl (qz H6 rfl (Ac (wq rfl (qm rfl (Df Dg Jq Nn rfl (Df Dg Jq Nn rfl (DV (BB 5 _ _ rfl rfl) (DV (BB 6 _ _ rfl rfl) (Df CU Hg ML rfl (Ch GM Px rfl (qz GM rfl (qs C6 rfl (Ac (wq rfl (Df Ar Dp G9 rfl (Df Ar Dp G9 rfl (Df Ar Dp G9 rfl (qL GN C6 rfl (DV (BB 7 _ _ rfl rfl) (Df CI C6 GM rfl (Ch H6 MU rfl (qs Dh rfl (Ac ?_)))))))))))))))))))))))
 obtain rfl := sj h
 refine Aj (sm [(1000, 9), (1001, 10), (1002, 11), (1003, 13)] [(2, oD (.ptr 2 0))] [(2, .box [.own 1000, .own 1001, .own 1002, .own 1003]), (1000, .vec 1 ((([2, 2] : List Int)).map An)), (1001, .vec 1 ((([0, 0] : List Int)).map An)), (1002, .vec 1 ((([1, 1] : List Int)).map An)), (1003, .vec 6 ((([(Ab.mk 1 0 1 p0 (([([true, true] : List Bool), ([false, true] : List Bool)] : List (List Bool))) (([] : List (List Bool))))] : List Ab)).map Ap))] rfl rfl) (Av ?_)
 exact ⟨⟨[_], ⟨.cellN _ _ _ _ _ _ _ rfl rfl Ei Dh rfl rfl (Lx rfl), tv⟩, rfl⟩, ⟨rfl, rfl, rfl, rfl, tv⟩⟩
theorem Eb (N : Nat) (p0 : Int) (p1 : Int) (r : Bool) (h : B6 N p0 p1 = some r) : Au Try.prog 66 [iD p0, iD p1] [] (bD r) := by
 unfold B6 at h
 refine cw (n := 12) (rs := [.tmp 4]) Try.func66 fun w0 S0 => ?_
 refine wq rfl (qe rfl ?_)
 refine Bd h (fun v1 => mk [(4, bD v1)] []) (fun j1 h => ?_) (fun v1 h => ?_)
 ·refine Ak Aw rfl (qm rfl (FV rfl (qm rfl ?_)))
  refine DD 7 h rfl (fun h => ?_) fun h => ?_
  ·refine qw 2 rfl (Bw rfl (qp rfl (qe rfl ?_)))
   exact sn [] h
  ·refine qw 3 rfl (qp rfl (qe rfl ?_))
   exact sn [] h
 ·obtain rfl := sj h
  refine Aj (sm [] [(4, bD v1)] [] rfl rfl) (Av ?_)
  exact ⟨⟨[_], tm, rfl⟩, tv⟩
theorem J1 (N : Nat) (p0 : Int) (p1 : Bool) (r : Bool) (h : DG N p0 p1 = some r) : Au Try.prog 73 [iD p0, bD p1] [] (bD r) := by
 unfold DG at h
 refine cw (n := 23) (rs := [.tmp 4]) Try.func73 fun w0 S0 => ?_
 refine wq rfl (qe rfl ?_)
 refine Bd h (fun v1 => mk [(4, bD v1)] []) (fun j1 h => ?_) (fun v1 h => ?_)
 ·refine Ak Aw rfl (qm rfl (Cy rfl (qm rfl ?_)))
  refine DD 7 h rfl (fun h => ?_) fun h => ?_
  ·refine qw 2 rfl (qp rfl (qw 4 rfl (qu rfl (qu rfl (qw 2 rfl (qu rfl (qu rfl (qn rfl (qp rfl (qe rfl ?_))))))))))
   exact sn [] h
  ·refine qm rfl (Cy rfl (qp rfl (qm rfl ?_)))
   refine DD 11 h rfl (fun h => ?_) fun h => ?_
   ·refine qw 3 rfl (qu rfl (qu rfl (qw 2 rfl (qu rfl (qu rfl (qn rfl (qp rfl (qe rfl ?_))))))))
    exact sn [] h
   ·refine qm rfl (Cy rfl (qm rfl ?_))
    refine DD 14 h rfl (fun h => ?_) fun h => ?_
    ·refine qw 2 rfl (qp rfl (qw 2 rfl (CY rfl (qp rfl (qp rfl (qe rfl ?_))))))
     exact sn [] h
    ·refine qm rfl (Cy rfl (qp rfl (qm rfl ?_)))
     refine DD 18 h rfl (fun h => ?_) fun h => ?_
     ·refine qm rfl (CY rfl (qp rfl (qp rfl (qe rfl ?_))))
      exact sn [] h
     ·refine qw 2 rfl (qp rfl (qp rfl (qe rfl ?_)))
      exact sn [] h
 ·obtain rfl := sj h
  refine Aj (sm [] [(4, bD v1)] [] rfl rfl) (Av ?_)
  exact ⟨⟨[_], tm, rfl⟩, tv⟩
theorem Hr (N : Nat) (p0 : List Bool) (p1 : Int) (r : Bool) (h : B1 N p0 p1 = some r) : Au Try.prog 80 [pD (.sl (p0.map eB)), oD (.rop [.val (.int .i64 p1)])] [] (bD r) := by
 unfold B1 at h
 refine cw (n := 8) (rs := [.tmp 3]) Try.func80 fun w0 S0 => ?_
 refine wq rfl (qa rfl (Ac (wq rfl (qm rfl (AB Dg rfl (qk Dc rfl (CV rfl (qe rfl ?_))))))))
 obtain rfl := sj h
 refine Aj (sm [] [(3, bD (((p0.length : Int) != p1)))] [] rfl rfl) (Av ?_)
 exact ⟨⟨[_], tm, rfl⟩, tv⟩
theorem Ez (N : Nat) (p0 : List (List Bool)) (p1 : (List Bool) → Option Bool) (r : Int) (h : BH N p0 p1 = some r) : Au Try.prog 81 [pD (.sl (p0.map (Ec eB))), oD (.clo (KQ (OG false (Ec eB)) tB p1))] [] (iD r) := by
 unfold BH at h
 refine cw (n := 19) (rs := [.tmp 4]) Try.func81 fun w0 S0 => ?_
 refine wq rfl (qa rfl (Ac (wp rfl (qm rfl (AB CU rfl (qm rfl (Ac ?_)))))))
 refine A2 (L := AC N p0 p1) h (fun v1 => mk [(0, pD (.sl (p0.map (Ec eB)))), (1, oD (.clo (KQ (OG false (Ec eB)) tB p1))), (7, iD ((p0.length : Int))), (8, iD v1)] []) (fun v2 => mk [] []) (fun _ _ => rfl) (sm [] _ _ rfl rfl) (fun j1 n1 v1 h => ?_) (fun v2 s h hs => ?_)
 ·unfold AC at h
  refine wq rfl (Bw rfl (Ac (A7 ?_)))
  refine CB h (fun h => ?_) fun h => ?_
  ·refine Ao (A7 (Bf (wq rfl (qm rfl (qa rfl (Ac (wq rfl (qw 3 rfl ?_))))))))
   refine CT h fun v4 a4 b4 h => qi CU Hg a4 (Ai b4) rfl (qk J2 rfl ?_)
   refine De h fun v5 a5 h => Or (ds0 := [_]) (ar := (OG false (Ec eB)) v4) (.p rfl) rfl rfl ⟨rfl, tv⟩ rfl rfl rfl (Nr (Nt _ _ (Qi Qx)) a5) ?_
   refine Ac ?_
   refine CB h (fun h => ?_) fun h => ?_
   ·refine wq rfl (qm rfl (qe rfl ?_))
    obtain rfl := sj h
    refine Aj (sm [] [(4, iD v1)] [] rfl rfl) (Av ?_)
    exact ⟨⟨[_], tm, rfl⟩, tv⟩
   ·refine Ao (Ak Aw rfl (B5 rfl (qm rfl (Ac ?_))))
    exact sn [] h
  ·refine Bv ?_
   exact sn [] h
 ·refine Aj hs (wq rfl (qe rfl ?_))
  obtain rfl := sj h
  refine Aj (sm [] [(4, iD ((-1)))] [] rfl rfl) (Av ?_)
  exact ⟨⟨[_], tm, rfl⟩, tv⟩
theorem Ee (N : Nat) (p0 : List (List Bool)) (p1 : (List Bool) → Option Bool) (r : Bool) (h : Bp N p0 p1 = some r) : Au Try.prog 79 [pD (.sl (p0.map (Ec eB))), oD (.clo (KQ (OG false (Ec eB)) tB p1))] [] (bD r) := by
 unfold Bp at h
 refine cw (n := 9) (rs := [.tmp 4]) Try.func79 fun w0 S0 => ?_
 refine wq rfl (qa rfl (Ac (wq rfl (qw 2 rfl ?_))))
 refine De h fun v1 a1 h => AM [] (Ez N p0 p1 v1 a1) QV rfl (FV rfl (qe rfl ?_))
 obtain rfl := sj h
 refine Aj (sm [] [(4, bD ((decide (0 ≤ v1))))] [] rfl rfl) (Av ?_)
 exact ⟨⟨[_], tm, rfl⟩, tv⟩
theorem F6 (N : Nat) (p0 : List (List Bool)) (p1 : Int) (p2 : Int) (r : Bool) (h : CG N p0 p1 p2 = some r) : Au Try.prog 74 [pD (.sl (p0.map (Ec eB))), iD p1, iD p2] [] (bD r) := by
 unfold CG at h
 refine cw (n := 17) (rs := [.tmp 6]) Try.func74 fun w0 S0 => ?_
 refine wq rfl (qb rfl (qe rfl ?_))
 refine Bd h (fun v1 => mk [(6, bD v1)] []) (fun j1 h => ?_) (fun v1 h => ?_)
 ·refine Ak Aw rfl (qm rfl (AB CU rfl (qm rfl (Cy rfl (qm rfl ?_)))))
  refine DD 11 h rfl (fun h => ?_) fun h => ?_
  ·refine qm rfl (DV (MY 5 [.val (.int .i64 p2)] rfl rfl) ?_)
   refine La (capD := [_]) (KQ (OG false (Ec eB)) tB ((fun (x : List Bool) => B1 N x p2))) (.g rfl rfl) QJ rfl ⟨rfl, tv⟩ rfl (fun ar t ht => by obtain ⟨x, r, rfl, hq, rfl⟩ := L2 ht; exact Hr N x p2 r hq) ?_
   refine De h fun v3 a3 h => AM [] (Ee N p0 ((fun (x : List Bool) => B1 N x p2)) v3 a3) QW rfl (CY rfl (qp rfl (qe rfl ?_)))
   exact sn [] h
  ·refine qw 4 rfl (qp rfl (qe rfl ?_))
   exact sn [] h
 ·obtain rfl := sj h
  refine Aj (sm [] [(6, bD v1)] [] rfl rfl) (Av ?_)
  exact ⟨⟨[_], tm, rfl⟩, tv⟩
theorem Ja (N : Nat) (p0 : Aa) (p1 : Ab) (r : Int) (h : Dl N p0 p1 = some r) : Au Try.prog 67 [.e (.agg (Am p0)), .e (.agg (Bn p1))] [] (iD r) := by
 unfold Dl at h
 refine cw (n := 87) (rs := [.tmp 4]) Try.func67 fun w0 S0 => ?_
 refine wq rfl (qb rfl (qb rfl (qa rfl (Ac (wp rfl (qf D0 rfl (ql Dc rfl (qf FK rfl (ql Np rfl ?_)))))))))
 refine De h fun v1 a1 h => AM [] (J1 N p1.fe p1.fo v1 a1) QH rfl (CY rfl (Ac ?_))
 refine CB h (fun h => ?_) fun h => ?_
 ·refine wq rfl (qe rfl ?_)
  obtain rfl := sj h
  refine Aj (sm [] [(4, iD 1)] [] rfl rfl) (Av ?_)
  exact ⟨⟨[_], tm, rfl⟩, tv⟩
 ·refine Ao (A7 ?_)
  refine Bd h (fun v3 => mk [(2, oD (.ptr 2 0)), (3, oD (.ptr 3 0)), (29, bD v3)] [(2, .box (Am p0)), (3, .box (Bn p1))]) (fun j3 h => ?_) (fun v3 h => ?_)
  ·refine Ak Aw rfl (qf CS rfl (ql Dc rfl (qf Bi rfl (ql Bx rfl (AB Ar rfl ?_)))))
   refine De h fun v4 a4 h => AM [] (Eb N p1.fd ((p0.fa.length : Int)) v4 a4) N4 rfl (CY rfl (qm rfl ?_))
   refine DD 21 h rfl (fun h => ?_) fun h => ?_
   ·refine qw 7 rfl (qp rfl (Ac ?_))
    exact sn [] h
   ·refine qf Fd rfl (ql Dc rfl (qf Bi rfl (ql Bx rfl (AB Ar rfl ?_))))
    refine De h fun v6 a6 h => AM [] (Eb N p1.fi ((p0.fa.length : Int)) v6 a6) N4 rfl (CY rfl (qp rfl (Ac ?_)))
    exact sn [] h
  ·refine CB h (fun h => ?_) fun h => ?_
   ·refine wq rfl (qe rfl ?_)
    obtain rfl := sj h
    refine Aj (sm [] [(4, iD 4)] [] rfl rfl) (Av ?_)
    exact ⟨⟨[_], tm, rfl⟩, tv⟩
   ·refine Ao (wq rfl (qf Bi rfl (ql Bx rfl (qf CS rfl (ql Dc rfl ?_)))))
    refine CT h fun v8 a8 b8 h => qi Ar Dp a8 (Ai b8) rfl (qk Dc rfl (qa rfl (Ac (wq rfl (qf D0 rfl (ql Dc rfl (Cy rfl (qa rfl (Ac (A7 ?_))))))))))
    refine Bd h (fun v9 => mk [(3, oD (.ptr 3 0)), (70, bD v9)] [(3, .box (Bn p1))]) (fun j9 h => ?_) (fun v9 h => ?_)
    ·refine Ak Aw rfl (qf En rfl (ql FE rfl (qm rfl (qf Bi rfl (ql Bx rfl (qf Fd rfl (ql Dc rfl ?_)))))))
     refine CT h fun v10 a10 b10 h => qi Ar Dp a10 (Ai b10) rfl (qk Dc rfl ?_)
     refine De h fun v11 a11 h => AM [] (F6 N p1.ff v8 v10 v11 a11) PG rfl (CY rfl (qm rfl ?_))
     refine DD 50 h rfl (fun h => ?_) fun h => ?_
     ·refine qw 2 rfl (qu rfl (qu rfl (qu rfl (qu rfl (qu rfl (qu rfl (qn rfl (qp rfl (qw 4 rfl (qu rfl (qu rfl (qu rfl (qu rfl (qn rfl (qp rfl (BD (by kernel_rfl) ?_))))))))))))))))
      exact sn [] h
     ·refine qw 2 rfl ?_
      refine DD 52 h rfl (fun h => ?_) fun h => ?_
      ·refine qf Ea rfl (ql FE rfl (qw 2 rfl ?_))
       refine De h fun v14 a14 h => AM [] (F6 N p1.fj v8 v8 v14 a14) PG rfl (CY rfl (qp rfl (qp rfl (qm rfl ?_))))
       refine DD 61 h rfl (fun h => ?_) fun h => ?_
       ·refine qw 3 rfl (qu rfl (qu rfl (qu rfl (qu rfl (qn rfl (qp rfl (BD (by kernel_rfl) ?_)))))))
        exact sn [] h
       ·refine qm rfl (CY rfl (qm rfl ?_))
        refine DD 64 h rfl (fun h => ?_) fun h => ?_
        ·refine qf Ea rfl (ql FE rfl (AB CU rfl (EB rfl (qp rfl (qp rfl (BD (by kernel_rfl) ?_))))))
         exact sn [] h
        ·refine qw 4 rfl (qp rfl (qp rfl (BD (by kernel_rfl) ?_)))
         exact sn [] h
      ·refine qw 6 rfl (qp rfl (qp rfl (qw 2 rfl (CY rfl (qm rfl ?_)))))
       refine DD 64 h rfl (fun h => ?_) fun h => ?_
       ·refine qf Ea rfl (ql FE rfl (AB CU rfl (EB rfl (qp rfl (qp rfl (BD (by kernel_rfl) ?_))))))
        exact sn [] h
       ·refine qw 4 rfl (qp rfl (qp rfl (BD (by kernel_rfl) ?_)))
        exact sn [] h
    ·refine CB h (fun h => ?_) fun h => ?_
     ·refine wq rfl (qe rfl ?_)
      obtain rfl := sj h
      refine Aj (sm [] [(4, iD 6)] [] rfl rfl) (Av ?_)
      exact ⟨⟨[_], tm, rfl⟩, tv⟩
     ·refine Ao (wp rfl (qf Ea rfl (ql FE rfl (AB CU rfl (qm rfl (Ac ?_))))))
      refine A2 (L := Bu N p1) h (fun v19 => mk [(3, oD (.ptr 3 0)), (73, iD ((p1.fj.length : Int))), (74, iD v19)] [(3, .box (Bn p1))]) (fun v20 => mk [] []) (fun _ _ => rfl) (sm [] _ _ rfl rfl) (fun j19 n19 v19 h => ?_) (fun v20 s h hs => ?_)
      ·unfold Bu at h
       refine wq rfl (Bw rfl (Ac (A7 ?_)))
       refine CB h (fun h => ?_) fun h => ?_
       ·refine Ao (A7 (Bf (wq rfl (qm rfl (qa rfl (Ac (wq rfl (qf Ea rfl (ql FE rfl (qm rfl ?_))))))))))
        refine CT h fun v22 a22 b22 h => qi CU Hg a22 (Ai b22) rfl (qk J2 rfl (qm rfl ?_))
        refine CT h fun v23 a23 b23 h => qi Dg Jq a23 (Ai b23) rfl (qk Np rfl (CY rfl (Ac ?_)))
        refine CB h (fun h => ?_) fun h => ?_
        ·refine wq rfl (qe rfl ?_)
         obtain rfl := sj h
         refine Aj (sm [] [(4, iD 1)] [] rfl rfl) (Av ?_)
         exact ⟨⟨[_], tm, rfl⟩, tv⟩
        ·refine Ao (Ak Aw rfl (B5 rfl (qm rfl (Ac ?_))))
         exact sn [] h
       ·refine Bv ?_
        exact sn [] h
      ·refine Aj hs (wq rfl (qe rfl ?_))
       obtain rfl := sj h
       refine Aj (sm [] [(4, iD 0)] [] rfl rfl) (Av ?_)
       exact ⟨⟨[_], tm, rfl⟩, tv⟩
theorem Gi (N : Nat) (p0 : Aa) (r : Int) (h : Ca N p0 = some r) : Au Try.prog 52 [.e (.agg (Am p0))] [] (iD r) := by
 unfold Ca at h
 refine cw (n := 81) (rs := [.tmp 2]) Try.func52 fun w0 S0 => ?_
 refine wq rfl (qb rfl (qa rfl (Ac (wq rfl (qf Bi rfl (ql Bx rfl (AB Ar rfl (qa rfl (Ac (A7 ?_))))))))))
 refine Bd h (fun v1 => mk [(1, oD (.ptr 1 0)), (3, iD ((p0.fa.length : Int))), (19, bD v1)] [(1, .box (Am p0))]) (fun j1 h => ?_) (fun v1 h => ?_)
 ·refine Ak Aw rfl (qm rfl (EB rfl (qm rfl ?_)))
  refine DD 14 h rfl (fun h => ?_) fun h => ?_
  ·refine qw 4 rfl (qp rfl (Ac ?_))
   exact sn [] h
  ·refine qf BU rfl (ql Fp rfl (AB CI rfl (EB rfl (qp rfl (Ac ?_)))))
   exact sn [] h
 ·refine CB h (fun h => ?_) fun h => ?_
  ·refine wq rfl (qe rfl ?_)
   obtain rfl := sj h
   refine Aj (sm [] [(2, iD 3)] [] rfl rfl) (Av ?_)
   exact ⟨⟨[_], tm, rfl⟩, tv⟩
  ·refine Ao (A7 ?_)
   refine Bd h (fun v4 => mk [(1, oD (.ptr 1 0)), (31, bD v4)] [(1, .box (Am p0))]) (fun j4 h => ?_) (fun v4 h => ?_)
   ·refine Ak Aw rfl (qf Fg rfl (ql Bx rfl (AB Ar rfl (qm rfl (CV rfl (qm rfl ?_))))))
    refine DD 25 h rfl (fun h => ?_) fun h => ?_
    ·refine qw 5 rfl (qp rfl (Ac ?_))
     exact sn [] h
    ·refine qf Fh rfl (ql Bx rfl (AB Ar rfl (qm rfl (CV rfl (qp rfl (Ac ?_))))))
     exact sn [] h
   ·refine CB h (fun h => ?_) fun h => ?_
    ·refine wq rfl (qe rfl ?_)
     obtain rfl := sj h
     refine Aj (sm [] [(2, iD 6)] [] rfl rfl) (Av ?_)
     exact ⟨⟨[_], tm, rfl⟩, tv⟩
    ·refine Ao (wp rfl (qf Bi rfl (ql Bx rfl (AB Ar rfl (qm rfl (Ac ?_))))))
     refine A2 (L := A3 N p0) h (fun v7 => mk [(1, oD (.ptr 1 0)), (33, pD (.sl (p0.fa.map An))), (34, iD ((p0.fa.length : Int))), (35, iD v7)] [(1, .box (Am p0))]) (fun v8 => mk [(1, oD (.ptr 1 0))] [(1, .box (Am p0))]) (fun _ _ => rfl) (sm [] _ _ rfl rfl) (fun j7 n7 v7 h => ?_) (fun v8 s h hs => ?_)
     ·unfold A3 at h
      refine wq rfl (Bw rfl (Ac (A7 ?_)))
      refine CB h (fun h => ?_) fun h => ?_
      ·refine Ao (A7 (Bf (wq rfl (qm rfl ?_))))
       refine CT h fun v10 a10 b10 h => qi Ar Dp a10 (Ai b10) rfl (qk Dc rfl (qa rfl (qe rfl ?_)))
       refine Bd h (fun v11 => mk [(1, oD (.ptr 1 0)), (33, pD (.sl (p0.fa.map An))), (34, iD ((p0.fa.length : Int))), (35, iD v7), (65, bD v11)] [(1, .box (Am p0))]) (fun j11 h => ?_) (fun v11 h => ?_)
       ·refine Ak Aw rfl (qm rfl (Bw rfl (qm rfl ?_)))
        refine DD 42 h rfl (fun h => ?_) fun h => ?_
        ·refine qw 2 rfl (qp rfl (qw 9 rfl (qp rfl (qw 9 rfl (qp rfl (Ac ?_))))))
         exact sn [] h
        ·refine qm rfl (EB rfl (qp rfl (qm rfl ?_)))
         refine DD 46 h rfl (fun h => ?_) fun h => ?_
         ·refine qw 8 rfl (qp rfl (qw 9 rfl (qp rfl (Ac ?_))))
          exact sn [] h
         ·refine qf Fg rfl (ql Bx rfl (qm rfl ?_))
          refine CT h fun v14 a14 b14 h => qi Ar Dp a14 (Ai b14) rfl (qk Dc rfl (qm rfl ?_))
          refine De h fun v15 a15 h => AM [] (Eb N v14 v10 v15 a15) N4 rfl (CY rfl (qp rfl (qm rfl ?_)))
          refine DD 56 h rfl (fun h => ?_) fun h => ?_
          ·refine qw 8 rfl (qp rfl (Ac ?_))
           exact sn [] h
          ·refine qf Fh rfl (ql Bx rfl (qm rfl ?_))
           refine CT h fun v17 a17 b17 h => qi Ar Dp a17 (Ai b17) rfl (qk Dc rfl (qm rfl ?_))
           refine De h fun v18 a18 h => AM [] (Eb N v17 v10 v18 a18) N4 rfl (CY rfl (qp rfl (Ac ?_)))
           exact sn [] h
       ·refine CB h (fun h => ?_) fun h => ?_
        ·refine wq rfl (qe rfl ?_)
         obtain rfl := sj h
         refine Aj (sm [] [(2, iD 7)] [] rfl rfl) (Av ?_)
         exact ⟨⟨[_], tm, rfl⟩, tv⟩
        ·refine Ao (Ak Aw rfl (B5 rfl (qm rfl (Ac ?_))))
         exact sn [] h
      ·refine Bv ?_
       exact sn [] h
     ·refine Aj hs (wp rfl (qf BU rfl (ql Fp rfl (AB CI rfl (qm rfl (Ac ?_))))))
      refine A2 (L := AU N p0) h (fun v20 => mk [(1, oD (.ptr 1 0)), (68, pD (.sl (p0.fb.map Ap))), (69, iD ((p0.fb.length : Int))), (70, iD v20)] [(1, .box (Am p0))]) (fun v21 => mk [] []) (fun _ _ => rfl) (sm [] _ _ rfl rfl) (fun j20 n20 v20 h => ?_) (fun v21 s h hs => ?_)
      ·unfold AU at h
       refine wq rfl (Bw rfl (Ac (A7 ?_)))
       refine CB h (fun h => ?_) fun h => ?_
       ·refine Ao (A7 (Bf (wq rfl ?_)))
        refine CT h fun v23 a23 b23 h => qi CI C6 a23 (Ai b23) rfl (qK GN C6 rfl (qz GM rfl (qs C6 rfl (Ac (wq rfl (qL Ei Dh rfl (qL GN C6 rfl ?_)))))))
        refine De h fun v24 a24 h => AM [] (Ja N p0 v23 v24 a24) QK rfl (qa rfl (Ac (wq rfl (qm rfl (CV rfl (Ac ?_))))))
        refine CB h (fun h => ?_) fun h => ?_
        ·refine wq rfl (qm rfl (qe rfl ?_))
         obtain rfl := sj h
         refine Aj (sm [] [(2, iD v24)] [] rfl rfl) (Av ?_)
         exact ⟨⟨[_], tm, rfl⟩, tv⟩
        ·refine Ao (Ak Aw rfl (B5 rfl (qm rfl (Ac ?_))))
         exact sn [] h
       ·refine Bv ?_
        exact sn [] h
      ·refine Aj hs (wq rfl (qe rfl ?_))
       obtain rfl := sj h
       refine Aj (sm [] [(2, iD 0)] [] rfl rfl) (Av ?_)
       exact ⟨⟨[_], tm, rfl⟩, tv⟩
theorem Hk (N : Nat) (p0 : Ab) (r : Bool) (h : Db N p0 = some r) : Au Try.prog 53 [.e (.agg (Bn p0))] [] (bD r) := by
 unfold Db at h
 refine cw (n := 11) (rs := [.tmp 2]) Try.func53 fun w0 S0 => ?_
 refine wq rfl (qb rfl (qe rfl ?_))
 refine Bd h (fun v1 => mk [(2, bD v1)] []) (fun j1 h => ?_) (fun v1 h => ?_)
 ·refine Ak Aw rfl (qf D0 rfl (ql Dc rfl (Cy rfl (qm rfl ?_))))
  refine DD 6 h rfl (fun h => ?_) fun h => ?_
  ·refine qw 3 rfl (qp rfl (qe rfl ?_))
   exact sn [] h
  ·refine qf D0 rfl (ql Dc rfl (Cy rfl (qp rfl (qe rfl ?_))))
   exact sn [] h
 ·obtain rfl := sj h
  refine Aj (sm [] [(2, bD v1)] [] rfl rfl) (Av ?_)
  exact ⟨⟨[_], tm, rfl⟩, tv⟩
theorem Fl (N : Nat) (p0 : Af) (p1 : Int) (r : Int) (h : Cz N p0 p1 = some r) : Au Try.prog 54 [.e (.agg (AW p0)), iD p1] [] (pD (.val (.int .u8 r))) := by
 unfold Cz at h
 refine cw (n := 27) (rs := [.tmp 4]) Try.func54 fun w0 S0 => ?_
 refine wq rfl (qb rfl (qa rfl (Ac (wq rfl (qf D1 rfl (ql Bx rfl (qm rfl ?_)))))))
 refine CT h fun v1 a1 b1 h => qi Ar Dp a1 (Ai b1) rfl (qk Dc rfl ?_)
 refine Ff h fun c2 h => Iu rfl c2 (qe rfl ?_)
 refine Bd h (fun v3 => mk [(5, pD (.val (.int .u8 v3)))] []) (fun j3 h => ?_) (fun v3 h => ?_)
 ·refine wq rfl (qf C8 rfl (ql Bx rfl (qm rfl ?_)))
  refine CT h fun v4 a4 b4 h => qi Ar Dp a4 (Ai b4) rfl (qk Dc rfl (FV rfl (Ac ?_)))
  refine CB h (fun h => ?_) fun h => ?_
  ·refine Ak Aw rfl (qm rfl (qf C8 rfl (ql Bx rfl (qm rfl ?_))))
   refine CT h fun v6 a6 b6 h => qi Ar Dp a6 (Ai b6) rfl (qk Dc rfl ?_)
   refine Ff h fun c7 h => Iu rfl c7 (O3 rfl (qe rfl ?_))
   exact sn [] h
  ·refine Ao ?_
   exact sn [] h
 ·refine wq rfl (qm rfl (qe rfl ?_))
  obtain rfl := sj h
  refine Aj (sm [] [(4, pD (.val (.int .u8 v3)))] [] rfl rfl) (Av ?_)
  exact ⟨⟨[_], tm, rfl⟩, tv⟩
theorem HX (N : Nat) (p0 : Aa) (p1 : Af) (r : Int) (h : Dv N p0 p1 = some r) : Au Try.prog 30 [.e (.agg (Am p0)), .e (.agg (AW p1))] [] (iD r) := by
 unfold Dv at h
 refine cw (n := 135) (rs := [.tmp 4]) Try.func30 fun w0 S0 => ?_
 refine wq rfl (qb rfl (qb rfl (qa rfl (Ac (wp rfl (qL Ei Dh rfl ?_))))))
 refine De h fun v1 a1 h => AM [] (Gi N p0 v1 a1) QL rfl (qa rfl (Ac (wq rfl (qm rfl (CV rfl (Ac ?_))))))
 refine CB h (fun h => ?_) fun h => ?_
 ·refine wq rfl (qm rfl (qe rfl ?_))
  obtain rfl := sj h
  refine Aj (sm [] [(4, iD v1)] [] rfl rfl) (Av ?_)
  exact ⟨⟨[_], tm, rfl⟩, tv⟩
 ·refine Ao (A7 ?_)
  refine Bd h (fun v3 => mk [(2, oD (.ptr 2 0)), (3, oD (.ptr 3 0)), (41, bD v3)] [(2, .box (Am p0)), (3, .box (AW p1))]) (fun j3 h => ?_) (fun v3 h => ?_)
  ·refine Ak Aw rfl (qf D1 rfl (ql Bx rfl (AB Ar rfl (qf Bi rfl (ql Bx rfl (AB Ar rfl (CV rfl (qm rfl ?_))))))))
   refine DD 24 h rfl (fun h => ?_) fun h => ?_
   ·refine qw 7 rfl (qp rfl (qw 8 rfl (qp rfl (Ac ?_))))
    exact sn [] h
   ·refine qf C8 rfl (ql Bx rfl (AB Ar rfl (qf Bi rfl (ql Bx rfl (AB Ar rfl (CV rfl (qp rfl (qm rfl ?_))))))))
    refine DD 33 h rfl (fun h => ?_) fun h => ?_
    ·refine qw 7 rfl (qp rfl (Ac ?_))
     exact sn [] h
    ·refine qf EF rfl (ql KN rfl (AB EZ rfl (qf BU rfl (ql Fp rfl (AB CI rfl (CV rfl (qp rfl (Ac ?_))))))))
     exact sn [] h
  ·refine CB h (fun h => ?_) fun h => ?_
   ·refine wq rfl (qe rfl ?_)
    obtain rfl := sj h
    refine Aj (sm [] [(4, iD 6)] [] rfl rfl) (Av ?_)
    exact ⟨⟨[_], tm, rfl⟩, tv⟩
   ·refine Ao (wp rfl (qf Bi rfl (ql Bx rfl (AB Ar rfl (qm rfl (Ac ?_))))))
    refine A2 (L := B4 N p0 p1) h (fun v7 => mk [(2, oD (.ptr 2 0)), (3, oD (.ptr 3 0)), (43, pD (.sl (p0.fa.map An))), (44, iD ((p0.fa.length : Int))), (45, iD v7)] [(2, .box (Am p0)), (3, .box (AW p1))]) (fun v8 => mk [(2, oD (.ptr 2 0)), (3, oD (.ptr 3 0))] [(2, .box (Am p0)), (3, .box (AW p1))]) (fun _ _ => rfl) (sm [] _ _ rfl rfl) (fun j7 n7 v7 h => ?_) (fun v8 s h hs => ?_)
    ·unfold B4 at h
     refine wq rfl (Bw rfl (Ac (A7 ?_)))
     refine CB h (fun h => ?_) fun h => ?_
     ·refine Ao (A7 (Bf (wq rfl (qm rfl ?_))))
      refine CT h fun v10 a10 b10 h => qi Ar Dp a10 (Ai b10) rfl (qk Dc rfl (qa rfl (qa rfl (Ac (A7 ?_)))))
      refine Bd h (fun v11 => mk [(2, oD (.ptr 2 0)), (3, oD (.ptr 3 0)), (6, iD v7), (43, pD (.sl (p0.fa.map An))), (44, iD ((p0.fa.length : Int))), (45, iD v7), (81, bD v11)] [(2, .box (Am p0)), (3, .box (AW p1))]) (fun j11 h => ?_) (fun v11 h => ?_)
      ·refine Ak Aw rfl (qf D1 rfl (ql Bx rfl (qm rfl ?_)))
       refine CT h fun v12 a12 b12 h => qi Ar Dp a12 (Ai b12) rfl (qk Dc rfl (Bw rfl (qm rfl ?_)))
       refine DD 56 h rfl (fun h => ?_) fun h => ?_
       ·refine qw 7 rfl (qp rfl (qw 7 rfl (qp rfl (qw 8 rfl (qp rfl (Ac ?_))))))
        exact sn [] h
       ·refine qf D1 rfl (ql Bx rfl (qm rfl ?_))
        refine CT h fun v14 a14 b14 h => qi Ar Dp a14 (Ai b14) rfl (qk Dc rfl (qm rfl (FV rfl (qp rfl (qm rfl ?_)))))
        refine DD 65 h rfl (fun h => ?_) fun h => ?_
        ·refine qw 6 rfl (qp rfl (qw 8 rfl (qp rfl (Ac ?_))))
         exact sn [] h
        ·refine qf C8 rfl (ql Bx rfl (qm rfl ?_))
         refine CT h fun v16 a16 b16 h => qi Ar Dp a16 (Ai b16) rfl (qk Dc rfl (Bw rfl (qp rfl (qm rfl ?_))))
         refine DD 73 h rfl (fun h => ?_) fun h => ?_
         ·refine qw 7 rfl (qp rfl (Ac ?_))
          exact sn [] h
         ·refine qf C8 rfl (ql Bx rfl (qm rfl ?_))
          refine CT h fun v18 a18 b18 h => qi Ar Dp a18 (Ai b18) rfl (qk Dc rfl (qm rfl (FV rfl (qp rfl (Ac ?_)))))
          exact sn [] h
      ·refine CB h (fun h => ?_) fun h => ?_
       ·refine wq rfl (qe rfl ?_)
        obtain rfl := sj h
        refine Aj (sm [] [(4, iD 7)] [] rfl rfl) (Av ?_)
        exact ⟨⟨[_], tm, rfl⟩, tv⟩
       ·refine Ao (wq rfl (qf D1 rfl (ql Bx rfl (qm rfl ?_))))
        refine CT h fun v20 a20 b20 h => qi Ar Dp a20 (Ai b20) rfl (qk Dc rfl (qf C8 rfl (ql Bx rfl (qm rfl ?_))))
        refine CT h fun v21 a21 b21 h => qi Ar Dp a21 (Ai b21) rfl (qk Dc rfl (Cy rfl (BD (by kernel_rfl) ?_)))
        refine CB h (fun h => ?_) fun h => ?_
        ·refine wq rfl (qe rfl ?_)
         obtain rfl := sj h
         refine Aj (sm [] [(4, iD 1)] [] rfl rfl) (Av ?_)
         exact ⟨⟨[_], tm, rfl⟩, tv⟩
        ·refine Ao (Ak Aw rfl (B5 rfl (qm rfl (Ac ?_))))
         exact sn [] h
     ·refine Bv ?_
      exact sn [] h
    ·refine Aj hs (wp rfl (qf BU rfl (ql Fp rfl (AB CI rfl (qm rfl (Ac ?_))))))
     refine A2 (L := BP N p0 p1) h (fun v23 => mk [(2, oD (.ptr 2 0)), (3, oD (.ptr 3 0)), (95, pD (.sl (p0.fb.map Ap))), (96, iD ((p0.fb.length : Int))), (97, iD v23)] [(2, .box (Am p0)), (3, .box (AW p1))]) (fun v24 => mk [] []) (fun _ _ => rfl) (sm [] _ _ rfl rfl) (fun j23 n23 v23 h => ?_) (fun v24 s h hs => ?_)
     ·unfold BP at h
      refine wq rfl (Bw rfl (Ac (A7 ?_)))
      refine CB h (fun h => ?_) fun h => ?_
      ·refine Ao (A7 (Bf (wq rfl (qm rfl ?_))))
       refine CT h fun v26 a26 b26 h => qi CI C6 a26 (Ai b26) rfl (qK GN C6 rfl (qz GM rfl (qa rfl (qs C6 rfl (Ac (wq rfl (qa rfl (qe rfl ?_))))))))
       refine Bd h (fun v27 => mk [(2, oD (.ptr 2 0)), (3, oD (.ptr 3 0)), (8, iD v23), (10, pD (.val (.int .u8 v27.1))), (11, pD (.val (.int .u8 v27.2))), (95, pD (.sl (p0.fb.map Ap))), (96, iD ((p0.fb.length : Int))), (97, iD v23)] [(2, .box (Am p0)), (3, .box (AW p1))]) (fun j27 h => ?_) (fun v27 h => ?_)
       ·refine wq rfl (qL GN C6 rfl ?_)
        refine De h fun v28 a28 h => AM [] (Hk N v26 v28 a28) Qh rfl (Ac ?_)
        refine CB h (fun h => ?_) fun h => ?_
        ·refine Ak Aw rfl (qL Dm Cf rfl (qf CS rfl (ql Dc rfl ?_)))
         refine De h fun v30 a30 h => AM [] (Fl N p1 v26.fd v30 a30) Pp rfl (qf Bi rfl (ql Bx rfl (qf CS rfl (ql Dc rfl ?_))))
         refine CT h fun v31 a31 b31 h => qi Ar Dp a31 (Ai b31) rfl (qk Dc rfl ?_)
         refine Ff h fun c32 h => Iu rfl c32 (OC rfl (qa rfl (qa rfl (BD (by kernel_rfl) ?_))))
         exact sn [] h
        ·refine Ao ?_
         exact sn [] h
       ·refine Bd h (fun v33 => mk [(2, oD (.ptr 2 0)), (3, oD (.ptr 3 0)), (95, pD (.sl (p0.fb.map Ap))), (96, iD ((p0.fb.length : Int))), (97, iD v23), (133, bD v33)] [(2, .box (Am p0)), (3, .box (AW p1))]) (fun j33 h => ?_) (fun v33 h => ?_)
        ·refine Ak Aw rfl (qm rfl (qf EF rfl (ql KN rfl (qm rfl ?_))))
         refine CT h fun v34 a34 b34 h => qi EZ Jc a34 (Ai b34) rfl (qk NN rfl (Kf rfl (CV rfl (qm rfl ?_))))
         refine DD 124 h rfl (fun h => ?_) fun h => ?_
         ·refine qw 8 rfl (qp rfl (Ac ?_))
          exact sn [] h
         ·refine qf EF rfl (ql KN rfl (qm rfl ?_))
          refine CT h fun v36 a36 b36 h => qi EZ Jc a36 (Ai b36) rfl (qk NN rfl (qm rfl (Kf rfl (CV rfl (qp rfl (Ac ?_))))))
          exact sn [] h
        ·refine CB h (fun h => ?_) fun h => ?_
         ·refine wq rfl (qe rfl ?_)
          obtain rfl := sj h
          refine Aj (sm [] [(4, iD 1)] [] rfl rfl) (Av ?_)
          exact ⟨⟨[_], tm, rfl⟩, tv⟩
         ·refine Ao (Ak Aw rfl (B5 rfl (qm rfl (Ac ?_))))
          exact sn [] h
      ·refine Bv ?_
       exact sn [] h
     ·refine Aj hs (wq rfl (qe rfl ?_))
      obtain rfl := sj h
      refine Aj (sm [] [(4, iD 0)] [] rfl rfl) (Av ?_)
      exact ⟨⟨[_], tm, rfl⟩, tv⟩
theorem FW (N : Nat) (p0 : Aa) (p1 : Af) (r : (List Ae)) (h : Cu N p0 p1 = some r) : Au Try.prog 43 [.e (.agg (Am p0)), .e (.agg (AW p1))] [(3, r.map AD)] (oD (.own 0)) := by
 unfold Cu at h
 refine cw (n := 98) (rs := [.tmp 4]) Try.func43 fun w0 S0 => ?_
 refine wq rfl (qb rfl (qb rfl (qa rfl (Ac (wq rfl (qa rfl (Ac (wp rfl (qf BU rfl (ql Fp rfl (AB CI rfl (qm rfl (Ac ?_)))))))))))))
 refine A2 (L := BE N p0 p1) h (fun v1 => mk [(3, oD (.ptr 3 0)), (5, oD (.own 2001)), (15, pD (.sl (p0.fb.map Ap))), (16, iD ((p0.fb.length : Int))), (17, iD v1.2)] [(3, .box (AW p1)), (2001, .vec 3 (v1.1.map AD))]) (fun v2 => mk [(5, oD (.own 2002))] [(2002, .vec 3 (v2.map AD))]) (fun _ _ => rfl) ((Cw 5 2013 3 rfl rfl rfl).trans (sm [(2001, 2013)] _ _ rfl rfl)) (fun j1 n1 v1 h => ?_) (fun v2 s h hs => ?_)
 ·unfold BE at h
  refine wq rfl (Bw rfl (Ac (A7 ?_)))
  refine CB h (fun h => ?_) fun h => ?_
  ·refine Ao (A7 (Bf (wq rfl (qm rfl ?_))))
   refine CT h fun v4 a4 b4 h => qi CI C6 a4 (Ai b4) rfl (qK GN C6 rfl (qz GM rfl (qa rfl (qs C6 rfl (Ac (wq rfl (qL Dm Cf rfl (qf CS rfl (ql Dc rfl ?_)))))))))
   refine De h fun v5 a5 h => AM [] (Fl N p1 v4.fd v5 a5) Pp rfl (qL Dm Cf rfl (qf Fd rfl (ql Dc rfl ?_)))
   refine De h fun v6 a6 h => AM [] (Fl N p1 v4.fi v6 a6) Pp rfl (qa rfl (qa rfl (BD (by kernel_rfl) ?_)))
   refine Bd h (fun v7 => mk [(3, oD (.ptr 3 0)), (5, oD (.own 2003)), (6, iD v1.2), (7, oD (.ptr 7 0)), (8, pD (.val (.int .u8 v7))), (9, pD (.val (.int .u8 v6))), (15, pD (.sl (p0.fb.map Ap))), (16, iD ((p0.fb.length : Int))), (17, iD v1.2)] [(3, .box (AW p1)), (7, .box (Bn v4)), (2003, .vec 3 (v1.1.map AD))]) (fun j7 h => ?_) (fun v7 h => ?_)
   ·refine wq rfl (qL GN C6 rfl ?_)
    refine De h fun v8 a8 h => AM [] (Hk N v4 v8 a8) Qh rfl (Ac ?_)
    refine CB h (fun h => ?_) fun h => ?_
    ·refine Ak Aw rfl (qf EF rfl (ql KN rfl (qm rfl ?_)))
     refine CT h fun v10 a10 b10 h => qi EZ Jc a10 (Ai b10) rfl (qk NN rfl (qe rfl ?_))
     exact sn [(2003, 2001)] h
    ·refine Ao ?_
     exact sn [(2003, 2001)] h
   ·refine wq rfl (qf En rfl (ql FE rfl (AB CU rfl (qm rfl (Ac ?_)))))
    refine A2 (L := A9 N v1 v4 v6 v7) h (fun v11 => mk [(3, oD (.ptr 3 0)), (5, oD (.own 2004)), (6, iD v1.2), (7, oD (.ptr 7 0)), (8, pD (.val (.int .u8 v7))), (9, pD (.val (.int .u8 v6))), (15, pD (.sl (p0.fb.map Ap))), (16, iD ((p0.fb.length : Int))), (17, iD v1.2), (39, iD ((v4.ff.length : Int))), (40, iD v11.2)] [(3, .box (AW p1)), (7, .box (Bn v4)), (2004, .vec 3 (v11.1.map AD))]) (fun v12 => mk [(3, oD (.ptr 3 0)), (5, oD (.own 2005)), (15, pD (.sl (p0.fb.map Ap))), (16, iD ((p0.fb.length : Int))), (17, iD v1.2)] [(3, .box (AW p1)), (2005, .vec 3 (v12.map AD))]) (fun _ _ => rfl) (sm [(2004, 2003)] _ _ rfl rfl) (fun j11 n11 v11 h => ?_) (fun v12 s h hs => ?_)
    ·unfold A9 at h
     refine wq rfl (Bw rfl (Ac (A7 ?_)))
     refine CB h (fun h => ?_) fun h => ?_
     ·refine Ao ?_
      refine Bd h (fun v14 => mk [(3, oD (.ptr 3 0)), (5, oD (.own 2006)), (6, iD v1.2), (7, oD (.ptr 7 0)), (8, pD (.val (.int .u8 v7))), (9, pD (.val (.int .u8 v6))), (15, pD (.sl (p0.fb.map Ap))), (16, iD ((p0.fb.length : Int))), (17, iD v1.2), (39, iD ((v4.ff.length : Int))), (40, iD v11.2)] [(3, .box (AW p1)), (7, .box (Bn v4)), (2006, .vec 3 (v14.map AD))]) (fun j14 h => ?_) (fun v14 h => ?_)
      ·refine Bf (wq rfl (qm rfl (qa rfl (Ac (wp rfl (qw 2 rfl ?_))))))
       refine Ff h fun c15 h => Jh rfl c15 (Kk rfl (Cy rfl (Ac ?_)))
       refine CB h (fun h => ?_) fun h => ?_
       ·refine Bv ?_
        exact sn [(2006, 2004)] h
       ·refine Ao (wq rfl (qa rfl (Ac (wp rfl (qf En rfl (ql FE rfl (qm rfl ?_)))))))
        refine CT h fun v17 a17 b17 h => qi CU Hg a17 (Ai b17) rfl (qk J2 rfl (AB Dg rfl (qm rfl (Ac ?_))))
        refine A2 (L := AZ N v1 v4 v6 v11 v17) h (fun v18 => mk [(3, oD (.ptr 3 0)), (5, oD (.own 2007)), (6, iD v1.2), (7, oD (.ptr 7 0)), (8, pD (.val (.int .u8 v7))), (9, pD (.val (.int .u8 v6))), (10, iD v11.2), (11, bD v18.2.1), (15, pD (.sl (p0.fb.map Ap))), (16, iD ((p0.fb.length : Int))), (17, iD v1.2), (39, iD ((v4.ff.length : Int))), (40, iD v11.2), (52, pD (.sl (v17.map eB))), (53, iD ((v17.length : Int))), (54, iD v18.2.2)] [(3, .box (AW p1)), (7, .box (Bn v4)), (2007, .vec 3 (v18.1.map AD))]) (fun v19 => mk [(3, oD (.ptr 3 0)), (5, oD (.own 2008)), (6, iD v1.2), (7, oD (.ptr 7 0)), (8, pD (.val (.int .u8 v7))), (9, pD (.val (.int .u8 v6))), (10, iD v11.2), (11, bD v19.2), (15, pD (.sl (p0.fb.map Ap))), (16, iD ((p0.fb.length : Int))), (17, iD v1.2), (39, iD ((v4.ff.length : Int))), (40, iD v11.2)] [(3, .box (AW p1)), (7, .box (Bn v4)), (2008, .vec 3 (v19.1.map AD))]) (fun _ _ => rfl) (sm [(2007, 2004)] _ _ rfl rfl) (fun j18 n18 v18 h => ?_) (fun v19 s h hs => ?_)
        ·unfold AZ at h
         refine wq rfl (Bw rfl (Ac (A7 ?_)))
         refine CB h (fun h => ?_) fun h => ?_
         ·refine Ao ?_
          refine Bd h (fun v21 => mk [(3, oD (.ptr 3 0)), (5, oD (.own 2009)), (6, iD v1.2), (7, oD (.ptr 7 0)), (8, pD (.val (.int .u8 v7))), (9, pD (.val (.int .u8 v6))), (10, iD v11.2), (11, bD v21.2), (15, pD (.sl (p0.fb.map Ap))), (16, iD ((p0.fb.length : Int))), (17, iD v1.2), (39, iD ((v4.ff.length : Int))), (40, iD v11.2), (52, pD (.sl (v17.map eB))), (53, iD ((v17.length : Int))), (54, iD v18.2.2)] [(3, .box (AW p1)), (7, .box (Bn v4)), (2009, .vec 3 (v21.1.map AD))]) (fun j21 h => ?_) (fun v21 h => ?_)
          ·refine Bf (wq rfl (qm rfl ?_))
           refine CT h fun v22 a22 b22 h => qi Dg Jq a22 (Ai b22) rfl (qk Np rfl (qa rfl (qa rfl (Ac (wp rfl (qw 2 rfl ?_))))))
           refine Ff h fun c23 h => Jh rfl c23 (Kk rfl (Cy rfl (Ac ?_)))
           refine CB h (fun h => ?_) fun h => ?_
           ·refine Bv ?_
            exact sn [(2009, 2007)] h
           ·refine Ao ?_
            refine Bd h (fun v25 => mk [(3, oD (.ptr 3 0)), (5, oD (.own 2010)), (6, iD v1.2), (7, oD (.ptr 7 0)), (8, pD (.val (.int .u8 v7))), (9, pD (.val (.int .u8 v6))), (10, iD v11.2), (11, bD v25), (12, iD v18.2.2), (13, bD v22), (15, pD (.sl (p0.fb.map Ap))), (16, iD ((p0.fb.length : Int))), (17, iD v1.2), (39, iD ((v4.ff.length : Int))), (40, iD v11.2), (52, pD (.sl (v17.map eB))), (53, iD ((v17.length : Int))), (54, iD v18.2.2)] [(3, .box (AW p1)), (7, .box (Bn v4)), (2010, .vec 3 (v18.1.map AD))]) (fun j25 h => ?_) (fun v25 h => ?_)
            ·refine Ak Aw rfl (qw 2 rfl ?_)
             refine DD 65 h rfl (fun h => ?_) fun h => ?_
             ·refine qn rfl (qp rfl (qe rfl ?_))
              exact sn [(2010, 2007)] h
             ·refine qm rfl (qp rfl (qe rfl ?_))
              exact sn [(2010, 2007)] h
            ·refine Bd h (fun v27 => mk [(3, oD (.ptr 3 0)), (5, oD (.own 2011)), (6, iD v1.2), (7, oD (.ptr 7 0)), (8, pD (.val (.int .u8 v7))), (9, pD (.val (.int .u8 v6))), (10, iD v11.2), (11, bD v25), (12, iD v18.2.2), (15, pD (.sl (p0.fb.map Ap))), (16, iD ((p0.fb.length : Int))), (17, iD v1.2), (39, iD ((v4.ff.length : Int))), (40, iD v11.2), (52, pD (.sl (v17.map eB))), (53, iD ((v17.length : Int))), (54, iD v18.2.2), (74, bD v27)] [(3, .box (AW p1)), (7, .box (Bn v4)), (2011, .vec 3 (v18.1.map AD))]) (fun j27 h => ?_) (fun v27 h => ?_)
             ·refine Ak Aw rfl (qm rfl (CY rfl (qm rfl ?_)))
              refine DD 70 h rfl (fun h => ?_) fun h => ?_
              ·refine qf FK rfl (ql Np rfl (CY rfl (qp rfl (Ac ?_))))
               exact sn [(2011, 2010)] h
              ·refine qw 3 rfl (qp rfl (Ac ?_))
               exact sn [(2011, 2010)] h
             ·refine CB h (fun h => ?_) fun h => ?_
              ·refine Ak Aw rfl (qw 4 rfl (Ch Ho LU rfl (Df EN Fz Ho rfl ?_)))
               refine Ff h fun c30 h => DE (f := AD) EN EN Fz Oy Ho c30 rfl (qe rfl ?_)
               exact sn [(2009, 81)] h
              ·refine Ao ?_
               exact sn [(2009, 2011)] h
          ·refine Ak Aw rfl (B5 rfl (qm rfl (Ac ?_)))
           exact sn [(2007, 2009)] h
         ·refine Bv ?_
          exact sn [(2008, 2007)] h
        ·refine Aj hs ?_
         refine Bd h (fun v31 => mk [(3, oD (.ptr 3 0)), (5, oD (.own 2012)), (6, iD v1.2), (7, oD (.ptr 7 0)), (8, pD (.val (.int .u8 v7))), (9, pD (.val (.int .u8 v6))), (10, iD v11.2), (15, pD (.sl (p0.fb.map Ap))), (16, iD ((p0.fb.length : Int))), (17, iD v1.2), (39, iD ((v4.ff.length : Int))), (40, iD v11.2), (88, bD v31)] [(3, .box (AW p1)), (7, .box (Bn v4)), (2012, .vec 3 (v19.1.map AD))]) (fun j31 h => ?_) (fun v31 h => ?_)
         ·refine Ak Aw rfl (qf FK rfl (ql Np rfl (qm rfl ?_)))
          refine DD 85 h rfl (fun h => ?_) fun h => ?_
          ·refine qm rfl (CY rfl (qp rfl (Ac ?_)))
           exact sn [(2012, 2008)] h
          ·refine qw 2 rfl (qp rfl (Ac ?_))
           exact sn [(2012, 2008)] h
         ·refine CB h (fun h => ?_) fun h => ?_
          ·refine Ak Aw rfl (qw 3 rfl (Ch Ho LU rfl (Df EN Fz Ho rfl ?_)))
           refine Ff h fun c34 h => DE (f := AD) EN EN Fz Oy Ho c34 rfl (qe rfl ?_)
           exact sn [(2006, 94)] h
          ·refine Ao ?_
           exact sn [(2006, 2012)] h
      ·refine Ak Aw rfl (B5 rfl (qm rfl (Ac ?_)))
       exact sn [(2004, 2006)] h
     ·refine Bv ?_
      exact sn [(2005, 2004)] h
    ·refine Aj hs (Ak Aw rfl (B5 rfl (qm rfl (Ac ?_))))
     exact sn [(2001, 2005)] h
  ·refine Bv ?_
   exact sn [(2002, 2001)] h
 ·refine Aj hs (wq rfl (qm rfl (qe rfl ?_)))
  obtain rfl := sj h
  refine Aj (sm [(1000, 2002)] [(4, oD (.own 1000))] [(1000, .vec 3 (v2.map AD))] rfl rfl) (Av ?_)
  exact ⟨⟨[_], tm, rfl⟩, ⟨rfl, tv⟩⟩
theorem Ew (N : Nat) (p0 : Aa) (p1 : Af) (r : (List Ae) × Int) (h : Cc N p0 p1 = some r) : Au Try.prog 14 [.e (.agg (Am p0)), .e (.agg (AW p1))] [(3, r.1.map AD)] (.tup [.one (.own 0), .one (iC r.2)]) := by
 unfold Cc at h
 refine cw (n := 16) (rs := [.tmp 4, .tmp 5]) Try.func14 fun w0 S0 => ?_
 refine wq rfl (qb rfl (qb rfl (qa rfl (qa rfl (Ac (wp rfl (qL Ei Dh rfl (qL Dm Cf rfl ?_))))))))
 refine De h fun v1 a1 h => AM [] (HX N p0 p1 v1 a1) PN rfl (qa rfl (Ac (wq rfl (qm rfl (CV rfl (Ac ?_))))))
 refine CB h (fun h => ?_) fun h => ?_
 ·refine wq rfl (qm rfl (qa rfl (qe rfl ?_)))
  obtain rfl := sj h
  refine Aj ((Cw 4 2001 3 rfl rfl rfl).trans (sm [(1000, 2001)] [(4, oD (.own 1000)), (5, iD v1)] [(1000, .vec 3 ((([] : List Ae)).map AD))] rfl rfl)) (Av ?_)
  exact ⟨⟨[_, _], ⟨.tmp _ _ rfl, tm⟩, rfl⟩, ⟨rfl, tv⟩⟩
 ·refine Ao (wq rfl (qL Ei Dh rfl (qL Dm Cf rfl ?_)))
  refine De h fun v3 a3 h => AM [2002] (FW N p0 p1 v3 a3) PS rfl (qa rfl (qe rfl ?_))
  obtain rfl := sj h
  refine Aj (sm [(1000, 2002)] [(4, oD (.own 1000)), (5, iD 0)] [(1000, .vec 3 (v3.map AD))] rfl rfl) (Av ?_)
  exact ⟨⟨[_, _], ⟨.tmp _ _ rfl, tm⟩, rfl⟩, ⟨rfl, tv⟩⟩
theorem GR (N : Nat) (p0 : Aa) (p1 : Af) (r : Bool × Int) (h : C1 N p0 p1 = some r) : Au Try.prog 15 [.e (.agg (Am p0)), .e (.agg (AW p1))] [] (.tup [.one (.pure (.val (.bool r.1))), .one (iC r.2)]) := by
 unfold C1 at h
 refine cw (n := 22) (rs := [.tmp 4, .tmp 5]) Try.func15 fun w0 S0 => ?_
 refine wq rfl (qb rfl (qb rfl (qa rfl (qa rfl (Ac (wq rfl (qL Ei Dh rfl (qL Dm Cf rfl ?_))))))))
 refine De h fun v1 a1 h => AM [2001] (Ew N p0 p1 v1 a1) Pd rfl (qm rfl (qx rfl (qx rfl (qa rfl (qe rfl ?_)))))
 refine Bd h (fun v2 => mk [(4, bD v2), (5, iD v1.2)] []) (fun j2 h => ?_) (fun v2 h => ?_)
 ·refine Ak Aw rfl (qm rfl (Cy rfl (qm rfl ?_)))
  refine DD 16 h rfl (fun h => ?_) fun h => ?_
  ·refine qm rfl (FI EN rfl (Cy rfl (qp rfl (qm rfl (qa rfl (qe rfl ?_))))))
   exact sn [] h
  ·refine qw 3 rfl (qp rfl (qm rfl (qa rfl (qe rfl ?_))))
   exact sn [] h
 ·obtain rfl := sj h
  refine Aj (sm [] [(4, bD v2), (5, iD v1.2)] [] rfl rfl) (Av ?_)
  exact ⟨⟨[_, _], ⟨.tmp _ _ rfl, tm⟩, rfl⟩, tv⟩
theorem D5 (N : Nat) (p0 : List Int) (r : (List Int)) (h : Bt N p0 = some r) : Au Try.prog 45 [pD (.sl (p0.map An))] [(1, r.map An)] (oD (.own 0)) := by
 unfold Bt at h
 refine cw (n := 8) (rs := [.tmp 2]) Try.func45 fun w0 S0 => ?_
 refine wq rfl (qa rfl (Ac (wp rfl (qm rfl ?_))))
 refine Lr (.p rfl) rfl Ar ?_
 refine Ac ?_
 refine Ls rfl (fun c2 => ?_) ?_
 ·have c2 := List.map_eq_nil_iff.1 c2
  rw [c2] at h
  have h : (some (([] : List Int))) = some r := h
  refine wq rfl (qe rfl ?_)
  obtain rfl := sj h
  refine Aj ((Cw 2 2001 1 rfl rfl rfl).trans (sm [(1000, 2001)] [(2, oD (.own 1000))] [(1000, .vec 1 ((([] : List Int)).map An))] rfl rfl)) (Av ?_)
  exact ⟨⟨[_], tm, rfl⟩, ⟨rfl, tv⟩⟩
 ·refine Ao (wq rfl (Df Ar Dp G9 rfl (qm rfl ?_)))
  refine Ff h fun c1 h => HD (f := An) Ar Ar Dp Ie G9 (fun _ => rfl) c1 rfl (qe rfl ?_)
  obtain rfl := sj h
  refine Aj (sm [(1000, 7)] [(2, oD (.own 1000))] [(1000, .vec 1 (((([] : List Int)) ++ p0).map An))] rfl rfl) (Av ?_)
  exact ⟨⟨[_], tm, rfl⟩, ⟨rfl, tv⟩⟩
theorem Ej (N : Nat) (p0 : List Int) (r : (List Int)) (h : Bg N p0 = some r) : Au Try.prog 46 [pD (.sl (p0.map EC))] [(1, r.map EC)] (oD (.own 0)) := by
 unfold Bg at h
 refine cw (n := 8) (rs := [.tmp 2]) Try.func46 fun w0 S0 => ?_
 refine wq rfl (qa rfl (Ac (wp rfl (qm rfl ?_))))
 refine Lr (.p rfl) rfl EZ ?_
 refine Ac ?_
 refine Ls rfl (fun c2 => ?_) ?_
 ·have c2 := List.map_eq_nil_iff.1 c2
  rw [c2] at h
  have h : (some (([] : List Int))) = some r := h
  refine wq rfl (qe rfl ?_)
  obtain rfl := sj h
  refine Aj ((Cw 2 2001 1 rfl rfl rfl).trans (sm [(1000, 2001)] [(2, oD (.own 1000))] [(1000, .vec 1 ((([] : List Int)).map EC))] rfl rfl)) (Av ?_)
  exact ⟨⟨[_], tm, rfl⟩, ⟨rfl, tv⟩⟩
 ·refine Ao (wq rfl (Df EZ Jc L4 rfl (qm rfl ?_)))
  refine Ff h fun c1 h => HD (f := EC) EZ EZ Jc OI L4 (fun _ => rfl) c1 rfl (qe rfl ?_)
  obtain rfl := sj h
  refine Aj (sm [(1000, 7)] [(2, oD (.own 1000))] [(1000, .vec 1 (((([] : List Int)) ++ p0).map EC))] rfl rfl) (Av ?_)
  exact ⟨⟨[_], tm, rfl⟩, ⟨rfl, tv⟩⟩
theorem Kb (N : Nat) (p0 : Aa) (p1 : Af) (r : (List Af) × Int) (h : DI N p0 p1 = some r) : Au Try.prog 18 [.e (.agg (Am p0)), .e (.agg (AW p1))] [(3, r.1.map DM)] (.tup [.one (.own 0), .one (iC r.2)]) := by
 unfold DI at h
 refine cw (n := 75) (rs := [.tmp 4, .tmp 5]) Try.func18 fun w0 S0 => ?_
 refine wq rfl (qb rfl (qb rfl (qa rfl (qa rfl (Ac (wp rfl (qL Ei Dh rfl (qL Dm Cf rfl ?_))))))))
 refine De h fun v1 a1 h => AM [] (HX N p0 p1 v1 a1) PN rfl (qa rfl (Ac (wq rfl (qm rfl (CV rfl (Ac ?_))))))
 refine CB h (fun h => ?_) fun h => ?_
 ·refine wq rfl (qm rfl (qa rfl (qe rfl ?_)))
  obtain rfl := sj h
  refine Aj ((Cw 4 2001 3 rfl rfl rfl).trans (sm [(1000, 2001)] [(4, oD (.own 1000)), (5, iD v1)] [(1000, .vec 3 ((([] : List Af)).map DM))] rfl rfl)) (Av ?_)
  exact ⟨⟨[_, _], ⟨.tmp _ _ rfl, tm⟩, rfl⟩, ⟨rfl, tv⟩⟩
 ·refine Ao (wq rfl (qa rfl (Ac (wp rfl (qf C8 rfl (ql Bx rfl (AB Ar rfl (qm rfl (Ac ?_)))))))))
  refine A2 (L := BR N p1) h (fun v3 => mk [(3, oD (.ptr 3 0)), (7, oD (.own 2002)), (22, pD (.sl (p1.fc.map An))), (23, iD ((p1.fc.length : Int))), (24, iD v3.2)] [(3, .box (AW p1)), (2002, .vec 1 (v3.1.map An))]) (fun v4 => mk [(3, oD (.ptr 3 0)), (7, oD (.own 2003))] [(3, .box (AW p1)), (2003, .vec 1 (v4.map An))]) (fun _ _ => rfl) ((Cw 7 2005 1 rfl rfl rfl).trans (sm [(2002, 2005)] _ _ rfl rfl)) (fun j3 n3 v3 h => ?_) (fun v4 s h hs => ?_)
  ·unfold BR at h
   refine wq rfl (Bw rfl (Ac (A7 ?_)))
   refine CB h (fun h => ?_) fun h => ?_
   ·refine Ao ?_
    refine Bd h (fun v6 => mk [(3, oD (.ptr 3 0)), (7, oD (.own 2004)), (22, pD (.sl (p1.fc.map An))), (23, iD ((p1.fc.length : Int))), (24, iD v3.2)] [(3, .box (AW p1)), (2004, .vec 1 (v6.map An))]) (fun j6 h => ?_) (fun v6 h => ?_)
    ·refine Bf (wq rfl (qm rfl ?_))
     refine CT h fun v7 a7 b7 h => qi Ar Dp a7 (Ai b7) rfl (qk Dc rfl (qa rfl (qa rfl (Ac (wq rfl (qm rfl (FV rfl (Ac ?_))))))))
     refine CB h (fun h => ?_) fun h => ?_
     ·refine Ak Aw rfl (qw 2 rfl (Df Ar Dp G9 rfl ?_))
      refine Ff h fun c9 h => DE (f := An) Ar Ar Dp Ie G9 c9 rfl (qe rfl ?_)
      exact sn [(2004, 34)] h
     ·refine Ao ?_
      exact sn [(2004, 2002)] h
    ·refine Ak Aw rfl (B5 rfl (qm rfl (Ac ?_)))
     exact sn [(2002, 2004)] h
   ·refine Bv ?_
    exact sn [(2003, 2002)] h
  ·refine Aj hs (wq rfl (qa rfl (Ac (wp rfl (qm rfl (FI Ar rfl ?_))))))
   refine Ff h fun c10 h => Iu rfl c10 (qm rfl (Ac ?_))
   refine A2 (L := Bq N p1 v4) h (fun v11 => mk [(3, oD (.ptr 3 0)), (7, oD (.own 2006)), (10, oD (.own 2007)), (38, iD ((C5 .i64 1 ((v4.length : Int))))), (39, iD v11.2)] [(3, .box (AW p1)), (2006, .vec 1 (v4.map An)), (2007, .vec 3 (v11.1.map DM))]) (fun v12 => mk [(10, oD (.own 2008))] [(2008, .vec 3 (v12.map DM))]) (fun _ _ => rfl) ((Cw 10 2027 3 rfl rfl rfl).trans (sm [(2006, 2003), (2007, 2027)] _ _ rfl rfl)) (fun j11 n11 v11 h => ?_) (fun v12 s h hs => ?_)
   ·unfold Bq at h
    refine wq rfl (Bw rfl (Ac (A7 ?_)))
    refine CB h (fun h => ?_) fun h => ?_
    ·refine Ao (A7 (Bf (wq rfl (qm rfl (qa rfl (Ac (wq rfl (qf D1 rfl (ql Bx rfl ?_)))))))))
     refine De h fun v14 a14 h => AM [2009] (D5 N p1.fh v14 a14) P1 rfl (qf C8 rfl (ql Bx rfl ?_))
     refine De h fun v15 a15 h => AM [2010] (D5 N p1.fc v15 a15) P1 rfl (qf EF rfl (ql KN rfl ?_))
     refine De h fun v16 a16 h => AM [2011] (Ej N p1.fg v16 a16) Qr rfl (Ch Fr M1 rfl (qz Fr rfl (qs Cf rfl (BD (by kernel_rfl) (wp rfl (qm rfl (FI Ar rfl (qm rfl (Ac ?_)))))))))
     refine A2 (L := Bo N v4 v11) h (fun v17 => mk [(3, oD (.ptr 3 0)), (7, oD (.own 2015)), (10, oD (.own 2016)), (11, iD v11.2), (12, oD (.ptr 12 0)), (38, iD ((C5 .i64 1 ((v4.length : Int))))), (39, iD v11.2), (52, oD (.own 2015)), (53, iD ((v4.length : Int))), (54, iD v17.2)] [(3, .box (AW p1)), (12, .box [.own 2012, .own 2013, .own 2014]), (2012, .vec 1 (v14.map An)), (2013, .vec 1 (v17.1.map An)), (2014, .vec 1 (v16.map EC)), (2015, .vec 1 (v4.map An)), (2016, .vec 3 (v11.1.map DM))]) (fun v18 => mk [(3, oD (.ptr 3 0)), (7, oD (.own 2020)), (10, oD (.own 2021)), (12, oD (.ptr 12 0)), (38, iD ((C5 .i64 1 ((v4.length : Int))))), (39, iD v11.2)] [(3, .box (AW p1)), (12, .box [.own 2017, .own 2018, .own 2019]), (2017, .vec 1 (v14.map An)), (2018, .vec 1 (v18.map An)), (2019, .vec 1 (v16.map EC)), (2020, .vec 1 (v4.map An)), (2021, .vec 3 (v11.1.map DM))]) (fun _ _ => rfl) (sm [(2012, 2009), (2013, 2010), (2014, 2011), (2015, 2006), (2016, 2007)] _ _ rfl rfl) (fun j17 n17 v17 h => ?_) (fun v18 s h hs => ?_)
     ·unfold Bo at h
      refine wq rfl (Bw rfl (Ac (A7 ?_)))
      refine CB h (fun h => ?_) fun h => ?_
      ·refine Ao ?_
       refine Bd h (fun v20 => mk [(3, oD (.ptr 3 0)), (7, oD (.own 2025)), (10, oD (.own 2026)), (11, iD v11.2), (12, oD (.ptr 12 0)), (38, iD ((C5 .i64 1 ((v4.length : Int))))), (39, iD v11.2), (52, oD (.own 2025)), (53, iD ((v4.length : Int))), (54, iD v17.2)] [(3, .box (AW p1)), (12, .box [.own 2022, .own 2023, .own 2024]), (2022, .vec 1 (v14.map An)), (2023, .vec 1 (v20.map An)), (2024, .vec 1 (v16.map EC)), (2025, .vec 1 (v4.map An)), (2026, .vec 3 (v11.1.map DM))]) (fun j20 h => ?_) (fun v20 h => ?_)
       ·refine Bf (wq rfl (qm rfl ?_))
        refine CT h fun v21 a21 b21 h => qI Ar Dp a21 (Ai b21) rfl (qj Dc (Ai b21) rfl (qa rfl (qa rfl (Ac (wq rfl (qw 2 rfl ?_))))))
        refine Ff h fun c22 h => Jh rfl c22 (Kk rfl (Cy rfl (Ac ?_)))
        refine CB h (fun h => ?_) fun h => ?_
        ·refine Ak Aw rfl (qf C8 rfl (ql Bx rfl (qm rfl ?_)))
         refine CT h fun v24 a24 b24 h => qI Ar Dp a24 (Ai b24) rfl ?_
         refine IW rfl rfl rfl rfl (Ai b24) rfl Dp rfl (Jd rfl) (EO An v17.1 _ ((-1))) ?_
         refine Ac ?_
         exact sn [(2022, 2012), (2023, 2013), (2024, 2014), (2025, 2015), (2026, 2016)] h
        ·refine Ao ?_
         exact sn [(2022, 2012), (2023, 2013), (2024, 2014), (2025, 2015), (2026, 2016)] h
       ·refine Ak Aw rfl (B5 rfl (qm rfl (Ac ?_)))
        exact sn [(2012, 2022), (2013, 2023), (2014, 2024), (2015, 2025), (2016, 2026)] h
      ·refine Bv ?_
       exact sn [(2017, 2012), (2018, 2013), (2019, 2014), (2020, 2015), (2021, 2016)] h
     ·refine Aj hs (Ak Aw rfl (qm rfl (qL Dm Cf rfl (DV (BB 2017 _ _ rfl rfl) (DV (BB 2018 _ _ rfl rfl) (DV (BB 2019 _ _ rfl rfl) (Df HN Cf Fr rfl ?_)))))))
      refine Ff h fun c25 h => DE (f := DM) HN HN Cf PV Fr c25 rfl (qa rfl (Ac (Ak Aw rfl (B5 rfl (qm rfl (Ac ?_))))))
      exact sn [(2006, 2020), (2007, 72)] h
    ·refine Bv ?_
     exact sn [(2008, 2007)] h
   ·refine Aj hs (wq rfl (qm rfl (qa rfl (qe rfl ?_))))
    obtain rfl := sj h
    refine Aj (sm [(1000, 2008)] [(4, oD (.own 1000)), (5, iD 0)] [(1000, .vec 3 (v12.map DM))] rfl rfl) (Av ?_)
    exact ⟨⟨[_, _], ⟨.tmp _ _ rfl, tm⟩, rfl⟩, ⟨rfl, tv⟩⟩
theorem HT (N : Nat) (p0 : Aa) (p1 : Af) (r : Af × Ae × Int) (h : DA N p0 p1 = some r) : Au Try.prog 20 [.e (.agg (Am p0)), .e (.agg (AW p1))] [] (.tup [.agg (AW r.1), .agg (G7 r.2.1), .one (iC r.2.2)]) := by
 unfold DA at h
 refine cw (n := 42) (rs := [.cell 4 37, .cell 5 52, .tmp 6]) Try.func20 fun w0 S0 => ?_
 refine wq rfl (qb rfl (qb rfl (qz Fr rfl (qz Ho rfl (qa rfl (Ac (wq rfl (qL Ei Dh rfl (qL Dm Cf rfl ?_)))))))))
 refine De h fun v1 a1 h => AM [2001] (Kb N p0 p1 v1 a1) QS rfl (qm rfl (qx rfl (qx rfl (qa rfl (qa rfl (Ac (wp rfl (qm rfl (CV rfl (Ac ?_))))))))))
 refine CB h (fun h => ?_) fun h => ?_
 ·refine wq rfl (Ch Fr M1 rfl (Ch Ho LU rfl (qm rfl (qs Cf rfl (qs Fz rfl (qe rfl ?_))))))
  obtain rfl := sj h
  refine Aj ((Jv 4 _ rfl).trans (sm [] [(4, oD (.ptr 4 0)), (5, oD (.ptr 5 0)), (6, iD v1.2)] [(4, .box [sC ((([] : List Int)).map An), sC ((([] : List Int)).map An), sC ((([] : List Int)).map EC)]), (5, .box [iC 0, iC 0, iC 0])] rfl rfl)) (Av ?_)
  exact ⟨⟨[_, _, _], ⟨.cellN _ _ _ _ _ _ _ rfl rfl Dm Cf rfl rfl (Lx rfl), ⟨.cellN _ _ _ _ _ _ _ rfl rfl Ll Fz rfl rfl (Lx rfl), tm⟩⟩, rfl⟩, tv⟩
 ·refine Ao (wp rfl (qm rfl (FI HN rfl (qm rfl (Ac ?_)))))
  refine A2 (L := Cl N p0 v1) h (fun v3 => mk [(2, oD (.ptr 2 0)), (4, oD (.ptr 4 0)), (5, oD (.ptr 5 0)), (23, oD (.own 2002)), (24, iD ((v1.1.length : Int))), (25, iD v3)] [(2, .box (Am p0)), (4, .box [.pure (.nil0), .pure (.nil0), .pure (.nil0)]), (5, .box [iC 0, iC 0, iC 0]), (2002, .vec 3 (v1.1.map DM))]) (fun v4 => mk [(4, oD (.ptr 4 0)), (5, oD (.ptr 5 0))] [(4, .box [.pure (.nil0), .pure (.nil0), .pure (.nil0)]), (5, .box [iC 0, iC 0, iC 0])]) (fun _ _ => rfl) (sm [(2002, 2001)] _ _ rfl rfl) (fun j3 n3 v3 h => ?_) (fun v4 s h hs => ?_)
  ·unfold Cl at h
   refine wq rfl (Bw rfl (Ac (A7 ?_)))
   refine CB h (fun h => ?_) fun h => ?_
   ·refine Ao (A7 (Bf (wq rfl ?_)))
    refine CT h fun v6 a6 b6 h => qI HN Cf a6 (Ai b6) rfl (qJ Dm Cf (Ai b6) rfl (qz Fr rfl (qs Cf rfl (Ac (wq rfl (qL Ei Dh rfl (qL Dm Cf rfl ?_)))))))
    refine De h fun v7 a7 h => AM [2003] (FW N p0 v6 v7 a7) PS rfl (qa rfl (Ac (wq rfl (qm rfl (FI EN rfl (EB rfl (Ac ?_)))))))
    refine CB h (fun h => ?_) fun h => ?_
    ·refine wq rfl (qL Dm Cf rfl (qm rfl ?_))
     refine CT h fun v9 a9 b9 h => qI EN Fz a9 (Ai b9) rfl (qJ Ll Fz (Ai b9) rfl (qs Cf rfl (qs Fz rfl (qa rfl (BD (by kernel_rfl) ?_)))))
     obtain rfl := sj h
     refine Aj (sm [] [(4, oD (.ptr 4 0)), (5, oD (.ptr 5 0)), (6, iD 0)] [(4, .box (AW v6)), (5, .box (G7 v9))] rfl rfl) (Av ?_)
     exact ⟨⟨[_, _, _], ⟨.cellN _ _ _ _ _ _ _ rfl rfl Dm Cf rfl rfl (Lx rfl), ⟨.cellN _ _ _ _ _ _ _ rfl rfl Ll Fz rfl rfl (Lx rfl), tm⟩⟩, rfl⟩, tv⟩
    ·refine Ao (Ak Aw rfl (B5 rfl (qm rfl (Ac ?_))))
     exact sn [] h
   ·refine Bv ?_
    exact sn [] h
  ·refine Aj hs (wq rfl (Ch Fr M1 rfl (Ch Ho LU rfl (qs Cf rfl (qs Fz rfl (qe rfl ?_))))))
   obtain rfl := sj h
   refine Aj ((Jv 4 _ rfl).trans (sm [] [(4, oD (.ptr 4 0)), (5, oD (.ptr 5 0)), (6, iD 15)] [(4, .box [sC ((([] : List Int)).map An), sC ((([] : List Int)).map An), sC ((([] : List Int)).map EC)]), (5, .box [iC 0, iC 0, iC 0])] rfl rfl)) (Av ?_)
   exact ⟨⟨[_, _, _], ⟨.cellN _ _ _ _ _ _ _ rfl rfl Dm Cf rfl rfl (Lx rfl), ⟨.cellN _ _ _ _ _ _ _ rfl rfl Ll Fz rfl rfl (Lx rfl), tm⟩⟩, rfl⟩, tv⟩
theorem FP (N : Nat) (p0 : Aa) (p1 : Af) (r : Bool × Int) (h : Cs N p0 p1 = some r) : Au Try.prog 19 [.e (.agg (Am p0)), .e (.agg (AW p1))] [] (.tup [.one (.pure (.val (.bool r.1))), .one (iC r.2)]) := by
 unfold Cs at h
 refine cw (n := 22) (rs := [.tmp 4, .tmp 5]) Try.func19 fun w0 S0 => ?_
 refine wq rfl (qb rfl (qb rfl (qa rfl (qa rfl (Ac (wq rfl (qL Ei Dh rfl (qL Dm Cf rfl ?_))))))))
 refine De h fun v1 a1 h => AM [] (HT N p0 p1 v1 a1) Qe rfl (qm rfl (qx rfl (qx rfl (qx rfl (qz Fr rfl (qz Ho rfl (qs Cf rfl (qs Fz rfl (qa rfl (Ac (wq rfl (qm rfl (Ac (Bf (wq rfl (Cy rfl (qe rfl ?_)))))))))))))))))
 refine CB h (fun h => ?_) fun h => ?_
 ·refine wq rfl (qa rfl (qe rfl ?_))
  obtain rfl := sj h
  refine Aj (sm [] [(4, bD false), (5, iD 0)] [] rfl rfl) (Av ?_)
  exact ⟨⟨[_, _], ⟨.tmp _ _ rfl, tm⟩, rfl⟩, tv⟩
 ·refine wq rfl (Cy rfl (qe rfl ?_))
  refine CB h (fun h => ?_) fun h => ?_
  ·refine wq rfl (qa rfl (qe rfl ?_))
   obtain rfl := sj h
   refine Aj (sm [] [(4, bD true), (5, iD 0)] [] rfl rfl) (Av ?_)
   exact ⟨⟨[_, _], ⟨.tmp _ _ rfl, tm⟩, rfl⟩, tv⟩
  ·refine wq rfl (qm rfl (qa rfl (qe rfl ?_)))
   obtain rfl := sj h
   refine Aj (sm [] [(4, bD false), (5, iD v1.2.2)] [] rfl rfl) (Av ?_)
   exact ⟨⟨[_, _], ⟨.tmp _ _ rfl, tm⟩, rfl⟩, tv⟩
theorem DH (N : Nat) (p0 : List Ae) (p1 : List Ae) (r : Bool) (h : B7 N p0 p1 = some r) : Au Try.prog 17 [pD (.sl (p0.map AD)), pD (.sl (p1.map AD))] [] (bD r) := by
 unfold B7 at h
 refine cw (n := 26) (rs := [.tmp 4]) Try.func17 fun w0 S0 => ?_
 refine wq rfl (qa rfl (Ac (wp rfl (qm rfl (AB EN rfl (qm rfl (AB EN rfl (CV rfl (Ac ?_)))))))))
 refine CB h (fun h => ?_) fun h => ?_
 ·refine wq rfl (qe rfl ?_)
  obtain rfl := sj h
  refine Aj (sm [] [(4, bD false)] [] rfl rfl) (Av ?_)
  exact ⟨⟨[_], tm, rfl⟩, tv⟩
 ·refine Ao (wp rfl (qe rfl ?_))
  refine A2 (L := BN N p0 p1) h (fun v2 => mk [(0, pD (.sl (p0.map AD))), (1, pD (.sl (p1.map AD))), (5, iD v2)] []) (fun v3 => mk [] []) (fun _ _ => rfl) (sm [] _ _ rfl rfl) (fun j2 n2 v2 h => ?_) (fun v3 s h hs => ?_)
  ·unfold BN at h
   refine wp rfl (qw 2 rfl (AB EN rfl (Bw rfl (Ac ?_))))
   refine CB h (fun h => ?_) fun h => ?_
   ·refine Ao (A7 (Bf (wq rfl (qw 2 rfl ?_))))
    refine CT h fun v5 a5 b5 h => qi EN Fz a5 (Ai b5) rfl (qK Ll Fz rfl (qw 2 rfl ?_))
    refine CT h fun v6 a6 b6 h => qi EN Fz a6 (Ai b6) rfl (qK Ll Fz rfl ?_)
    refine P3 [.int .i64 v5.fq, .int .i64 v5.fr, .int .i64 v5.ft] [.int .i64 v6.fq, .int .i64 v6.fr, .int .i64 v6.ft] (.p rfl) rfl rfl OH rfl ?_
    refine BD (by kernel_rfl) ?_
    refine CB h (fun h => ?_) fun h => ?_
    ·refine wq rfl (qe rfl ?_)
     obtain rfl := sj h
     refine Aj (sm [] [(4, bD false)] [] rfl rfl) (Av ?_)
     exact ⟨⟨[_], tm, rfl⟩, tv⟩
    ·refine Ao (Ak Aw rfl (qm rfl (B5 rfl (qe rfl ?_))))
     exact sn [] h
   ·refine Bv ?_
    exact sn [] h
  ·refine Aj hs (wq rfl (qe rfl ?_))
   obtain rfl := sj h
   refine Aj (sm [] [(4, bD true)] [] rfl rfl) (Av ?_)
   exact ⟨⟨[_], tm, rfl⟩, tv⟩
theorem DN (N : Nat) (p0 : List Int) (p1 : List Int) (r : Int) (h : Cn N p0 p1 = some r) : Au Try.prog 61 [pD (.sl (p0.map An)), pD (.sl (p1.map An))] [] (iD r) := by
 unfold Cn at h
 refine cw (n := 46) (rs := [.tmp 4]) Try.func61 fun w0 S0 => ?_
 refine wq rfl (qa rfl (Ac (wp rfl (qe rfl ?_))))
 refine A2 (L := Cr N p0 p1) h (fun v1 => mk [(0, pD (.sl (p0.map An))), (1, pD (.sl (p1.map An))), (5, iD v1)] []) (fun v2 => mk [(0, pD (.sl (p0.map An))), (1, pD (.sl (p1.map An)))] []) (fun _ _ => rfl) (sm [] _ _ rfl rfl) (fun j1 n1 v1 h => ?_) (fun v2 s h hs => ?_)
 ·unfold Cr at h
  refine A7 ?_
  refine Bd h (fun v3 => mk [(0, pD (.sl (p0.map An))), (1, pD (.sl (p1.map An))), (5, iD v1), (15, bD v3)] []) (fun j3 h => ?_) (fun v3 h => ?_)
  ·refine Ak Aw rfl (qw 2 rfl (AB Ar rfl (Bw rfl (qm rfl ?_))))
   refine DD 10 h rfl (fun h => ?_) fun h => ?_
   ·refine qw 2 rfl (AB Ar rfl (Bw rfl (qp rfl (Ac ?_))))
    exact sn [] h
   ·refine qw 4 rfl (qp rfl (Ac ?_))
    exact sn [] h
  ·refine CB h (fun h => ?_) fun h => ?_
   ·refine Ao (A7 (Bf (wp rfl (qw 2 rfl ?_))))
    refine CT h fun v6 a6 b6 h => qi Ar Dp a6 (Ai b6) rfl (qk Dc rfl (qw 2 rfl ?_))
    refine CT h fun v7 a7 b7 h => qi Ar Dp a7 (Ai b7) rfl (qk Dc rfl (Bw rfl (BD (by kernel_rfl) ?_)))
    refine CB h (fun h => ?_) fun h => ?_
    ·refine wq rfl (qe rfl ?_)
     obtain rfl := sj h
     refine Aj (sm [] [(4, iD ((-1)))] [] rfl rfl) (Av ?_)
     exact ⟨⟨[_], tm, rfl⟩, tv⟩
    ·refine Ao (wq rfl (qw 2 rfl ?_))
     refine CT h fun v9 a9 b9 h => qi Ar Dp a9 (Ai b9) rfl (qk Dc rfl (qw 2 rfl ?_))
     refine CT h fun v10 a10 b10 h => qi Ar Dp a10 (Ai b10) rfl (qk Dc rfl (EB rfl (BD (by kernel_rfl) ?_)))
     refine CB h (fun h => ?_) fun h => ?_
     ·refine wq rfl (qe rfl ?_)
      obtain rfl := sj h
      refine Aj (sm [] [(4, iD 1)] [] rfl rfl) (Av ?_)
      exact ⟨⟨[_], tm, rfl⟩, tv⟩
     ·refine Ao (Ak Aw rfl (qm rfl (B5 rfl (qe rfl ?_))))
      exact sn [] h
   ·refine Bv ?_
    exact sn [] h
 ·refine Aj hs (wp rfl (qm rfl (AB Ar rfl (qm rfl (AB Ar rfl (Bw rfl (Ac ?_)))))))
  refine CB h (fun h => ?_) fun h => ?_
  ·refine wq rfl (qe rfl ?_)
   obtain rfl := sj h
   refine Aj (sm [] [(4, iD ((-1)))] [] rfl rfl) (Av ?_)
   exact ⟨⟨[_], tm, rfl⟩, tv⟩
  ·refine Ao (wp rfl (qm rfl (AB Ar rfl (qm rfl (AB Ar rfl (EB rfl (Ac ?_)))))))
   refine CB h (fun h => ?_) fun h => ?_
   ·refine wq rfl (qe rfl ?_)
    obtain rfl := sj h
    refine Aj (sm [] [(4, iD 1)] [] rfl rfl) (Av ?_)
    exact ⟨⟨[_], tm, rfl⟩, tv⟩
   ·refine Ao (wq rfl (qe rfl ?_))
    obtain rfl := sj h
    refine Aj (sm [] [(4, iD 0)] [] rfl rfl) (Av ?_)
    exact ⟨⟨[_], tm, rfl⟩, tv⟩
theorem Ef (N : Nat) (p0 : List Int) (r : (List Int)) (h : Cp N p0 = some r) : Au Try.prog 62 [pD (.sl (p0.map EC))] [(1, r.map An)] (oD (.own 0)) := by
 unfold Cp at h
 refine cw (n := 20) (rs := [.tmp 2]) Try.func62 fun w0 S0 => ?_
 refine wq rfl (qa rfl (Ac (wq rfl (qa rfl (Ac (wp rfl (qe rfl ?_)))))))
 refine A2 (L := B8 N p0) h (fun v1 => mk [(0, pD (.sl (p0.map EC))), (3, oD (.own 2001)), (4, iD v1.2)] [(2001, .vec 1 (v1.1.map An))]) (fun v2 => mk [(3, oD (.own 2002))] [(2002, .vec 1 (v2.map An))]) (fun _ _ => rfl) ((Cw 3 2003 1 rfl rfl rfl).trans (sm [(2001, 2003)] _ _ rfl rfl)) (fun j1 n1 v1 h => ?_) (fun v2 s h hs => ?_)
 ·unfold B8 at h
  refine wp rfl (qw 2 rfl (AB EZ rfl (Bw rfl (Ac ?_))))
  refine CB h (fun h => ?_) fun h => ?_
  ·refine Ao (A7 (Bf (Ak Aw rfl (qw 3 rfl ?_))))
   refine CT h fun v4 a4 b4 h => qi EZ Jc a4 (Ai b4) rfl (qk NN rfl (Kn QO O7 rfl (Df Ar Dp G9 rfl ?_)))
   refine Ff h fun c5 h => DE (f := An) Ar Ar Dp Ie G9 c5 rfl (qa rfl (Ac (Ak Aw rfl (qm rfl (B5 rfl (qe rfl ?_))))))
   exact sn [(2001, 18)] h
  ·refine Bv ?_
   exact sn [(2002, 2001)] h
 ·refine Aj hs (wq rfl (qm rfl (qe rfl ?_)))
  obtain rfl := sj h
  refine Aj (sm [(1000, 2002)] [(2, oD (.own 1000))] [(1000, .vec 1 (v2.map An))] rfl rfl) (Av ?_)
  exact ⟨⟨[_], tm, rfl⟩, ⟨rfl, tv⟩⟩
theorem FY (N : Nat) (p0 : Af) (p1 : Af) (r : Int) (h : C9 N p0 p1 = some r) : Au Try.prog 34 [.e (.agg (AW p0)), .e (.agg (AW p1))] [] (iD r) := by
 unfold C9 at h
 refine cw (n := 30) (rs := [.tmp 4]) Try.func34 fun w0 S0 => ?_
 refine wq rfl (qb rfl (qb rfl (qa rfl (Ac (wp rfl (qf D1 rfl (ql Bx rfl (qf D1 rfl (ql Bx rfl ?_)))))))))
 refine De h fun v1 a1 h => AM [] (DN N p0.fh p1.fh v1 a1) Pg rfl (qa rfl (Ac (wq rfl (qm rfl (CV rfl (Ac ?_))))))
 refine CB h (fun h => ?_) fun h => ?_
 ·refine wq rfl (qm rfl (qe rfl ?_))
  obtain rfl := sj h
  refine Aj (sm [] [(4, iD v1)] [] rfl rfl) (Av ?_)
  exact ⟨⟨[_], tm, rfl⟩, tv⟩
 ·refine Ao (wp rfl (qf C8 rfl (ql Bx rfl (qf C8 rfl (ql Bx rfl ?_)))))
  refine De h fun v3 a3 h => AM [] (DN N p0.fc p1.fc v3 a3) Pg rfl (qa rfl (Ac (wq rfl (qm rfl (CV rfl (Ac ?_))))))
  refine CB h (fun h => ?_) fun h => ?_
  ·refine wq rfl (qm rfl (qe rfl ?_))
   obtain rfl := sj h
   refine Aj (sm [] [(4, iD v3)] [] rfl rfl) (Av ?_)
   exact ⟨⟨[_], tm, rfl⟩, tv⟩
  ·refine Ao (wq rfl (qf EF rfl (ql KN rfl ?_)))
   refine De h fun v5 a5 h => AM [2001] (Ef N p0.fg v5 a5) PQ rfl (qf EF rfl (ql KN rfl ?_))
   refine De h fun v6 a6 h => AM [2002] (Ef N p1.fg v6 a6) PQ rfl ?_
   refine De h fun v7 a7 h => C2 [] [2001, 2002] (DN N v5 v6 v7 a7) Pg Cb rfl (qa rfl (BD (by kernel_rfl) ?_))
   obtain rfl := sj h
   refine Aj (sm [] [(4, iD v7)] [] rfl rfl) (Av ?_)
   exact ⟨⟨[_], tm, rfl⟩, tv⟩
theorem Gy (N : Nat) (p0 : Af) (p1 : Af) (r : Bool) (h : Dq N p0 p1 = some r) : Au Try.prog 25 [.e (.agg (AW p0)), .e (.agg (AW p1))] [] (bD r) := by
 unfold Dq at h
 refine cw (n := 9) (rs := [.tmp 4]) Try.func25 fun w0 S0 => ?_
 refine wq rfl (qb rfl (qb rfl (qa rfl (Ac (wq rfl (qL Dm Cf rfl (qL Dm Cf rfl ?_)))))))
 refine De h fun v1 a1 h => AM [] (FY N p0 p1 v1 a1) Qu rfl (Cy rfl (qe rfl ?_))
 obtain rfl := sj h
 refine Aj (sm [] [(4, bD ((v1 == 0)))] [] rfl rfl) (Av ?_)
 exact ⟨⟨[_], tm, rfl⟩, tv⟩
theorem EA (N : Nat) (r : Bool) (h : Cg N = some r) : Au Try.prog 12 [] [] (bD r) := by
 unfold Cg at h
 refine cw (n := 101) (rs := [.tmp 0]) Try.func12 fun w0 S0 => ?_
 refine wq rfl (qa rfl (Ac (wq rfl (Df Ar Dp G9 rfl (Df Ar Dp G9 rfl (Df EZ Jc L4 rfl (Ch Fr M1 rfl (qz Fr rfl (qs Cf rfl (Ac (wq rfl (Df Ar Dp G9 rfl (Df Ar Dp G9 rfl (Df EZ Jc L4 rfl (Ch Fr M1 rfl (qz Fr rfl (qs Cf rfl (Ac (wq rfl ?_)))))))))))))))))))
 refine De h fun v1 a1 h => AM [2001, 2002, 2003, 2004] (B9 N false v1 a1) M7 rfl (qL Dm Cf rfl ?_)
 refine De h fun v2 a2 h => C2 [2005] [2001, 2002, 2003, 2004, 19, 20, 21] (Ew N v1 ((Af.mk (([0, 0] : List Int)) (([1, (-1)] : List Int)) (([0] : List Int)))) v2 a2) Pd (ES (fun _ => rfl) Cb) rfl (qm rfl (qx rfl (qx rfl (qa rfl (qa rfl (BD (by kernel_rfl) (wq rfl ?_)))))))
 refine De h fun v3 a3 h => AM [2006, 2007, 2008, 2009] (B9 N false v3 a3) M7 rfl (qL Dm Cf rfl ?_)
 refine De h fun v4 a4 h => C2 [2010] [2006, 2007, 2008, 2009, 15, 16, 17] (Ew N v3 ((Af.mk (([0, 0] : List Int)) (([1, 1] : List Int)) (([0] : List Int)))) v4 a4) Pd (ES (fun _ => rfl) Cb) rfl (qm rfl (qx rfl (qx rfl (qa rfl (qa rfl (BD (by kernel_rfl) (wq rfl ?_)))))))
 refine De h fun v5 a5 h => AM [2011, 2012, 2013, 2014] (B9 N true v5 a5) M7 rfl (qL Dm Cf rfl ?_)
 refine De h fun v6 a6 h => C2 [] [2011, 2012, 2013, 2014, 15, 16, 17] (GR N v5 ((Af.mk (([0, 0] : List Int)) (([1, 1] : List Int)) (([0] : List Int)))) v6 a6) OU Cb rfl (qm rfl (qx rfl (qx rfl (qa rfl (qa rfl (BD (by kernel_rfl) (wq rfl ?_)))))))
 refine De h fun v7 a7 h => AM [2015, 2016, 2017, 2018] (B9 N true v7 a7) M7 rfl (qL Dm Cf rfl ?_)
 refine De h fun v8 a8 h => C2 [] [2015, 2016, 2017, 2018, 15, 16, 17] (FP N v7 ((Af.mk (([0, 0] : List Int)) (([1, 1] : List Int)) (([0] : List Int)))) v8 a8) Pn Cb rfl (qm rfl (qx rfl (qx rfl (qa rfl (qa rfl (BD (by kernel_rfl) (A7 (Aj (BB 15 _ _ rfl rfl) (Aj (BB 16 _ _ rfl rfl) (Aj (BB 17 _ _ rfl rfl) (Ak Aw rfl ?_)))))))))))
 refine De h fun v9 a9 h => AM [] ((B9 N true v9 a9).share rfl) M7 rfl (qL Dm Cf rfl ?_)
 refine De h fun v10 a10 h => AM [] (HT N v9 ((Af.mk (([0, 0] : List Int)) (([1, 1] : List Int)) (([0] : List Int)))) v10 a10) Qe rfl (qm rfl (qx rfl (qx rfl (qx rfl (qz Fr rfl (qz Ho rfl (qs Cf rfl (qs Fz rfl (qa rfl (BD (by kernel_rfl) (wq rfl (Ch Ho LU rfl (Df EN Fz Ho rfl (qe rfl ?_))))))))))))))
 refine Bd h (fun v11 => mk [(0, bD v11)] []) (fun j11 h => ?_) (fun v11 h => ?_)
 ·refine Ak Aw rfl (qm rfl (Cy rfl (qm rfl ?_)))
  refine DD 58 h rfl (fun h => ?_) fun h => ?_
  ·refine qm rfl (Cy rfl (qp rfl (qm rfl ?_)))
   refine DD 62 h rfl (fun h => ?_) fun h => ?_
   ·refine qm rfl (Cy rfl (qp rfl (qm rfl ?_)))
    refine DD 66 h rfl (fun h => ?_) fun h => ?_
    ·refine qm rfl (Cy rfl (qp rfl (qm rfl ?_)))
     refine DD 70 h rfl (fun h => ?_) fun h => ?_
     ·refine qm rfl (Cy rfl (qp rfl (qm rfl ?_)))
      refine DD 74 h rfl (fun h => ?_) fun h => ?_
      ·refine qw 2 rfl ?_
       refine De h fun v17 a17 h => C2 [] [2005, 55] (DH N v2.1 (([(Ae.mk 0 1 0)] : List Ae)) v17 a17) PU Cb rfl (qp rfl (qm rfl ?_))
       refine DD 79 h rfl (fun h => ?_) fun h => ?_
       ·refine qw 2 rfl ?_
        refine De h fun v19 a19 h => C2 [] [2010, 55] (DH N v4.1 (([(Ae.mk 0 1 0)] : List Ae)) v19 a19) PU Cb rfl (qp rfl (qm rfl ?_))
        refine DD 84 h rfl (fun h => ?_) fun h => ?_
        ·refine qm rfl (qp rfl (qm rfl ?_))
         refine DD 87 h rfl (fun h => ?_) fun h => ?_
         ·refine qm rfl (CY rfl (qp rfl (qm rfl ?_)))
          refine DD 91 h rfl (fun h => ?_) fun h => ?_
          ·refine qL Dm Cf rfl (qL Dm Cf rfl ?_)
           refine De h fun v23 a23 h => C2 [] [19, 20, 21] (Gy N v10.1 ((Af.mk (([0, 0] : List Int)) (([1, (-1)] : List Int)) (([0] : List Int)))) v23 a23) QT Cb rfl (qp rfl (qm rfl ?_))
           refine DD 96 h rfl (fun h => ?_) fun h => ?_
           ·refine qL Ll Fz rfl (Ch Ho LU rfl ?_)
            refine Qc [.int .i64 v10.2.1.fq, .int .i64 v10.2.1.fr, .int .i64 v10.2.1.ft] [.int .i64 0, .int .i64 1, .int .i64 ((-1))] (.g rfl rfl) rfl rfl OH rfl ?_
            refine qp rfl (qe rfl ?_)
            exact sn [] h
           ·refine qw 3 rfl (qp rfl (qe rfl ?_))
            exact sn [] h
          ·refine qw 3 rfl (qp rfl (qw 4 rfl (qp rfl (qe rfl ?_))))
           exact sn [] h
         ·refine qw 2 rfl (qp rfl (qw 4 rfl (qp rfl (qw 4 rfl (qp rfl (qe rfl ?_))))))
          exact sn [] h
        ·refine qn rfl (qp rfl (qw 3 rfl (qp rfl (qw 4 rfl (qp rfl (qw 4 rfl (qp rfl (qe rfl ?_))))))))
         exact sn [] h
       ·refine qw 3 rfl (qp rfl (qw 2 rfl (qp rfl (qw 3 rfl (qp rfl (qw 4 rfl (qp rfl (qw 4 rfl (qp rfl (qe rfl ?_))))))))))
        exact sn [] h
      ·refine qw 3 rfl (qp rfl (qw 4 rfl (qp rfl (qw 2 rfl (qp rfl (qw 3 rfl (qp rfl (qw 4 rfl (qp rfl (qw 4 rfl (qp rfl (qe rfl ?_))))))))))))
       exact sn [] h
     ·refine qw 2 rfl (qp rfl (qw 4 rfl (qp rfl (qw 4 rfl (qp rfl (qw 2 rfl (qp rfl (qw 3 rfl (qp rfl (qw 4 rfl (qp rfl (qw 4 rfl (qp rfl (qe rfl ?_))))))))))))))
      exact sn [] h
    ·refine qw 2 rfl (qp rfl (qw 3 rfl (qp rfl (qw 4 rfl (qp rfl (qw 4 rfl (qp rfl (qw 2 rfl (qp rfl (qw 3 rfl (qp rfl (qw 4 rfl (qp rfl (qw 4 rfl (qp rfl (qe rfl ?_))))))))))))))))
     exact sn [] h
   ·refine qw 2 rfl (qp rfl (qw 3 rfl (qp rfl (qw 3 rfl (qp rfl (qw 4 rfl (qp rfl (qw 4 rfl (qp rfl (qw 2 rfl (qp rfl (qw 3 rfl (qp rfl (qw 4 rfl (qp rfl (qw 4 rfl (qp rfl (qe rfl ?_))))))))))))))))))
    exact sn [] h
  ·refine qw 2 rfl (qp rfl (qw 3 rfl (qp rfl (qw 3 rfl (qp rfl (qw 3 rfl (qp rfl (qw 4 rfl (qp rfl (qw 4 rfl (qp rfl (qw 2 rfl (qp rfl (qw 3 rfl (qp rfl (qw 4 rfl (qp rfl (qw 3 rfl ?_))))))))))))))))))
   refine qn rfl (qp rfl (qe rfl ?_))
   exact sn [] h
 ·obtain rfl := sj h
  refine Aj (sm [] [(0, bD v11)] [] rfl rfl) (Av ?_)
  exact ⟨⟨[_], tm, rfl⟩, tv⟩
theorem DR (N : Nat) (p0 : List Int) (p1 : Int) (r : Int) (h : BF N p0 p1 = some r) : Au Try.prog 41 [pD (.sl (p0.map EC)), iD p1] [] (iD r) := by
 unfold BF at h
 refine cw (n := 14) (rs := [.tmp 4]) Try.func41 fun w0 S0 => ?_
 refine wq rfl (qa rfl (Ac (wp rfl (qw 2 rfl (AB Ip rfl (Bw rfl (Ac ?_)))))))
 refine CB h (fun h => ?_) fun h => ?_
 ·refine wq rfl (qw 2 rfl ?_)
  refine CT h fun v2 a2 b2 h => qi Ip QB a2 (Ai b2) rfl (qk Pz rfl (Kn PA O7 rfl (qe rfl ?_)))
  obtain rfl := sj h
  refine Aj (sm [] [(4, iD ((wI .i64 v2)))] [] rfl rfl) (Av ?_)
  exact ⟨⟨[_], tm, rfl⟩, tv⟩
 ·refine Ao (wq rfl (qe rfl ?_))
  obtain rfl := sj h
  refine Aj (sm [] [(4, iD 0)] [] rfl rfl) (Av ?_)
  exact ⟨⟨[_], tm, rfl⟩, tv⟩
theorem FZ (N : Nat) (p0 : Af) (p1 : Int) (r : Int) (h : B0 N p0 p1 = some r) : Au Try.prog 42 [.e (.agg (AW p0)), iD p1] [] (pD (.val (.int .u8 r))) := by
 unfold B0 at h
 refine cw (n := 27) (rs := [.tmp 4]) Try.func42 fun w0 S0 => ?_
 refine wq rfl (qb rfl (qa rfl (Ac (wq rfl (qf D1 rfl (ql Bx rfl (qm rfl ?_)))))))
 refine CT h fun v1 a1 b1 h => qi Ar Dp a1 (Ai b1) rfl (qk Dc rfl ?_)
 refine Ff h fun c2 h => Iu rfl c2 (qe rfl ?_)
 refine Bd h (fun v3 => mk [(5, pD (.val (.int .u8 v3)))] []) (fun j3 h => ?_) (fun v3 h => ?_)
 ·refine wq rfl (qf C8 rfl (ql Bx rfl (qm rfl ?_)))
  refine CT h fun v4 a4 b4 h => qi Ar Dp a4 (Ai b4) rfl (qk Dc rfl (FV rfl (Ac ?_)))
  refine CB h (fun h => ?_) fun h => ?_
  ·refine Ak Aw rfl (qm rfl (qf C8 rfl (ql Bx rfl (qm rfl ?_))))
   refine CT h fun v6 a6 b6 h => qi Ar Dp a6 (Ai b6) rfl (qk Dc rfl ?_)
   refine Ff h fun c7 h => Iu rfl c7 (O3 rfl (qe rfl ?_))
   exact sn [] h
  ·refine Ao ?_
   exact sn [] h
 ·refine wq rfl (qm rfl (qe rfl ?_))
  obtain rfl := sj h
  refine Aj (sm [] [(4, pD (.val (.int .u8 v3)))] [] rfl rfl) (Av ?_)
  exact ⟨⟨[_], tm, rfl⟩, tv⟩
theorem FC (N : Nat) (p0 : Aa) (p1 : Az) (r : Af) (h : BW N p0 p1 = some r) : Au Try.prog 13 [.e (.agg (Am p0)), .e (.agg (BJ p1))] [(1, r.fh.map An), (1, r.fc.map An), (1, r.fg.map EC)] (.e (.agg [.own 0, .own 1, .own 2])) := by
 unfold BW at h
 refine cw (n := 99) (rs := [.cell 4 37]) Try.func13 fun w0 S0 => ?_
 refine wq rfl (qb rfl (qb rfl (qz Fr rfl (Ac (wq rfl (qz Fr rfl (Ac (wp rfl (qe rfl ?_)))))))))
 refine A2 (L := Bj N p0 p1) h (fun v1 => mk [(2, oD (.ptr 2 0)), (3, oD (.ptr 3 0)), (4, oD (.ptr 4 0)), (5, oD (.ptr 5 0)), (6, iD v1.2.2)] [(2, .box (Am p0)), (3, .box (BJ p1)), (4, .box [.pure (.nil0), .pure (.nil0), .pure (.nil0)]), (5, .box [.own 2001, .own 2002, .pure (.nil0)]), (2001, .vec 1 (v1.1.map An)), (2002, .vec 1 (v1.2.1.map An))]) (fun v2 => mk [(2, oD (.ptr 2 0)), (3, oD (.ptr 3 0)), (4, oD (.ptr 4 0)), (5, oD (.ptr 5 0))] [(2, .box (Am p0)), (3, .box (BJ p1)), (4, .box [.pure (.nil0), .pure (.nil0), .pure (.nil0)]), (5, .box [.own 2003, .own 2004, .pure (.nil0)]), (2003, .vec 1 (v2.1.map An)), (2004, .vec 1 (v2.2.map An))]) (fun _ _ => rfl) ((A0 5 0 2007 1 _ rfl rfl rfl rfl).trans ((A0 5 1 2008 1 _ rfl rfl rfl rfl).trans (sm [(2001, 2007), (2002, 2008)] _ _ rfl rfl))) (fun j1 n1 v1 h => ?_) (fun v2 s h hs => ?_)
 ·unfold Bj at h
  refine wp rfl (qm rfl (qf Bi rfl (ql Bx rfl (AB Ar rfl (Bw rfl (Ac ?_))))))
  refine CB h (fun h => ?_) fun h => ?_
  ·refine Ao (A7 (Bf (wq rfl (qf Bi rfl (ql Bx rfl (qm rfl ?_))))))
   refine CT h fun v4 a4 b4 h => qi Ar Dp a4 (Ai b4) rfl (qk Dc rfl (qa rfl (Ac (wq rfl (qf Lq rfl (ql I4 rfl (qm rfl ?_)))))))
   refine De h fun v5 a5 h => AM [] (DR N p1.fh v1.2.2 v5 a5) Pi rfl (qm rfl ?_)
   refine Ff h fun c6 h => Gq rfl c6 (qa rfl (Ac (wq rfl (qe rfl ?_))))
   refine Bd h (fun v7 => mk [(2, oD (.ptr 2 0)), (3, oD (.ptr 3 0)), (4, oD (.ptr 4 0)), (5, oD (.ptr 5 0)), (6, iD v1.2.2), (8, iD ((Int.tmod v5 v4))), (9, iD v7)] [(2, .box (Am p0)), (3, .box (BJ p1)), (4, .box [.pure (.nil0), .pure (.nil0), .pure (.nil0)]), (5, .box [.own 2005, .own 2006, .pure (.nil0)]), (2005, .vec 1 (v1.1.map An)), (2006, .vec 1 (v1.2.1.map An))]) (fun j7 h => ?_) (fun v7 h => ?_)
   ·refine wq rfl (qf LP rfl (ql I4 rfl (qm rfl ?_)))
    refine De h fun v8 a8 h => AM [] (DR N p1.fc v1.2.2 v8 a8) Pi rfl (qm rfl ?_)
    refine Ff h fun c9 h => Gq rfl c9 (qa rfl (Ac (wq rfl (qm rfl (EB rfl (Ac ?_))))))
    refine CB h (fun h => ?_) fun h => ?_
    ·refine Ak Aw rfl (qw 2 rfl (B5 rfl (qm rfl ?_)))
     refine Ff h fun c11 h => Gq rfl c11 (qe rfl ?_)
     exact sn [(2005, 2001), (2006, 2002)] h
    ·refine Ao ?_
     exact sn [(2005, 2001), (2006, 2002)] h
   ·refine wq rfl (qf D1 rfl (ql Bx rfl (qm rfl (Df Ar Dp G9 rfl ?_))))
    refine Ff h fun c12 h => DE (f := An) Ar Ar Dp Ie G9 c12 rfl (qf D1 rfl (qs MS rfl (Ac (Ak Aw rfl (qf C8 rfl (ql Bx rfl (qm rfl (Df Ar Dp G9 rfl ?_))))))))
    refine Ff h fun c13 h => DE (f := An) Ar Ar Dp Ie G9 c13 rfl (qf C8 rfl (qs MS rfl (Ac (Ak Aw rfl (qm rfl (B5 rfl (qe rfl ?_)))))))
    exact sn [(2001, 50), (2002, 56)] h
  ·refine Bv ?_
   exact sn [(2003, 2001), (2004, 2002)] h
 ·refine Aj hs (wp rfl (qe rfl ?_))
  refine A2 (L := AA N p0 p1 v2) h (fun v14 => mk [(2, oD (.ptr 2 0)), (3, oD (.ptr 3 0)), (4, oD (.ptr 4 0)), (5, oD (.ptr 5 0)), (11, iD v14.2)] [(2, .box (Am p0)), (3, .box (BJ p1)), (4, .box [.pure (.nil0), .pure (.nil0), .pure (.nil0)]), (5, .box [.own 2009, .own 2010, .own 2011]), (2009, .vec 1 (v2.1.map An)), (2010, .vec 1 (v2.2.map An)), (2011, .vec 1 (v14.1.map EC))]) (fun v15 => mk [(4, oD (.ptr 4 0)), (5, oD (.ptr 5 0))] [(4, .box [.pure (.nil0), .pure (.nil0), .pure (.nil0)]), (5, .box [.own 2012, .own 2013, .own 2014]), (2012, .vec 1 (v2.1.map An)), (2013, .vec 1 (v2.2.map An)), (2014, .vec 1 (v15.map EC))]) (fun _ _ => rfl) ((A0 5 2 2018 1 _ rfl rfl rfl rfl).trans (sm [(2009, 2003), (2010, 2004), (2011, 2018)] _ _ rfl rfl)) (fun j14 n14 v14 h => ?_) (fun v15 s h hs => ?_)
  ·unfold AA at h
   refine wp rfl (qm rfl (qf BU rfl (ql Fp rfl (AB CI rfl (Bw rfl (Ac ?_))))))
   refine CB h (fun h => ?_) fun h => ?_
   ·refine Ao (A7 (Bf (wq rfl (qf BU rfl (ql Fp rfl (qm rfl ?_))))))
    refine CT h fun v17 a17 b17 h => qi CI C6 a17 (Ai b17) rfl (qK GN C6 rfl (qz GM rfl (qs C6 rfl (Ac (wq rfl (qe rfl ?_))))))
    refine Bd h (fun v18 => mk [(2, oD (.ptr 2 0)), (3, oD (.ptr 3 0)), (4, oD (.ptr 4 0)), (5, oD (.ptr 5 0)), (11, iD v14.2), (13, pD (.val (.int .u8 v18)))] [(2, .box (Am p0)), (3, .box (BJ p1)), (4, .box [.pure (.nil0), .pure (.nil0), .pure (.nil0)]), (5, .box [.own 2015, .own 2016, .own 2017]), (2015, .vec 1 (v2.1.map An)), (2016, .vec 1 (v2.2.map An)), (2017, .vec 1 (v14.1.map EC))]) (fun j18 h => ?_) (fun v18 h => ?_)
    ·refine wq rfl (qL GN C6 rfl ?_)
     refine De h fun v19 a19 h => AM [] (Di N v17 v19 a19) Ps rfl (Ac ?_)
     refine CB h (fun h => ?_) fun h => ?_
     ·refine wq rfl (qf Bi rfl (ql Bx rfl (qf CS rfl (ql Dc rfl ?_))))
      refine CT h fun v21 a21 b21 h => qi Ar Dp a21 (Ai b21) rfl (qk Dc rfl ?_)
      refine Ff h fun c22 h => Iu rfl c22 (OC rfl (qa rfl (Ac (Ak Aw rfl (qL Dm Cf rfl (qf CS rfl (ql Dc rfl ?_)))))))
      refine De h fun v23 a23 h => C2 [] [2009, 2010, 2011] (FZ N ((Af.mk v2.1 v2.2 v14.1)) v17.fd v23 a23) Qv Cb rfl (qf Oq rfl (ql I4 rfl (qm rfl ?_)))
      refine De h fun v24 a24 h => AM [] (DR N p1.fg v14.2 v24 a24) Pi rfl (Kn QZ QQ rfl (qm rfl (Kk rfl (O3 rfl (qa rfl (BD (by kernel_rfl) ?_))))))
      exact sn [(2015, 2009), (2016, 2010), (2017, 2011)] h
     ·refine Ao ?_
      exact sn [(2015, 2009), (2016, 2010), (2017, 2011)] h
    ·refine Ak Aw rfl (qf EF rfl (ql KN rfl (qm rfl (Df EZ Jc L4 rfl ?_))))
     refine Ff h fun c25 h => DE (f := EC) EZ EZ Jc OI L4 c25 rfl (qf EF rfl (qs QE rfl (Ac (Ak Aw rfl (qm rfl (B5 rfl (qe rfl ?_)))))))
     exact sn [(2009, 2015), (2010, 2016), (2011, 96)] h
   ·refine Bv ?_
    exact sn [(2012, 2009), (2013, 2010), (2014, 2011)] h
  ·refine Aj hs (wq rfl (qL Dm Cf rfl (qs Cf rfl (Ac ?_))))
   obtain rfl := sj h
   refine Aj (sm [(1000, 2012), (1001, 2013), (1002, 2014)] [(4, oD (.ptr 4 0))] [(4, .box [.own 1000, .own 1001, .own 1002]), (1000, .vec 1 (v2.1.map An)), (1001, .vec 1 (v2.2.map An)), (1002, .vec 1 (v15.map EC))] rfl rfl) (Av ?_)
   exact ⟨⟨[_], ⟨.cellN _ _ _ _ _ _ _ rfl rfl Dm Cf rfl rfl (Lx rfl), tv⟩, rfl⟩, ⟨rfl, rfl, rfl, tv⟩⟩
theorem Et (N : Nat) (p0 : List (List Bool)) (p1 : Int) (p2 : Int) (r : Bool) (h : BL N p0 p1 p2 = some r) : Au Try.prog 72 [pD (.sl (p0.map (Ec eB))), iD p1, iD p2] [] (bD r) := by
 unfold BL at h
 refine cw (n := 24) (rs := [.tmp 6]) Try.func72 fun w0 S0 => ?_
 refine wq rfl (qa rfl (Ac (wp rfl (qm rfl (AB CU rfl (qm rfl (CV rfl (Ac ?_))))))))
 refine CB h (fun h => ?_) fun h => ?_
 ·refine wq rfl (qe rfl ?_)
  obtain rfl := sj h
  refine Aj (sm [] [(6, bD false)] [] rfl rfl) (Av ?_)
  exact ⟨⟨[_], tm, rfl⟩, tv⟩
 ·refine Ao (wp rfl (qe rfl ?_))
  refine A2 (L := Be N p0 p1 p2) h (fun v2 => mk [(0, pD (.sl (p0.map (Ec eB)))), (1, iD p1), (2, iD p2), (7, iD v2)] []) (fun v3 => mk [] []) (fun _ _ => rfl) (sm [] _ _ rfl rfl) (fun j2 n2 v2 h => ?_) (fun v3 s h hs => ?_)
  ·unfold Be at h
   refine wp rfl (qw 2 rfl (Bw rfl (Ac ?_)))
   refine CB h (fun h => ?_) fun h => ?_
   ·refine Ao (A7 (Bf (wq rfl (qw 2 rfl ?_))))
    refine CT h fun v5 a5 b5 h => qi CU Hg a5 (Ai b5) rfl (qk J2 rfl (AB Dg rfl (qm rfl (CV rfl (Ac ?_)))))
    refine CB h (fun h => ?_) fun h => ?_
    ·refine wq rfl (qe rfl ?_)
     obtain rfl := sj h
     refine Aj (sm [] [(6, bD false)] [] rfl rfl) (Av ?_)
     exact ⟨⟨[_], tm, rfl⟩, tv⟩
    ·refine Ao (Ak Aw rfl (qm rfl (B5 rfl (qe rfl ?_))))
     exact sn [] h
   ·refine Bv ?_
    exact sn [] h
  ·refine Aj hs (wq rfl (qe rfl ?_))
   obtain rfl := sj h
   refine Aj (sm [] [(6, bD true)] [] rfl rfl) (Av ?_)
   exact ⟨⟨[_], tm, rfl⟩, tv⟩
theorem Gw (N : Nat) (p0 : Aa) (p1 : Ab) (r : Int) (h : Ce N p0 p1 = some r) : Au Try.prog 64 [.e (.agg (Am p0)), .e (.agg (Bn p1))] [] (iD r) := by
 unfold Ce at h
 refine cw (n := 101) (rs := [.tmp 4]) Try.func64 fun w0 S0 => ?_
 refine wq rfl (qb rfl (qb rfl (qa rfl (Ac (A7 ?_)))))
 refine Bd h (fun v1 => mk [(2, oD (.ptr 2 0)), (3, oD (.ptr 3 0)), (22, bD v1)] [(2, .box (Am p0)), (3, .box (Bn p1))]) (fun j1 h => ?_) (fun v1 h => ?_)
 ·refine Ak Aw rfl (qf D0 rfl (ql Dc rfl (Bw rfl (qm rfl ?_))))
  refine DD 10 h rfl (fun h => ?_) fun h => ?_
  ·refine qw 3 rfl (qp rfl (qw 4 rfl (qu rfl (qu rfl (qn rfl (qp rfl (Ac ?_)))))))
   exact sn [] h
  ·refine qf D0 rfl (ql Dc rfl (EB rfl (qp rfl (qm rfl ?_))))
   refine DD 15 h rfl (fun h => ?_) fun h => ?_
   ·refine qw 3 rfl (qu rfl (qu rfl (qn rfl (qp rfl (Ac ?_)))))
    exact sn [] h
   ·refine qf FK rfl (ql Np rfl (qm rfl ?_))
    refine DD 18 h rfl (fun h => ?_) fun h => ?_
    ·refine qL GN C6 rfl ?_
     refine De h fun v5 a5 h => AM [] (Di N p1 v5 a5) Ps rfl (qp rfl (qp rfl (Ac ?_)))
     exact sn [] h
    ·refine qw 2 rfl (qp rfl (qp rfl (Ac ?_)))
     exact sn [] h
 ·refine CB h (fun h => ?_) fun h => ?_
  ·refine wq rfl (qe rfl ?_)
   obtain rfl := sj h
   refine Aj (sm [] [(4, iD 1)] [] rfl rfl) (Av ?_)
   exact ⟨⟨[_], tm, rfl⟩, tv⟩
  ·refine Ao (wq rfl (qf Bi rfl (ql Bx rfl (AB Ar rfl (qa rfl (Ac (A7 ?_)))))))
   refine Bd h (fun v7 => mk [(2, oD (.ptr 2 0)), (3, oD (.ptr 3 0)), (45, bD v7)] [(2, .box (Am p0)), (3, .box (Bn p1))]) (fun j7 h => ?_) (fun v7 h => ?_)
   ·refine Ak Aw rfl (qf CS rfl (ql Dc rfl (Bw rfl (qm rfl ?_))))
    refine DD 29 h rfl (fun h => ?_) fun h => ?_
    ·refine qw 4 rfl (qp rfl (qw 4 rfl (qp rfl (qw 5 rfl (qp rfl (Ac ?_))))))
     exact sn [] h
    ·refine qf CS rfl (ql Dc rfl (qm rfl (FV rfl (qp rfl (qm rfl ?_)))))
     refine DD 35 h rfl (fun h => ?_) fun h => ?_
     ·refine qw 3 rfl (qp rfl (qw 5 rfl (qp rfl (Ac ?_))))
      exact sn [] h
     ·refine qf Fd rfl (ql Dc rfl (Bw rfl (qp rfl (qm rfl ?_))))
      refine DD 40 h rfl (fun h => ?_) fun h => ?_
      ·refine qw 4 rfl (qp rfl (Ac ?_))
       exact sn [] h
      ·refine qf Fd rfl (ql Dc rfl (qm rfl (FV rfl (qp rfl (Ac ?_)))))
       exact sn [] h
   ·refine CB h (fun h => ?_) fun h => ?_
    ·refine wq rfl (qe rfl ?_)
     obtain rfl := sj h
     refine Aj (sm [] [(4, iD 4)] [] rfl rfl) (Av ?_)
     exact ⟨⟨[_], tm, rfl⟩, tv⟩
    ·refine Ao (wp rfl (qf En rfl (ql FE rfl (qf Bi rfl (ql Bx rfl (qf CS rfl (ql Dc rfl ?_)))))))
     refine CT h fun v12 a12 b12 h => qi Ar Dp a12 (Ai b12) rfl (qk Dc rfl (qf Bi rfl (ql Bx rfl (qf Fd rfl (ql Dc rfl ?_)))))
     refine CT h fun v13 a13 b13 h => qi Ar Dp a13 (Ai b13) rfl (qk Dc rfl ?_)
     refine De h fun v14 a14 h => AM [] (Et N p1.ff v12 v13 v14 a14) P4 rfl (CY rfl (BD (by kernel_rfl) ?_))
     refine CB h (fun h => ?_) fun h => ?_
     ·refine wq rfl (qe rfl ?_)
      obtain rfl := sj h
      refine Aj (sm [] [(4, iD 6)] [] rfl rfl) (Av ?_)
      exact ⟨⟨[_], tm, rfl⟩, tv⟩
     ·refine Ao (wp rfl (qf D0 rfl (ql Dc rfl (CV rfl (Ac ?_)))))
      refine CB h (fun h => ?_) fun h => ?_
      ·refine wp rfl (qf Ea rfl (ql FE rfl (AB CU rfl (CV rfl (Ac ?_)))))
       refine CB h (fun h => ?_) fun h => ?_
       ·refine wq rfl (qe rfl ?_)
        obtain rfl := sj h
        refine Aj (sm [] [(4, iD 6)] [] rfl rfl) (Av ?_)
        exact ⟨⟨[_], tm, rfl⟩, tv⟩
       ·refine Ao (wq rfl (qe rfl ?_))
        obtain rfl := sj h
        refine Aj (sm [] [(4, iD 0)] [] rfl rfl) (Av ?_)
        exact ⟨⟨[_], tm, rfl⟩, tv⟩
      ·refine Ao (wp rfl (qf Ea rfl (ql FE rfl (qf Bi rfl (ql Bx rfl (qf CS rfl (ql Dc rfl ?_)))))))
       refine CT h fun v18 a18 b18 h => qi Ar Dp a18 (Ai b18) rfl (qk Dc rfl (qf Bi rfl (ql Bx rfl (qf CS rfl (ql Dc rfl ?_)))))
       refine CT h fun v19 a19 b19 h => qi Ar Dp a19 (Ai b19) rfl (qk Dc rfl ?_)
       refine De h fun v20 a20 h => AM [] (Et N p1.fj v18 v19 v20 a20) P4 rfl (CY rfl (BD (by kernel_rfl) ?_))
       refine CB h (fun h => ?_) fun h => ?_
       ·refine wq rfl (qe rfl ?_)
        obtain rfl := sj h
        refine Aj (sm [] [(4, iD 6)] [] rfl rfl) (Av ?_)
        exact ⟨⟨[_], tm, rfl⟩, tv⟩
       ·refine Ao (wp rfl (qe rfl ?_))
        refine A2 (L := A1 N p1) h (fun v22 => mk [(3, oD (.ptr 3 0)), (6, iD v22)] [(3, .box (Bn p1))]) (fun v23 => mk [] []) (fun _ _ => rfl) (sm [] _ _ rfl rfl) (fun j22 n22 v22 h => ?_) (fun v23 s h hs => ?_)
        ·unfold A1 at h
         refine wp rfl (qm rfl (qf Ea rfl (ql FE rfl (AB CU rfl (Bw rfl (Ac ?_))))))
         refine CB h (fun h => ?_) fun h => ?_
         ·refine Ao (A7 (Bf (wq rfl (qf Ea rfl (ql FE rfl (qm rfl ?_))))))
          refine CT h fun v25 a25 b25 h => qi CU Hg a25 (Ai b25) rfl (qk J2 rfl (qm rfl ?_))
          refine CT h fun v26 a26 b26 h => qi Dg Jq a26 (Ai b26) rfl (qk Np rfl (CY rfl (Ac ?_)))
          refine CB h (fun h => ?_) fun h => ?_
          ·refine wq rfl (qe rfl ?_)
           obtain rfl := sj h
           refine Aj (sm [] [(4, iD 1)] [] rfl rfl) (Av ?_)
           exact ⟨⟨[_], tm, rfl⟩, tv⟩
          ·refine Ao (Ak Aw rfl (qm rfl (B5 rfl (qe rfl ?_))))
           exact sn [] h
         ·refine Bv ?_
          exact sn [] h
        ·refine Aj hs (wq rfl (qe rfl ?_))
         obtain rfl := sj h
         refine Aj (sm [] [(4, iD 0)] [] rfl rfl) (Av ?_)
         exact ⟨⟨[_], tm, rfl⟩, tv⟩
theorem Dk (N : Nat) (p0 : Aa) (r : Int) (h : AX N p0 = some r) : Au Try.prog 50 [.e (.agg (Am p0))] [] (iD r) := by
 unfold AX at h
 refine cw (n := 102) (rs := [.tmp 2]) Try.func50 fun w0 S0 => ?_
 refine wq rfl (qb rfl (qa rfl (Ac (A7 ?_))))
 refine Bd h (fun v1 => mk [(1, oD (.ptr 1 0)), (16, bD v1)] [(1, .box (Am p0))]) (fun j1 h => ?_) (fun v1 h => ?_)
 ·refine Ak Aw rfl (qf Bi rfl (ql Bx rfl (AB Ar rfl (EB rfl (qm rfl ?_)))))
  refine DD 11 h rfl (fun h => ?_) fun h => ?_
  ·refine qw 4 rfl (qp rfl (Ac ?_))
   exact sn [] h
  ·refine qf BU rfl (ql Fp rfl (AB CI rfl (EB rfl (qp rfl (Ac ?_)))))
   exact sn [] h
 ·refine CB h (fun h => ?_) fun h => ?_
  ·refine wq rfl (qe rfl ?_)
   obtain rfl := sj h
   refine Aj (sm [] [(2, iD 3)] [] rfl rfl) (Av ?_)
   exact ⟨⟨[_], tm, rfl⟩, tv⟩
  ·refine Ao (A7 ?_)
   refine Bd h (fun v4 => mk [(1, oD (.ptr 1 0)), (32, bD v4)] [(1, .box (Am p0))]) (fun j4 h => ?_) (fun v4 h => ?_)
   ·refine Ak Aw rfl (qf Fg rfl (ql Bx rfl (AB Ar rfl (qf Bi rfl (ql Bx rfl (AB Ar rfl (CV rfl (qm rfl ?_))))))))
    refine DD 24 h rfl (fun h => ?_) fun h => ?_
    ·refine qw 7 rfl (qp rfl (Ac ?_))
     exact sn [] h
    ·refine qf Fh rfl (ql Bx rfl (AB Ar rfl (qf Bi rfl (ql Bx rfl (AB Ar rfl (CV rfl (qp rfl (Ac ?_))))))))
     exact sn [] h
   ·refine CB h (fun h => ?_) fun h => ?_
    ·refine wq rfl (qe rfl ?_)
     obtain rfl := sj h
     refine Aj (sm [] [(2, iD 6)] [] rfl rfl) (Av ?_)
     exact ⟨⟨[_], tm, rfl⟩, tv⟩
    ·refine Ao (wp rfl (qe rfl ?_))
     refine A2 (L := Ay N p0) h (fun v7 => mk [(1, oD (.ptr 1 0)), (3, iD v7)] [(1, .box (Am p0))]) (fun v8 => mk [(1, oD (.ptr 1 0))] [(1, .box (Am p0))]) (fun _ _ => rfl) (sm [] _ _ rfl rfl) (fun j7 n7 v7 h => ?_) (fun v8 s h hs => ?_)
     ·unfold Ay at h
      refine wp rfl (qm rfl (qf Bi rfl (ql Bx rfl (AB Ar rfl (Bw rfl (Ac ?_))))))
      refine CB h (fun h => ?_) fun h => ?_
      ·refine Ao (A7 (Bf (wq rfl (qf Bi rfl (ql Bx rfl (qm rfl ?_))))))
       refine CT h fun v10 a10 b10 h => qi Ar Dp a10 (Ai b10) rfl (qk Dc rfl (qe rfl ?_))
       refine Bd h (fun v11 => mk [(1, oD (.ptr 1 0)), (3, iD v7), (84, bD v11)] [(1, .box (Am p0))]) (fun j11 h => ?_) (fun v11 h => ?_)
       ·refine Ak Aw rfl (qm rfl (Bw rfl (qm rfl ?_)))
        refine DD 47 h rfl (fun h => ?_) fun h => ?_
        ·refine qw 2 rfl (qp rfl (qw 7 rfl (qp rfl (qw 8 rfl (qp rfl (qw 7 rfl (qp rfl (qw 8 rfl (qp rfl (Ac ?_))))))))))
         exact sn [] h
        ·refine qm rfl (EB rfl (qp rfl (qm rfl ?_)))
         refine DD 51 h rfl (fun h => ?_) fun h => ?_
         ·refine qw 6 rfl (qp rfl (qw 8 rfl (qp rfl (qw 7 rfl (qp rfl (qw 8 rfl (qp rfl (Ac ?_))))))))
          exact sn [] h
         ·refine qf Fg rfl (ql Bx rfl (qm rfl ?_))
          refine CT h fun v14 a14 b14 h => qi Ar Dp a14 (Ai b14) rfl (qk Dc rfl (Bw rfl (qp rfl (qm rfl ?_))))
          refine DD 59 h rfl (fun h => ?_) fun h => ?_
          ·refine qw 7 rfl (qp rfl (qw 7 rfl (qp rfl (qw 8 rfl (qp rfl (Ac ?_))))))
           exact sn [] h
          ·refine qf Fg rfl (ql Bx rfl (qm rfl ?_))
           refine CT h fun v16 a16 b16 h => qi Ar Dp a16 (Ai b16) rfl (qk Dc rfl (qm rfl (FV rfl (qp rfl (qm rfl ?_)))))
           refine DD 68 h rfl (fun h => ?_) fun h => ?_
           ·refine qw 6 rfl (qp rfl (qw 8 rfl (qp rfl (Ac ?_))))
            exact sn [] h
           ·refine qf Fh rfl (ql Bx rfl (qm rfl ?_))
            refine CT h fun v18 a18 b18 h => qi Ar Dp a18 (Ai b18) rfl (qk Dc rfl (Bw rfl (qp rfl (qm rfl ?_))))
            refine DD 76 h rfl (fun h => ?_) fun h => ?_
            ·refine qw 7 rfl (qp rfl (Ac ?_))
             exact sn [] h
            ·refine qf Fh rfl (ql Bx rfl (qm rfl ?_))
             refine CT h fun v20 a20 b20 h => qi Ar Dp a20 (Ai b20) rfl (qk Dc rfl (qm rfl (FV rfl (qp rfl (Ac ?_)))))
             exact sn [] h
       ·refine CB h (fun h => ?_) fun h => ?_
        ·refine wq rfl (qe rfl ?_)
         obtain rfl := sj h
         refine Aj (sm [] [(2, iD 7)] [] rfl rfl) (Av ?_)
         exact ⟨⟨[_], tm, rfl⟩, tv⟩
        ·refine Ao (Ak Aw rfl (qm rfl (B5 rfl (qe rfl ?_))))
         exact sn [] h
      ·refine Bv ?_
       exact sn [] h
     ·refine Aj hs (wp rfl (qe rfl ?_))
      refine A2 (L := Ax N p0) h (fun v22 => mk [(1, oD (.ptr 1 0)), (5, iD v22)] [(1, .box (Am p0))]) (fun v23 => mk [] []) (fun _ _ => rfl) (sm [] _ _ rfl rfl) (fun j22 n22 v22 h => ?_) (fun v23 s h hs => ?_)
      ·unfold Ax at h
       refine wp rfl (qm rfl (qf BU rfl (ql Fp rfl (AB CI rfl (Bw rfl (Ac ?_))))))
       refine CB h (fun h => ?_) fun h => ?_
       ·refine Ao (A7 (Bf (wq rfl (qL Ei Dh rfl (qf BU rfl (ql Fp rfl (qm rfl ?_)))))))
        refine CT h fun v25 a25 b25 h => qi CI C6 a25 (Ai b25) rfl (qK GN C6 rfl ?_)
        refine De h fun v26 a26 h => AM [] (Gw N p0 v25 v26 a26) Qq rfl (qa rfl (BD (by kernel_rfl) (wq rfl (qm rfl (CV rfl (Ac ?_))))))
        refine CB h (fun h => ?_) fun h => ?_
        ·refine wq rfl (qm rfl (qe rfl ?_))
         obtain rfl := sj h
         refine Aj (sm [] [(2, iD v26)] [] rfl rfl) (Av ?_)
         exact ⟨⟨[_], tm, rfl⟩, tv⟩
        ·refine Ao (Ak Aw rfl (qm rfl (B5 rfl (qe rfl ?_))))
         exact sn [] h
       ·refine Bv ?_
        exact sn [] h
      ·refine Aj hs (wq rfl (qe rfl ?_))
       obtain rfl := sj h
       refine Aj (sm [] [(2, iD 0)] [] rfl rfl) (Av ?_)
       exact ⟨⟨[_], tm, rfl⟩, tv⟩
theorem D3 (N : Nat) (p0 : List (List Bool)) (r : (List (List Bool))) (h : Bs N p0 = some r) : FA Try.prog 65 [pD (.sl (p0.map (Ec eB)))] [] [.dvec 1 [.x 1 []] (r.map (Ec eB))] (oD (.own 0)) := by
 unfold Bs at h
 refine E2 (n := 21) (rs := [.tmp 2]) Try.func65 rfl rfl rfl (Jd rfl) (Jd rfl) rfl rfl (Jd rfl) rfl (Jd rfl) fun w0 S0 GL => ?_
 refine Aj (sm [] [(0, pD (.sl (p0.map (Ec eB))))] [] rfl rfl) (wq rfl (qa rfl (Ac (wq rfl (qa rfl (Ac (wp rfl (qe rfl ?_))))))))
 refine A2 (L := A5 N p0) h (fun v1 => mk [(0, pD (.sl (p0.map (Ec eB)))), (3, oD (.own 2001)), (4, iD v1.2)] [(2001, .dvec 1 [.x 1 []] (v1.1.map (Ec eB)))]) (fun v2 => mk [(3, oD (.own 2002))] [(2002, .dvec 1 [.x 1 []] (v2.map (Ec eB)))]) (fun _ _ => rfl) ((Cw 3 2003 1 rfl rfl rfl).trans ((Gt 2003 1 [.x 1 []] [] [] rfl rfl).trans (sm [(2001, 2003)] _ _ rfl rfl))) (fun j1 n1 v1 h => ?_) (fun v2 s h hs => ?_)
 ·unfold A5 at h
  refine wp rfl (qw 2 rfl (AB CU rfl (Bw rfl (Ac ?_))))
  refine CB h (fun h => ?_) fun h => ?_
  ·refine Ao (A7 (Bf (Ak Aw rfl (qm rfl (Df Dg Jq Nn rfl (qw 2 rfl ?_))))))
   refine CT h fun v4 a4 b4 h => qi CU Hg a4 (Ai b4) rfl (qk J2 rfl ?_)
   refine Ff h fun c5 h => HD (f := eB) Dg Dg Jq NY Nn (fun _ => rfl) c5 rfl ?_
   refine GH (x := .one (.own 17)) (cs := [.own 17]) (ts := [.sl (((([] : List Bool)) ++ v4).map eB)]) [.x 1 []] [(17, .vec 1 (((([] : List Bool)) ++ v4).map eB))] (.p rfl) rfl rfl rfl rfl rfl ⟨rfl, tv⟩ ⟨rfl, tv⟩ rfl rfl rfl CU Hg ML (Jd rfl) ?_
   refine Ff h fun c6 h => Js (.p rfl) rfl rfl rfl rfl rfl (by decide) CU CU Hg OO (Jd rfl) ML rfl (Ly (f := (Ec eB)) (g := (Ec eB)) (xs := v1.1) (ys := (([(([] : List Bool)) ++ v4] : List (List Bool)))) c6) (LQ (Ec eB) v1.1 (([(([] : List Bool)) ++ v4] : List (List Bool)))) rfl rfl ?_
   refine qa rfl (Ac (Ak Aw rfl (qm rfl (B5 rfl (qe rfl ?_)))))
   exact sn [(2001, 19)] h
  ·refine Bv ?_
   exact sn [(2002, 2001)] h
 ·refine Aj hs (wq rfl (qm rfl (qe rfl ?_)))
  obtain rfl := sj h
  refine Aj (sm [(1000, 2002)] [(2, oD (.own 1000))] [(1000, .dvec 1 [.x 1 []] (v2.map (Ec eB)))] rfl rfl) (Av ?_)
  exact ⟨⟨[_], tm, rfl⟩, tv, ⟨rfl, tv⟩⟩
theorem FQ (N : Nat) (p0 : Ab) (p1 : Int) (p2 : Int) (r : Ab) (h : Ci N p0 p1 p2 = some r) : FA Try.prog 51 [.e (.agg (Bn p0)), iD p1, iD p2] [] [.dvec 1 [.x 1 []] (r.ff.map (Ec eB)), .dvec 1 [.x 1 []] (r.fj.map (Ec eB))] (.e (.agg [iC r.fe, iC r.fd, iC r.fi, .pure (.val (.bool r.fo)), .own 0, .own 1])) := by
 unfold Ci at h
 refine E2 (n := 20) (rs := [.cell 6 61]) Try.func51 rfl rfl rfl (Jd rfl) (Jd rfl) rfl rfl (Jd rfl) rfl (Jd rfl) fun w0 S0 GL => ?_
 refine Aj (sm [] [(0, .e (.agg (Bn p0))), (1, iD p1), (2, iD p2)] [] rfl rfl) (wq rfl (qb rfl (qz GM rfl (Ac (wq rfl (qf D0 rfl (ql Dc rfl (qw 2 rfl (qf FK rfl (ql Np rfl (qf En rfl (ql FE rfl ?_))))))))))))
 refine De h fun v1 a1 h => Ib (ds0 := [_]) [] [2001] [] (D3 N p0.ff v1 a1) (.p rfl) PM rfl ⟨rfl, tv⟩ rfl rfl (by decide) tv rfl (Fa rfl) ⟨rfl, tv⟩ tv rfl rfl rfl ?_
 refine qf Ea rfl (ql FE rfl ?_)
 refine De h fun v2 a2 h => Ib (ds0 := [_]) [] [2002] [] (D3 N p0.fj v2 a2) (.p rfl) PM rfl ⟨rfl, tv⟩ rfl rfl (by decide) tv rfl (Fa rfl) ⟨rfl, tv⟩ tv rfl rfl rfl ?_
 refine Ch GM Px rfl (qs C6 rfl (BD (by kernel_rfl) ?_))
 obtain rfl := sj h
 refine Aj (sm [(1000, 2001), (1001, 2002)] [(6, oD (.ptr 6 0))] [(6, .box [iC p0.fe, iC p1, iC p2, .pure (.val (.bool p0.fo)), .own 1000, .own 1001]), (1000, .dvec 1 [.x 1 []] (v1.map (Ec eB))), (1001, .dvec 1 [.x 1 []] (v2.map (Ec eB)))] rfl rfl) (Av ?_)
 exact ⟨⟨[_], ⟨.cellN _ _ _ _ _ _ _ rfl rfl GN C6 rfl rfl (Lx rfl), tv⟩, rfl⟩, tv, ⟨rfl, rfl, tv⟩⟩
theorem Fw (N : Nat) (p0 : Aa) (p1 : List Int) (p2 : List Int) (r : Aa × Int) (h : BM N p0 p1 p2 = some r) : FA Try.prog 26 [.e (.agg (Am p0)), pD (.sl (p1.map An)), pD (.sl (p2.map An))] [] [.vec 1 (r.1.fa.map An), .vec 1 (r.1.fk.map An), .vec 1 (r.1.fm.map An), .dvec 6 [.s, .s, .s, .s, .x 1 [.x 1 []], .x 1 [.x 1 []]] (r.1.fb.map Ap)] (.tup [.agg [.own 0, .own 1, .own 2, .own 3], .one (iC r.2)]) := by
 unfold BM at h
 refine E2 (n := 66) (rs := [.cell 6 31, .tmp 7]) Try.func26 rfl rfl rfl (Jd rfl) (Jd rfl) rfl rfl (Jd rfl) rfl (Jd rfl) fun w0 S0 GL => ?_
 refine Aj (sm [] [(0, .e (.agg (Am p0))), (1, pD (.sl (p1.map An))), (2, pD (.sl (p2.map An)))] [] rfl rfl) (wq rfl (qb rfl (qz H6 rfl (qa rfl (Ac (wp rfl (qL Ei Dh rfl ?_)))))))
 refine De h fun v1 a1 h => AM [] (Dk N p0 v1 a1) PT rfl (qa rfl (Ac (wq rfl (qm rfl (CV rfl (Ac ?_))))))
 refine CB h (fun h => ?_) fun h => ?_
 ·refine wq rfl (Ch H6 MU rfl (qm rfl (qs Dh rfl (qe rfl ?_))))
  obtain rfl := sj h
  refine Aj ((A0 6 0 2001 1 _ rfl rfl rfl rfl).trans ((A0 6 1 2002 1 _ rfl rfl rfl rfl).trans ((A0 6 2 2003 1 _ rfl rfl rfl rfl).trans ((A0 6 3 2004 6 _ rfl rfl rfl rfl).trans ((Gt 2004 6 [.s, .s, .s, .s, .x 1 [.x 1 []], .x 1 [.x 1 []]] [] [] rfl rfl).trans (sm [(1000, 2001), (1001, 2002), (1002, 2003), (1003, 2004)] [(6, oD (.ptr 6 0)), (7, iD v1)] [(6, .box [.own 1000, .own 1001, .own 1002, .own 1003]), (1000, .vec 1 ((([] : List Int)).map An)), (1001, .vec 1 ((([] : List Int)).map An)), (1002, .vec 1 ((([] : List Int)).map An)), (1003, .dvec 6 [.s, .s, .s, .s, .x 1 [.x 1 []], .x 1 [.x 1 []]] ((([] : List Ab)).map Ap))] rfl rfl)))))) (Av ?_)
  exact ⟨⟨[_, _], ⟨.cellN _ _ _ _ _ _ _ rfl rfl Ei Dh rfl rfl (Lx rfl), tm⟩, rfl⟩, tv, ⟨rfl, rfl, rfl, rfl, tv⟩⟩
 ·refine Ao (wq rfl (Df Ar Dp G9 rfl (qf Bi rfl (ql Bx rfl ?_))))
  refine Ff h fun c3 h => HD (f := An) Ar Ar Dp Ie G9 (fun _ => rfl) c3 rfl (Df Ar Dp G9 rfl (qm rfl ?_))
  refine Ff h fun c4 h => HD (f := An) Ar Ar Dp Ie G9 (fun _ => rfl) c4 rfl (Df Ar Dp G9 rfl (qm rfl ?_))
  refine Ff h fun c5 h => HD (f := An) Ar Ar Dp Ie G9 (fun _ => rfl) c5 rfl (Ch H6 MU rfl (qz H6 rfl (qs Dh rfl (Ac (wp rfl (qe rfl ?_))))))
  refine A2 (L := AY N p0) h (fun v6 => mk [(3, oD (.ptr 3 0)), (6, oD (.ptr 6 0)), (9, oD (.ptr 9 0)), (10, iD v6.2)] [(3, .box (Am p0)), (6, .box [.pure (.nil0), .pure (.nil0), .pure (.nil0), .pure (.nil0)]), (9, .box [.own 2005, .own 2006, .own 2007, .own 2008]), (2005, .vec 1 (((([] : List Int)) ++ p0.fa).map An)), (2006, .vec 1 (((([] : List Int)) ++ p1).map An)), (2007, .vec 1 (((([] : List Int)) ++ p2).map An)), (2008, .dvec 6 [.s, .s, .s, .s, .x 1 [.x 1 []], .x 1 [.x 1 []]] (v6.1.map Ap))]) (fun v7 => mk [(6, oD (.ptr 6 0)), (9, oD (.ptr 9 0))] [(6, .box [.pure (.nil0), .pure (.nil0), .pure (.nil0), .pure (.nil0)]), (9, .box [.own 2009, .own 2010, .own 2011, .own 2012]), (2009, .vec 1 (((([] : List Int)) ++ p0.fa).map An)), (2010, .vec 1 (((([] : List Int)) ++ p1).map An)), (2011, .vec 1 (((([] : List Int)) ++ p2).map An)), (2012, .dvec 6 [.s, .s, .s, .s, .x 1 [.x 1 []], .x 1 [.x 1 []]] (v7.map Ap))]) (fun _ _ => rfl) ((A0 9 3 2015 6 _ rfl rfl rfl rfl).trans ((Gt 2015 6 [.s, .s, .s, .s, .x 1 [.x 1 []], .x 1 [.x 1 []]] [] [] rfl rfl).trans (sm [(2005, 21), (2006, 24), (2007, 27), (2008, 2015)] _ _ rfl rfl))) (fun j6 n6 v6 h => ?_) (fun v7 s h hs => ?_)
  ·unfold AY at h
   refine wp rfl (qm rfl (qf BU rfl (ql Fp rfl (AB CI rfl (Bw rfl (Ac ?_))))))
   refine CB h (fun h => ?_) fun h => ?_
   ·refine Ao (A7 (Bf (Ak Aw rfl (qf BU rfl (ql Fp rfl (qf BU rfl (ql Fp rfl (qm rfl ?_))))))))
    refine CT h fun v9 a9 b9 h => qi CI C6 a9 (Ai b9) rfl (qK GN C6 rfl (qf BU rfl (ql Fp rfl (qm rfl ?_))))
    refine CT h fun v10 a10 b10 h => qi CI C6 a10 (Ai b10) rfl (qg CS rfl (qk Dc rfl (qf BU rfl (ql Fp rfl (qm rfl ?_)))))
    refine CT h fun v11 a11 b11 h => qi CI C6 a11 (Ai b11) rfl (qg Fd rfl (qk Dc rfl ?_))
    refine De h fun v12 a12 h => Ib (ds0 := [_, _, _]) [] [2013, 2014] [] (FQ N v9 v10.fd v11.fi v12 a12) (.p rfl) QG rfl ⟨rfl, rfl, rfl, tv⟩ rfl rfl (by decide) tv rfl (Fa rfl) ⟨rfl, rfl, tv⟩ tv rfl rfl rfl ?_
    refine GH (x := .agg [iC v12.fe, iC v12.fd, iC v12.fi, .pure (.val (.bool v12.fo)), .own 2013, .own 2014]) (cs := [iC v12.fe, iC v12.fd, iC v12.fi, .pure (.val (.bool v12.fo)), .own 2013, .own 2014]) (ts := [.val (.int .i64 v12.fe), .val (.int .i64 v12.fd), .val (.int .i64 v12.fi), .val (.bool v12.fo), .sl (v12.ff.map (Ec eB)), .sl (v12.fj.map (Ec eB))]) [.s, .s, .s, .s, .x 1 [.x 1 []], .x 1 [.x 1 []]] [(2013, .dvec 1 [.x 1 []] (v12.ff.map (Ec eB))), (2014, .dvec 1 [.x 1 []] (v12.fj.map (Ec eB)))] (.p rfl) rfl rfl rfl rfl rfl ⟨rfl, rfl, tv⟩ ⟨rfl, rfl, rfl, rfl, rfl, rfl, tv⟩ rfl rfl rfl CI C6 GM (Jd rfl) ?_
    refine Ff h fun c13 h => Js (.p rfl) rfl rfl rfl rfl rfl (by decide) CI CI C6 OR (Jd rfl) GM rfl (Ly (f := Ap) (g := Ap) (xs := v6.1) (ys := (([v12] : List Ab))) c13) (LQ Ap v6.1 (([v12] : List Ab))) rfl rfl ?_
    refine qf BU rfl (qs PZ rfl (BD (by kernel_rfl) (Ak Aw rfl (qm rfl (B5 rfl (qe rfl ?_))))))
    exact sn [(2008, 57)] h
   ·refine Bv ?_
    exact sn [(2009, 2005), (2010, 2006), (2011, 2007), (2012, 2008)] h
  ·refine Aj hs (wp rfl (qL Ei Dh rfl ?_))
   refine De h fun v14 a14 h => C2 [] [2009, 2010, 2011, 2012] (Dk N ((Aa.mk ((([] : List Int)) ++ p0.fa) ((([] : List Int)) ++ p1) ((([] : List Int)) ++ p2) v7)) v14 a14) PT Cb rfl (qa rfl (Ac (wq rfl (qm rfl (CV rfl (Ac ?_))))))
   refine CB h (fun h => ?_) fun h => ?_
   ·refine wq rfl (Ch H6 MU rfl (qm rfl (qs Dh rfl (qe rfl ?_))))
    obtain rfl := sj h
    refine Aj ((A0 6 0 2016 1 _ rfl rfl rfl rfl).trans ((A0 6 1 2017 1 _ rfl rfl rfl rfl).trans ((A0 6 2 2018 1 _ rfl rfl rfl rfl).trans ((A0 6 3 2019 6 _ rfl rfl rfl rfl).trans ((Gt 2019 6 [.s, .s, .s, .s, .x 1 [.x 1 []], .x 1 [.x 1 []]] [] [] rfl rfl).trans (sm [(1000, 2016), (1001, 2017), (1002, 2018), (1003, 2019)] [(6, oD (.ptr 6 0)), (7, iD v14)] [(6, .box [.own 1000, .own 1001, .own 1002, .own 1003]), (1000, .vec 1 ((([] : List Int)).map An)), (1001, .vec 1 ((([] : List Int)).map An)), (1002, .vec 1 ((([] : List Int)).map An)), (1003, .dvec 6 [.s, .s, .s, .s, .x 1 [.x 1 []], .x 1 [.x 1 []]] ((([] : List Ab)).map Ap))] rfl rfl)))))) (Av ?_)
    exact ⟨⟨[_, _], ⟨.cellN _ _ _ _ _ _ _ rfl rfl Ei Dh rfl rfl (Lx rfl), tm⟩, rfl⟩, tv, ⟨rfl, rfl, rfl, rfl, tv⟩⟩
   ·refine Ao (wq rfl (qL Ei Dh rfl (qs Dh rfl (qe rfl ?_))))
    obtain rfl := sj h
    refine Aj (sm [(1000, 2009), (1001, 2010), (1002, 2011), (1003, 2012)] [(6, oD (.ptr 6 0)), (7, iD 0)] [(6, .box [.own 1000, .own 1001, .own 1002, .own 1003]), (1000, .vec 1 (((([] : List Int)) ++ p0.fa).map An)), (1001, .vec 1 (((([] : List Int)) ++ p1).map An)), (1002, .vec 1 (((([] : List Int)) ++ p2).map An)), (1003, .dvec 6 [.s, .s, .s, .s, .x 1 [.x 1 []], .x 1 [.x 1 []]] (v7.map Ap))] rfl rfl) (Av ?_)
    exact ⟨⟨[_, _], ⟨.cellN _ _ _ _ _ _ _ rfl rfl Ei Dh rfl rfl (Lx rfl), tm⟩, rfl⟩, tv, ⟨rfl, rfl, rfl, rfl, tv⟩⟩
theorem F1 (N : Nat) (p0 : A4) (p1 : Az) (p2 : List Int) (r : Bool) (h : BX N p0 p1 p2 = some r) : Au Try.prog 6 [.e (.agg (Br p0)), .e (.agg (BJ p1)), pD (.sl (p2.map Jg))] [] (bD r) := by
 unfold BX at h
 refine cw (n := 188) (rs := [.tmp 6]) Try.func6 fun w0 S0 => ?_
 refine wq rfl (qb rfl (qb rfl (qa rfl (Ac (wq rfl (qL Qt QR rfl ?_))))))
 refine De h fun v1 a1 h => AM [2001, 2002, 2003, 2004] (Hy N p0 v1 a1) Qz rfl (qm rfl (qx rfl (qx rfl (qz H6 rfl (qs Dh rfl (qa rfl (Ac (A7 ?_))))))))
 refine Bd h (fun v2 => mk [(2, pD (.sl (p2.map Jg))), (4, oD (.ptr 4 0)), (7, oD (.ptr 7 0)), (36, bD v2)] [(4, .box (BJ p1)), (7, .box [.own 2005, .own 2006, .own 2007, .own 2008]), (2005, .vec 1 (v1.1.fa.map An)), (2006, .vec 1 (v1.1.fk.map An)), (2007, .vec 1 (v1.1.fm.map An)), (2008, .vec 6 (v1.1.fb.map Ap))]) (fun j2 h => ?_) (fun v2 h => ?_)
 ·refine Ak Aw rfl ?_
  refine De h fun v3 a3 h => AM [] (EA N v3 a3) P6 rfl (CY rfl (qm rfl ?_))
  refine DD 33 h rfl (fun h => ?_) fun h => ?_
  ·refine qw 2 rfl (qp rfl (Ac ?_))
   exact sn [(2005, 2001), (2006, 2002), (2007, 2003), (2008, 2004)] h
  ·refine qm rfl (CY rfl (qp rfl (Ac ?_)))
   exact sn [(2005, 2001), (2006, 2002), (2007, 2003), (2008, 2004)] h
 ·refine CB h (fun h => ?_) fun h => ?_
  ·refine wq rfl ?_
   refine De h fun v6 a6 h => AM [] (EA N v6 a6) P6 rfl (qe rfl ?_)
   obtain rfl := sj h
   refine Aj (sm [] [(6, bD v6)] [] rfl rfl) (Av ?_)
   exact ⟨⟨[_], tm, rfl⟩, tv⟩
  ·refine Ao (wq rfl (qL Ei Dh rfl (qL QD Qs rfl ?_)))
   refine De h fun v7 a7 h => C2 [2009, 2010, 2011] [2005, 2006, 2007, 2008] (FC N v1.1 p1 v7 a7) PJ (ES (fun _ => rfl) (ES (fun _ => rfl) (ES (fun _ => rfl) Cb))) rfl (qz Fr rfl (qs Cf rfl (Ac (wq rfl (qL Ei Dh rfl (qL Dm Cf rfl ?_))))))
   refine De h fun v8 a8 h => C2 [] [2005, 2006, 2007, 2008, 2009, 2010, 2011] (GR N v1.1 v7 v8 a8) OU Cb rfl (qm rfl (qx rfl (qx rfl (qa rfl (qa rfl (Ac (wq rfl (qL Ei Dh rfl (qL Dm Cf rfl ?_)))))))))
   refine De h fun v9 a9 h => C2 [] [2005, 2006, 2007, 2008, 2009, 2010, 2011] (FP N v1.1 v7 v9 a9) Pn Cb rfl (qm rfl (qx rfl (qx rfl (qa rfl (qa rfl (Ac (wq rfl (qL Ei Dh rfl (qf Fg rfl (ql Bx rfl (qf Fh rfl (ql Bx rfl (DV (BB 2005 _ _ rfl rfl) (DV (BB 2006 _ _ rfl rfl) (DV (BB 2007 _ _ rfl rfl) (DV (BB 2008 _ _ rfl rfl) ?_))))))))))))))))
   refine De h fun v10 a10 h => Ib (ds0 := [_, _, _]) [] [2012, 2013, 2014, 2015] [] (Fw N v1.1 v1.1.fk v1.1.fm v10 a10) (.p rfl) QP rfl ⟨rfl, rfl, rfl, tv⟩ rfl rfl (by decide) tv rfl (Fa rfl) ⟨rfl, rfl, rfl, rfl, tv⟩ tv rfl rfl rfl ?_
   refine qm rfl (qx rfl (qx rfl (qz H6 rfl (qs Dh rfl (qa rfl (Ac (wq rfl (qL Ei Dh rfl (qf Lq rfl (ql I4 rfl (qf LP rfl (ql I4 rfl (Ch QC Qw rfl ?_)))))))))))))
   refine De h fun v11 a11 h => AM [2016, 2017, 2018] (FC N v1.1 ((Az.mk p1.fh p1.fc (([] : List Int)))) v11 a11) PJ rfl (qz Fr rfl (qs Cf rfl (Ac (wp rfl (qf BU rfl (ql Fp rfl ?_))))))
   refine M9 (.p rfl) rfl rfl (Hm Ap v10.1.fb _ _) CI ?_
   refine qm rfl (Ac ?_)
   refine A2 (L := AQ N p2 v10) h (fun v12 => mk [(2, pD (.sl (p2.map Jg))), (9, oD (.ptr 9 0)), (10, bD v8.1), (11, iD v8.2), (12, bD v9.1), (13, iD v9.2), (14, oD (.ptr 14 0)), (16, oD (.ptr 16 0)), (71, iD ((v10.1.fb.length : Int))), (72, iD v12.2)] [(9, .box [.own 2019, .own 2020, .own 2021]), (14, .box [.own 2022, .own 2023, .own 2024, .own 2025]), (16, .box [.own 2026, .own 2027, .own 2028]), (2019, .vec 1 (v7.fh.map An)), (2020, .vec 1 (v7.fc.map An)), (2021, .vec 1 (v7.fg.map EC)), (2022, .vec 1 (v10.1.fa.map An)), (2023, .vec 1 (v10.1.fk.map An)), (2024, .vec 1 (v10.1.fm.map An)), (2025, .dvec 6 [.s, .s, .s, .s, .x 1 [.x 1 []], .x 1 [.x 1 []]] (v12.1.map Ap)), (2026, .vec 1 (v11.fh.map An)), (2027, .vec 1 (v11.fc.map An)), (2028, .vec 1 (v11.fg.map EC))]) (fun v13 => mk [(9, oD (.ptr 9 0)), (10, bD v8.1), (11, iD v8.2), (12, bD v9.1), (13, iD v9.2), (14, oD (.ptr 14 0)), (16, oD (.ptr 16 0))] [(9, .box [.own 2029, .own 2030, .own 2031]), (14, .box [.own 2032, .own 2033, .own 2034, .own 2035]), (16, .box [.own 2036, .own 2037, .own 2038]), (2029, .vec 1 (v7.fh.map An)), (2030, .vec 1 (v7.fc.map An)), (2031, .vec 1 (v7.fg.map EC)), (2032, .vec 1 (v10.1.fa.map An)), (2033, .vec 1 (v10.1.fk.map An)), (2034, .vec 1 (v10.1.fm.map An)), (2035, .dvec 6 [.s, .s, .s, .s, .x 1 [.x 1 []], .x 1 [.x 1 []]] (v13.map Ap)), (2036, .vec 1 (v11.fh.map An)), (2037, .vec 1 (v11.fc.map An)), (2038, .vec 1 (v11.fg.map EC))]) (fun _ _ => rfl) (sm [(2019, 2009), (2020, 2010), (2021, 2011), (2022, 2012), (2023, 2013), (2024, 2014), (2025, 2015), (2026, 2016), (2027, 2017), (2028, 2018)] _ _ rfl rfl) (fun j12 n12 v12 h => ?_) (fun v13 s h hs => ?_)
   ·unfold AQ at h
    refine wq rfl (Bw rfl (Ac (A7 ?_)))
    refine CB h (fun h => ?_) fun h => ?_
    ·refine Ao (A7 (Bf (wq rfl (qm rfl (qa rfl (Ac (wp rfl (qw 2 rfl (AB OA rfl (FV rfl (Ac ?_)))))))))))
     refine CB h (fun h => ?_) fun h => ?_
     ·refine Bv ?_
      exact sn [(2029, 2019), (2030, 2020), (2031, 2021), (2032, 2022), (2033, 2023), (2034, 2024), (2035, 2025), (2036, 2026), (2037, 2027), (2038, 2028)] h
     ·refine Ao (wq rfl (qf BU rfl (ql Fp rfl (qm rfl ?_))))
      refine CT h fun v16 a16 b16 h => EV (.p rfl) rfl rfl rfl (Hm Ap v12.1 _ _) CI C6 a16 (Al b16) ?_
      refine qh En rfl ?_
      refine KY (.p rfl) rfl FE rfl (Ai b16) rfl rfl rfl rfl ?_
      refine M9 (.p rfl) rfl rfl (Hm (Ec eB) v16.ff _ _) CU ?_
      refine qm rfl (Ac (Aj (Em 2025 84 (e2 := 1) (cols2 := [.x 1 []]) (rows2 := v16.ff.map (Ec eB)) rfl rfl rfl (Ai b16) rfl rfl (IC (Ai b16) rfl)) ?_))
      refine A2 (L := AE N p2 v12 v16) h (fun v17 => mk [(2, pD (.sl (p2.map Jg))), (9, oD (.ptr 9 0)), (10, bD v8.1), (11, iD v8.2), (12, bD v9.1), (13, iD v9.2), (14, oD (.ptr 14 0)), (16, oD (.ptr 16 0)), (17, iD v12.2), (71, iD ((v10.1.fb.length : Int))), (72, iD v12.2), (85, iD ((v16.ff.length : Int))), (86, iD v17.2)] [(9, .box [.own 2039, .own 2040, .own 2041]), (14, .box [.own 2042, .own 2043, .own 2044, .own 2045]), (16, .box [.own 2046, .own 2047, .own 2048]), (2039, .vec 1 (v7.fh.map An)), (2040, .vec 1 (v7.fc.map An)), (2041, .vec 1 (v7.fg.map EC)), (2042, .vec 1 (v10.1.fa.map An)), (2043, .vec 1 (v10.1.fk.map An)), (2044, .vec 1 (v10.1.fm.map An)), (2045, .dvec 6 [.s, .s, .s, .s, .x 1 [.x 1 []], .x 1 [.x 1 []]] (v17.1.map Ap)), (2046, .vec 1 (v11.fh.map An)), (2047, .vec 1 (v11.fc.map An)), (2048, .vec 1 (v11.fg.map EC))]) (fun v18 => mk [(2, pD (.sl (p2.map Jg))), (9, oD (.ptr 9 0)), (10, bD v8.1), (11, iD v8.2), (12, bD v9.1), (13, iD v9.2), (14, oD (.ptr 14 0)), (16, oD (.ptr 16 0)), (71, iD ((v10.1.fb.length : Int))), (72, iD v12.2)] [(9, .box [.own 2049, .own 2050, .own 2051]), (14, .box [.own 2052, .own 2053, .own 2054, .own 2055]), (16, .box [.own 2056, .own 2057, .own 2058]), (2049, .vec 1 (v7.fh.map An)), (2050, .vec 1 (v7.fc.map An)), (2051, .vec 1 (v7.fg.map EC)), (2052, .vec 1 (v10.1.fa.map An)), (2053, .vec 1 (v10.1.fk.map An)), (2054, .vec 1 (v10.1.fm.map An)), (2055, .dvec 6 [.s, .s, .s, .s, .x 1 [.x 1 []], .x 1 [.x 1 []]] (v18.map Ap)), (2056, .vec 1 (v11.fh.map An)), (2057, .vec 1 (v11.fc.map An)), (2058, .vec 1 (v11.fg.map EC))]) (fun _ _ => rfl) (sm [(2039, 2019), (2040, 2020), (2041, 2021), (2042, 2022), (2043, 2023), (2044, 2024), (2045, 2025), (2046, 2026), (2047, 2027), (2048, 2028)] _ _ rfl rfl) (fun j17 n17 v17 h => ?_) (fun v18 s h hs => ?_)
      ·unfold AE at h
       refine wq rfl (Bw rfl (Ac (A7 ?_)))
       refine CB h (fun h => ?_) fun h => ?_
       ·refine Ao (A7 (Bf (wq rfl (qm rfl (qa rfl (Ac (wq rfl (qf BU rfl (ql Fp rfl (qm rfl ?_))))))))))
        refine CT h fun v20 a20 b20 h => EV (.p rfl) rfl rfl rfl (Hm Ap v17.1 _ _) CI C6 a20 (Al b20) ?_
        refine qh En rfl ?_
        refine KY (.p rfl) rfl FE rfl (Ai b20) rfl rfl rfl rfl ?_
        refine qm rfl ?_
        refine CT h fun v21 a21 b21 h => EV (.p rfl) rfl rfl rfl (Hm (Ec eB) v20.ff _ _) CU Hg a21 (Al b21) ?_
        refine KY (.p rfl) rfl J2 rfl (Ai b21) rfl rfl rfl rfl ?_
        refine FI Dg rfl (qm rfl (Ac (Aj ((Em 94 97 (e2 := 1) (cols2 := []) (rows2 := v21.map eB) rfl rfl rfl (Ai b21) rfl rfl (IC (Ai b21) rfl)).trans (Em 2045 94 (e2 := 1) (cols2 := [.x 1 []]) (rows2 := v20.ff.map (Ec eB)) rfl rfl rfl (Ai b20) rfl rfl (IC (Ai b20) rfl))) ?_)))
        refine A2 (L := AP N p2 v12 v17 v21) h (fun v22 => mk [(2, pD (.sl (p2.map Jg))), (9, oD (.ptr 9 0)), (10, bD v8.1), (11, iD v8.2), (12, bD v9.1), (13, iD v9.2), (14, oD (.ptr 14 0)), (16, oD (.ptr 16 0)), (17, iD v12.2), (18, iD v17.2), (71, iD ((v10.1.fb.length : Int))), (72, iD v12.2), (85, iD ((v16.ff.length : Int))), (86, iD v17.2), (98, iD ((v21.length : Int))), (99, iD v22.2)] [(9, .box [.own 2059, .own 2060, .own 2061]), (14, .box [.own 2062, .own 2063, .own 2064, .own 2065]), (16, .box [.own 2066, .own 2067, .own 2068]), (2059, .vec 1 (v7.fh.map An)), (2060, .vec 1 (v7.fc.map An)), (2061, .vec 1 (v7.fg.map EC)), (2062, .vec 1 (v10.1.fa.map An)), (2063, .vec 1 (v10.1.fk.map An)), (2064, .vec 1 (v10.1.fm.map An)), (2065, .dvec 6 [.s, .s, .s, .s, .x 1 [.x 1 []], .x 1 [.x 1 []]] (v22.1.map Ap)), (2066, .vec 1 (v11.fh.map An)), (2067, .vec 1 (v11.fc.map An)), (2068, .vec 1 (v11.fg.map EC))]) (fun v23 => mk [(2, pD (.sl (p2.map Jg))), (9, oD (.ptr 9 0)), (10, bD v8.1), (11, iD v8.2), (12, bD v9.1), (13, iD v9.2), (14, oD (.ptr 14 0)), (16, oD (.ptr 16 0)), (17, iD v12.2), (71, iD ((v10.1.fb.length : Int))), (72, iD v12.2), (85, iD ((v16.ff.length : Int))), (86, iD v17.2)] [(9, .box [.own 2069, .own 2070, .own 2071]), (14, .box [.own 2072, .own 2073, .own 2074, .own 2075]), (16, .box [.own 2076, .own 2077, .own 2078]), (2069, .vec 1 (v7.fh.map An)), (2070, .vec 1 (v7.fc.map An)), (2071, .vec 1 (v7.fg.map EC)), (2072, .vec 1 (v10.1.fa.map An)), (2073, .vec 1 (v10.1.fk.map An)), (2074, .vec 1 (v10.1.fm.map An)), (2075, .dvec 6 [.s, .s, .s, .s, .x 1 [.x 1 []], .x 1 [.x 1 []]] (v23.map Ap)), (2076, .vec 1 (v11.fh.map An)), (2077, .vec 1 (v11.fc.map An)), (2078, .vec 1 (v11.fg.map EC))]) (fun _ _ => rfl) (sm [(2059, 2039), (2060, 2040), (2061, 2041), (2062, 2042), (2063, 2043), (2064, 2044), (2065, 2045), (2066, 2046), (2067, 2047), (2068, 2048)] _ _ rfl rfl) (fun j22 n22 v22 h => ?_) (fun v23 s h hs => ?_)
        ·unfold AP at h
         refine wq rfl (Bw rfl (Ac (A7 ?_)))
         refine CB h (fun h => ?_) fun h => ?_
         ·refine Ao ?_
          refine Bd h (fun v25 => mk [(2, pD (.sl (p2.map Jg))), (9, oD (.ptr 9 0)), (10, bD v8.1), (11, iD v8.2), (12, bD v9.1), (13, iD v9.2), (14, oD (.ptr 14 0)), (16, oD (.ptr 16 0)), (17, iD v12.2), (18, iD v17.2), (71, iD ((v10.1.fb.length : Int))), (72, iD v12.2), (85, iD ((v16.ff.length : Int))), (86, iD v17.2), (98, iD ((v21.length : Int))), (99, iD v22.2)] [(9, .box [.own 2079, .own 2080, .own 2081]), (14, .box [.own 2082, .own 2083, .own 2084, .own 2085]), (16, .box [.own 2086, .own 2087, .own 2088]), (2079, .vec 1 (v7.fh.map An)), (2080, .vec 1 (v7.fc.map An)), (2081, .vec 1 (v7.fg.map EC)), (2082, .vec 1 (v10.1.fa.map An)), (2083, .vec 1 (v10.1.fk.map An)), (2084, .vec 1 (v10.1.fm.map An)), (2085, .dvec 6 [.s, .s, .s, .s, .x 1 [.x 1 []], .x 1 [.x 1 []]] (v25.map Ap)), (2086, .vec 1 (v11.fh.map An)), (2087, .vec 1 (v11.fc.map An)), (2088, .vec 1 (v11.fg.map EC))]) (fun j25 h => ?_) (fun v25 h => ?_)
          ·refine Bf (wq rfl (qm rfl (qe rfl ?_)))
           refine CT h fun v26 a26 b26 h => Aj (Jw 2065 2089 ((v12.2).toNat) 4 rfl (Ai b26) rfl rfl rfl rfl rfl) ?_
           refine CT h fun v27 a27 b27 h => Aj (Jw 2089 2090 ((v17.2).toNat) 0 rfl (Ai b27) rfl rfl rfl rfl rfl) (Ak Aw rfl (qf BU rfl (ql Fp rfl (qm rfl ?_))))
           refine CT h fun v28 a28 b28 h => EV (.p rfl) rfl rfl rfl (J7 Ap v22.1 _ _ _ _ _) CI C6 a28 (Al b28) ?_
           refine qh En rfl ?_
           refine H8 (.p rfl) rfl FE rfl (Ai b28) rfl ?_
           refine qm rfl ?_
           refine CT h fun v29 a29 b29 h => EV (.p rfl) rfl rfl rfl (J7 (Ec eB) v26.ff _ _ _ _ _) CU Hg a29 (Al b29) ?_
           refine H8 (.p rfl) rfl J2 rfl (Ai b29) rfl ?_
           refine qm rfl (qf BU rfl (ql Fp rfl (qm rfl ?_)))
           refine CT h fun v30 a30 b30 h => EV (.p rfl) rfl rfl rfl (J7 Ap v22.1 _ _ _ _ _) CI C6 a30 (Al b30) ?_
           refine qh En rfl ?_
           refine H8 (.p rfl) rfl FE rfl (Ai b30) rfl ?_
           refine qm rfl ?_
           refine CT h fun v31 a31 b31 h => EV (.p rfl) rfl rfl rfl (J7 (Ec eB) v26.ff _ _ _ _ _) CU Hg a31 (Al b31) ?_
           refine H8 (.p rfl) rfl J2 rfl (Ai b31) rfl ?_
           refine qm rfl ?_
           refine CT h fun v32 a32 b32 h => qI Dg Jq a32 (Ai b32) rfl (qj Np (Ai b32) rfl (qm rfl ?_))
           refine DD 124 h rfl (fun h => ?_) fun h => ?_
           ·refine qw 11 rfl (qp rfl ?_)
            refine CT h fun v34 a34 b34 h => qI Dg Jq a34 (Ai b34) rfl ?_
            refine IW rfl rfl rfl rfl (Ai b34) rfl Jq rfl (Jd rfl) (EO eB v27 _ true) ?_
            refine BD (by kernel_rfl) ?_
            exact OY _ h (((Em 2089 2090 (e2 := 1) (cols2 := []) (rows2 := (v27.set ((v22.2).toNat) true).map eB) rfl rfl rfl (Ai b27) rfl rfl (EO (Ec eB) v26.ff _ (v27.set ((v22.2).toNat) true))).trans (Em 2065 2089 (e2 := 1) (cols2 := [.x 1 []]) (rows2 := (v26.ff.set ((v17.2).toNat) (v27.set ((v22.2).toNat) true)).map (Ec eB)) rfl rfl rfl (Ai b26) rfl rfl (EO Ap v22.1 _ ((Ab.mk v26.fe v26.fd v26.fi v26.fo (v26.ff.set ((v17.2).toNat) (v27.set ((v22.2).toNat) true)) v26.fj))))).trans (sm [(2079, 2059), (2080, 2060), (2081, 2061), (2082, 2062), (2083, 2063), (2084, 2064), (2085, 2065), (2086, 2066), (2087, 2067), (2088, 2068)] _ _ rfl rfl))
           ·refine qw 2 rfl ?_
            refine CT h fun v35 a35 b35 h => qi OA QN a35 (Ai b35) rfl (qk Pj rfl (qm rfl (Mg rfl (qm rfl (B5 rfl ?_)))))
            refine Ff h fun c36 h => Jh rfl c36 (Kk rfl (Cy rfl (qp rfl ?_)))
            refine CT h fun v37 a37 b37 h => qI Dg Jq a37 (Ai b37) rfl ?_
            refine IW rfl rfl rfl rfl (Ai b37) rfl Jq rfl (Jd rfl) (EO eB v27 _ (((E7 .u16 ((E8 .u16 v35 ((wI .i64 ((wI .i64 (3 * v17.2)) + v22.2))))) 1) == 1))) ?_
            refine BD (by kernel_rfl) ?_
            exact OY _ h (((Em 2089 2090 (e2 := 1) (cols2 := []) (rows2 := (v27.set ((v22.2).toNat) (((E7 .u16 ((E8 .u16 v35 ((wI .i64 ((wI .i64 (3 * v17.2)) + v22.2))))) 1) == 1))).map eB) rfl rfl rfl (Ai b27) rfl rfl (EO (Ec eB) v26.ff _ (v27.set ((v22.2).toNat) (((E7 .u16 ((E8 .u16 v35 ((wI .i64 ((wI .i64 (3 * v17.2)) + v22.2))))) 1) == 1))))).trans (Em 2065 2089 (e2 := 1) (cols2 := [.x 1 []]) (rows2 := (v26.ff.set ((v17.2).toNat) (v27.set ((v22.2).toNat) (((E7 .u16 ((E8 .u16 v35 ((wI .i64 ((wI .i64 (3 * v17.2)) + v22.2))))) 1) == 1)))).map (Ec eB)) rfl rfl rfl (Ai b26) rfl rfl (EO Ap v22.1 _ ((Ab.mk v26.fe v26.fd v26.fi v26.fo (v26.ff.set ((v17.2).toNat) (v27.set ((v22.2).toNat) (((E7 .u16 ((E8 .u16 v35 ((wI .i64 ((wI .i64 (3 * v17.2)) + v22.2))))) 1) == 1)))) v26.fj))))).trans (sm [(2079, 2059), (2080, 2060), (2081, 2061), (2082, 2062), (2083, 2063), (2084, 2064), (2085, 2065), (2086, 2066), (2087, 2067), (2088, 2068)] _ _ rfl rfl))
          ·refine Ak Aw rfl (B5 rfl (qm rfl (Ac ?_)))
           exact sn [(2059, 2079), (2060, 2080), (2061, 2081), (2062, 2082), (2063, 2083), (2064, 2084), (2065, 2085), (2066, 2086), (2067, 2087), (2068, 2088)] h
         ·refine Bv ?_
          exact sn [(2069, 2059), (2070, 2060), (2071, 2061), (2072, 2062), (2073, 2063), (2074, 2064), (2075, 2065), (2076, 2066), (2077, 2067), (2078, 2068)] h
        ·refine Aj hs (Ak Aw rfl (B5 rfl (qm rfl (Ac ?_))))
         exact sn [(2039, 2069), (2040, 2070), (2041, 2071), (2042, 2072), (2043, 2073), (2044, 2074), (2045, 2075), (2046, 2076), (2047, 2077), (2048, 2078)] h
       ·refine Bv ?_
        exact sn [(2049, 2039), (2050, 2040), (2051, 2041), (2052, 2042), (2053, 2043), (2054, 2044), (2055, 2045), (2056, 2046), (2057, 2047), (2058, 2048)] h
      ·refine Aj hs (Ak Aw rfl (B5 rfl (qm rfl (Ac ?_))))
       exact sn [(2019, 2049), (2020, 2050), (2021, 2051), (2022, 2052), (2023, 2053), (2024, 2054), (2025, 2055), (2026, 2056), (2027, 2057), (2028, 2058)] h
    ·refine Bv ?_
     exact sn [(2029, 2019), (2030, 2020), (2031, 2021), (2032, 2022), (2033, 2023), (2034, 2024), (2035, 2025), (2036, 2026), (2037, 2027), (2038, 2028)] h
   ·refine Aj hs (wp rfl (qL Dm Cf rfl (qL Dm Cf rfl (DV (BB 2029 _ _ rfl rfl) (DV (BB 2030 _ _ rfl rfl) (DV (BB 2031 _ _ rfl rfl) (DV (BB 2036 _ _ rfl rfl) (DV (BB 2037 _ _ rfl rfl) (DV (BB 2038 _ _ rfl rfl) (Df HN Cf Fr rfl ?_))))))))))
    refine MK (.p rfl) rfl (.own _ _ _) ⟨rfl, tv⟩ rfl HN ?_
    refine qm rfl (Ac ?_)
    refine A2 (L := As N v7 v8 v9 v10 v11 v13) h (fun v38 => mk [(10, bD v8.1), (11, iD v8.2), (12, bD v9.1), (13, iD v9.2), (14, oD (.ptr 14 0)), (143, oD (.own 2095)), (144, iD (((([v7, v11] : List Af)).length : Int))), (145, iD v38)] [(14, .box [.own 2091, .own 2092, .own 2093, .own 2094]), (2091, .vec 1 (v10.1.fa.map An)), (2092, .vec 1 (v10.1.fk.map An)), (2093, .vec 1 (v10.1.fm.map An)), (2094, .dvec 6 [.s, .s, .s, .s, .x 1 [.x 1 []], .x 1 [.x 1 []]] (v13.map Ap)), (2095, .vec 3 ((([v7, v11] : List Af)).map DM))]) (fun v39 => mk [(11, iD v8.2), (13, iD v9.2)] []) (fun _ _ => rfl) (sm [(2091, 2032), (2092, 2033), (2093, 2034), (2094, 2035), (2095, 143)] _ _ rfl rfl) (fun j38 n38 v38 h => ?_) (fun v39 s h hs => ?_)
    ·unfold As at h
     refine wq rfl (Bw rfl (Ac (A7 ?_)))
     refine CB h (fun h => ?_) fun h => ?_
     ·refine Ao (A7 (Bf (wq rfl ?_)))
      refine CT h fun v41 a41 b41 h => qI HN Cf a41 (Ai b41) rfl (qJ Dm Cf (Ai b41) rfl (qz Fr rfl (qs Cf rfl (Ac (wq rfl (qL Ei Dh rfl (qL Dm Cf rfl ?_)))))))
      refine De h fun v42 a42 h => C2 [] [2091, 2092, 2093, 2094] (GR N ((Aa.mk v10.1.fa v10.1.fk v10.1.fm v13)) v41 v42 a42) OU Cb rfl (qm rfl (qx rfl (qx rfl (qa rfl (qa rfl (Ac (wq rfl (qL Ei Dh rfl (qL Dm Cf rfl ?_)))))))))
      refine De h fun v43 a43 h => C2 [] [2091, 2092, 2093, 2094] (FP N ((Aa.mk v10.1.fa v10.1.fk v10.1.fm v13)) v41 v43 a43) Pn Cb rfl (qm rfl (qx rfl (qx rfl (qa rfl (qe rfl ?_)))))
      refine Bd h (fun v44 => mk [(10, bD v8.1), (11, iD v8.2), (12, bD v9.1), (13, iD v9.2), (14, oD (.ptr 14 0)), (143, oD (.own 2100)), (144, iD (((([v7, v11] : List Af)).length : Int))), (145, iD v38), (180, bD v44)] [(14, .box [.own 2096, .own 2097, .own 2098, .own 2099]), (2096, .vec 1 (v10.1.fa.map An)), (2097, .vec 1 (v10.1.fk.map An)), (2098, .vec 1 (v10.1.fm.map An)), (2099, .dvec 6 [.s, .s, .s, .s, .x 1 [.x 1 []], .x 1 [.x 1 []]] (v13.map Ap)), (2100, .vec 3 ((([v7, v11] : List Af)).map DM))]) (fun j44 h => ?_) (fun v44 h => ?_)
      ·refine Ak Aw rfl (qm rfl (CV rfl (qm rfl ?_)))
       refine DD 163 h rfl (fun h => ?_) fun h => ?_
       ·refine qw 2 rfl (qp rfl (qw 3 rfl (qu rfl (qu rfl (qn rfl (qp rfl (qw 3 rfl (qu rfl (qu rfl (qn rfl (qp rfl (Ac ?_))))))))))))
        exact sn [(2096, 2091), (2097, 2092), (2098, 2093), (2099, 2094), (2100, 2095)] h
       ·refine qm rfl (CV rfl (qp rfl (qm rfl ?_)))
        refine DD 167 h rfl (fun h => ?_) fun h => ?_
        ·refine qw 2 rfl (qu rfl (qu rfl (qn rfl (qp rfl (qw 3 rfl (qu rfl (qu rfl (qn rfl (qp rfl (Ac ?_))))))))))
         exact sn [(2096, 2091), (2097, 2092), (2098, 2093), (2099, 2094), (2100, 2095)] h
        ·refine qw 2 rfl ?_
         refine DD 169 h rfl (fun h => ?_) fun h => ?_
         ·refine qm rfl (CY rfl (qp rfl (qp rfl (qm rfl ?_))))
          refine DD 174 h rfl (fun h => ?_) fun h => ?_
          ·refine qw 2 rfl (qu rfl (qu rfl (qn rfl (qp rfl (Ac ?_)))))
           exact sn [(2096, 2091), (2097, 2092), (2098, 2093), (2099, 2094), (2100, 2095)] h
          ·refine qw 2 rfl ?_
           refine DD 176 h rfl (fun h => ?_) fun h => ?_
           ·refine qm rfl (CY rfl (qp rfl (qp rfl (Ac ?_))))
            exact sn [(2096, 2091), (2097, 2092), (2098, 2093), (2099, 2094), (2100, 2095)] h
           ·refine qw 2 rfl (qp rfl (qp rfl (Ac ?_)))
            exact sn [(2096, 2091), (2097, 2092), (2098, 2093), (2099, 2094), (2100, 2095)] h
         ·refine qw 2 rfl (qp rfl (qp rfl (qw 3 rfl ?_)))
          refine DD 176 h rfl (fun h => ?_) fun h => ?_
          ·refine qm rfl (CY rfl (qp rfl (qp rfl (Ac ?_))))
           exact sn [(2096, 2091), (2097, 2092), (2098, 2093), (2099, 2094), (2100, 2095)] h
          ·refine qw 2 rfl (qp rfl (qp rfl (Ac ?_)))
           exact sn [(2096, 2091), (2097, 2092), (2098, 2093), (2099, 2094), (2100, 2095)] h
      ·refine CB h (fun h => ?_) fun h => ?_
       ·refine wq rfl (qe rfl ?_)
        obtain rfl := sj h
        refine Aj (sm [] [(6, bD false)] [] rfl rfl) (Av ?_)
        exact ⟨⟨[_], tm, rfl⟩, tv⟩
       ·refine Ao (Ak Aw rfl (B5 rfl (qm rfl (Ac ?_))))
        exact sn [(2091, 2096), (2092, 2097), (2093, 2098), (2094, 2099), (2095, 2100)] h
     ·refine Bv ?_
      exact sn [] h
    ·refine Aj hs ?_
     refine Bd h (fun v52 => mk [(6, bD v52)] []) (fun j52 h => ?_) (fun v52 h => ?_)
     ·refine Ak Aw rfl (qm rfl (Cy rfl (qm rfl ?_)))
      refine DD 184 h rfl (fun h => ?_) fun h => ?_
      ·refine qm rfl (Cy rfl (qp rfl (qe rfl ?_)))
       exact sn [] h
      ·refine qw 2 rfl (qp rfl (qe rfl ?_))
       exact sn [] h
     ·obtain rfl := sj h
      refine Aj (sm [] [(6, bD v52)] [] rfl rfl) (Av ?_)
      exact ⟨⟨[_], tm, rfl⟩, tv⟩
end Go.Lift
